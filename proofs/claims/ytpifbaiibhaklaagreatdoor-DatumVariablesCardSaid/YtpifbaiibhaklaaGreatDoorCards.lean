/-
  DERIVED. GIVEN WITH THE SEED: THE CARDS: each row of YtpifbaiibhaklaaGreatDoorRows.lean that lists a variable, with what it lists TIED to the program's text (the seventh form; the later family's looks); each row that meets fmt, with fmt's text TOLD by the authors' own Lean function (tested against real Go, not proved from fmt's source: count such statements apart). THE CARD IS WHAT COUNTS. Prove the row's statement (the work); the ties are given (YtpifbaiibhaklaaGreatDoorTie.lean); close each card by the builder's one call (the guide's Derived/Test/ToyasCard.lean, 'card_holds'). Laid BY PROGRAM, IN A SANDBOX (cutbox-door.mjs). By AI agents, Wed Nov 11 2026. No macro, syntax, notation, axiom, sorry.
-/
import Derived.Test.YtpifbaiibhaklaaGreatDoorRows
import GoSem.ClaimSeven
namespace Go.Proofs.YtpifbaiibhaklaaGreatDoor
namespace Rows

/-- THE TIED CARD OF 'dowellaw38.DatumLimits'. -/
def datumLimitsCard : Claim7 := { stood := { row := datumLimitsRow, standIns := [], harness := (true, "a05ca937f99f99440b523fb430be56f4a88fec46e4fc99bd4730d86fc3f91e9b"), looks := true }, kinds := [], alts := [], laidByText := true, laidKinds := [.data, .data, .data, .data, .sentinel, .sentinel, .pinned], laidTests := true, laidLooks := .later }
def DatumLimitsCardSaid : Prop := Claim7.holds Tryz.pinned (.plain (OpenSpec.ofChange datumLimitsSpec)) datumLimitsCard

/-- THE TIED CARD OF 'dowellaw38.DatumVariables'. -/
def datumVariablesCard : Claim7 := { stood := { row := datumVariablesRow, standIns := [], harness := (true, "a05ca937f99f99440b523fb430be56f4a88fec46e4fc99bd4730d86fc3f91e9b"), looks := true }, kinds := [], alts := [], laidByText := true, laidKinds := [.data, .data, .data, .data, .sentinel, .sentinel, .pinned], laidTests := true, laidLooks := .later }
def DatumVariablesCardSaid : Prop := Claim7.holds Tryz.pinned (.plain (OpenSpec.ofChange datumVariablesSpec)) datumVariablesCard

/-- THE TIED CARD OF 'dowellaw38.DatumChains'. -/
def datumChainsCard : Claim7 := { stood := { row := datumChainsRow, standIns := [], harness := (true, "a05ca937f99f99440b523fb430be56f4a88fec46e4fc99bd4730d86fc3f91e9b"), looks := true }, kinds := [], alts := [], laidByText := true, laidKinds := [.data, .data, .data, .data, .sentinel, .sentinel, .pinned], laidTests := true, laidLooks := .later }
def DatumChainsCardSaid : Prop := Claim7.holds Tryz.pinned (.plain (OpenSpec.ofChange datumChainsSpec)) datumChainsCard

/-- THE TIED CARD OF 'dowellaw38.DatumChecks'. -/
def datumChecksCard : Claim7 := { stood := { row := datumChecksRow, standIns := [], harness := (true, "a05ca937f99f99440b523fb430be56f4a88fec46e4fc99bd4730d86fc3f91e9b"), looks := true }, kinds := [], alts := [], laidByText := true, laidKinds := [.data, .data, .data, .data, .sentinel, .sentinel, .pinned], laidTests := true, laidLooks := .later }
def DatumChecksCardSaid : Prop := Claim7.holds Tryz.pinned (.plain (OpenSpec.ofChange datumChecksSpec)) datumChecksCard

/-- THE SECOND FORM's CARD OF 'dowellaw38.DatumLimits'. -/
def datumLimitsUptoCard : Claim7 := { stood := { row := datumLimitsUptoRow, standIns := [], harness := (true, "a05ca937f99f99440b523fb430be56f4a88fec46e4fc99bd4730d86fc3f91e9b"), looks := true }, kinds := [], alts := [], laidByText := true, laidKinds := [.data, .data, .data, .data, .sentinel, .sentinel, .pinned], laidTests := true, laidLooks := .later }
def DatumLimitsUptoCardSaid : Prop := Claim7.holds Tryz.pinned (.plain (OpenSpec.upto datumLimitsSpec)) datumLimitsUptoCard

/-- THE SECOND FORM's CARD OF 'dowellaw38.DatumVariables'. -/
def datumVariablesUptoCard : Claim7 := { stood := { row := datumVariablesUptoRow, standIns := [], harness := (true, "a05ca937f99f99440b523fb430be56f4a88fec46e4fc99bd4730d86fc3f91e9b"), looks := true }, kinds := [], alts := [], laidByText := true, laidKinds := [.data, .data, .data, .data, .sentinel, .sentinel, .pinned], laidTests := true, laidLooks := .later }
def DatumVariablesUptoCardSaid : Prop := Claim7.holds Tryz.pinned (.plain (OpenSpec.upto datumVariablesSpec)) datumVariablesUptoCard

/-- THE SECOND FORM's CARD OF 'dowellaw38.DatumChains'. -/
def datumChainsUptoCard : Claim7 := { stood := { row := datumChainsUptoRow, standIns := [], harness := (true, "a05ca937f99f99440b523fb430be56f4a88fec46e4fc99bd4730d86fc3f91e9b"), looks := true }, kinds := [], alts := [], laidByText := true, laidKinds := [.data, .data, .data, .data, .sentinel, .sentinel, .pinned], laidTests := true, laidLooks := .later }
def DatumChainsUptoCardSaid : Prop := Claim7.holds Tryz.pinned (.plain (OpenSpec.upto datumChainsSpec)) datumChainsUptoCard

/-- THE SECOND FORM's CARD OF 'dowellaw38.DatumChecks'. -/
def datumChecksUptoCard : Claim7 := { stood := { row := datumChecksUptoRow, standIns := [], harness := (true, "a05ca937f99f99440b523fb430be56f4a88fec46e4fc99bd4730d86fc3f91e9b"), looks := true }, kinds := [], alts := [], laidByText := true, laidKinds := [.data, .data, .data, .data, .sentinel, .sentinel, .pinned], laidTests := true, laidLooks := .later }
def DatumChecksUptoCardSaid : Prop := Claim7.holds Tryz.pinned (.plain (OpenSpec.upto datumChecksSpec)) datumChecksUptoCard
end Rows
end Go.Proofs.YtpifbaiibhaklaaGreatDoor
