/- DatumLimits: the schemes that it makes.
  DatumLimits: the walk.
  DatumLimits: from the walk to the row.
  DatumLimits: the card. -/
import Derived.Test.YtpifbaiibhaklaaGreatDoorL4
import Derived.Laws.StructEq
import Derived.Maps.Own
import Derived.Deep.RegionLaw
import Derived.Orders
import Derived.RegionTactic
import Derived.Deep.DeepCutAuto
import Derived.Test.YtpifbaiibhaklaaGreatDoorL9
import Derived.Test.YtpifbaiibhaklaaGreatDoorL10
import Derived.Test.YtpifbaiibhaklaaGreatDoorCards
import Derived.Test.YtpifbaiibhaklaaGreatDoorTie
import Derived.ProofKit
import Derived.OpenShut
import Derived.Below
import Derived.ChangeSame
import Derived.Deep.DeepHandedRow
import Derived.Lib.LaidTab
namespace Go.Proofs.YtpifbaiibhaklaaGreatDoor
open Go.RowKit Big Go.ChangeMaps
set_option maxHeartbeats 400000
set_option linter.unusedVariables false
set_option linter.unusedSimpArgs false

def limName (i : Nat) : ByteArray := ⟨#[102]⟩ ++ Utf8.encode (97 + i)
def limF1 (i : Nat) : Feat := ⟨limName i, 2, 0, (i : Int) - 1, 0, 1⟩
def limF (k : Nat) : List Feat := (List.range k).map limF1
def limZ1 (i : Nat) : Zon := ⟨1 + ((i % 2 : Nat) : Int), ((i / 2 : Nat) : Int), 0, 0, false⟩
def limZ (q : Nat) : List Zon := (List.range q).map limZ1
def limS (k q : Nat) : Sch := ⟨limF k, limZ q⟩
theorem limF_succ (k : Nat) : limF (k + 1) = limF k ++ [limF1 k] := by simp [limF, List.range_succ]
theorem limZ_succ (k : Nat) : limZ (k + 1) = limZ k ++ [limZ1 k] := by simp [limZ, List.range_succ]
theorem limF_len (k : Nat) : (limF k).length = k := by simp [limF]
theorem limZ_len (k : Nat) : (limZ k).length = k := by simp [limZ]
theorem lim_noform (q : Nat) (fe : Int) : zoneOf (limZ q) fe 3 = none := by
  unfold zoneOf
  rw [List.find?_eq_none]
  intro z hz
  obtain ⟨i, _, rfl⟩ := List.mem_map.1 hz
  unfold zoneP limZ1
  simp
  intro _
  omega
theorem lim_vars (k q n : Nat) (hn : n ≤ k) : (varsTo (limS k q) n).length = 2 * n := by
  induction n with
  | zero => rfl
  | succ n ih =>
    have hk : ((limS k q).fs.getD n fd).kind = 2 := by
      show ((limF k).getD n fd).kind = 2
      rw [List.getD_eq_getElem?_getD, List.getElem?_eq_getElem (by rw [limF_len]; omega)]
      simp [limF, limF1]
    unfold varsTo varsAt
    rw [if_pos hk, show zoneOf (limS k q).zs n 3 = none from lim_noform q n, List.length_append, ih (by omega)]
    simp
    omega
theorem lim_dims (k q : Nat) : (dimsOf (limS k q)).length = 2 * k := by
  unfold dimsOf varsOf
  rw [List.length_map, show (limS k q).fs.length = k from limF_len k]
  exact lim_vars k q k (Nat.le_refl _)
end Go.Proofs.YtpifbaiibhaklaaGreatDoor
namespace Go.Proofs.YtpifbaiibhaklaaGreatDoor
open Go.RowKit Big Go.ChangeMaps
set_option maxHeartbeats 40000000
set_option linter.unusedVariables false
set_option linter.unusedSimpArgs false

theorem info_feat : (Tryz.prog.info? 28).map (fun i => (i.zero, i.size, i.bytes)) = some (some (.agg #[.string ByteArray.empty, .int .i64 0, .int .i64 0, .int .i64 0, .int .i64 0, .int .i64 0]), 6, 56) := by kernel_rfl
theorem info_zone : (Tryz.prog.info? 30).map (fun i => (i.zero, i.size, i.bytes)) = some (some (.agg #[.int .i64 0, .int .i64 0, .int .i64 0, .int .i64 0, .bool false]), 5, 40) := by kernel_rfl
set_option maxRecDepth 100000 in
theorem DatumLimits_any (a b : Nat) (ha : a < 256) (hb : b < 256) (w : World) (hg : Good w) :
    Calls Tryz.prog 3 #[.int .u8 (a : Int), .int .u8 (b : Int)] w fun e w' => e = .returned (.bool true) ∧ Below w.heap.size w w' := by
  have HG := Lib.hid (fun W (hW : Below w.heap.size w W) => hg.below hW)
  obtain ⟨k, hk⟩ : ∃ k, k = a % 18 := ⟨_, rfl⟩
  have hk18 : k < 18 := by omega
  have hkm : Int.tmod (a : Int) 18 = (k : Int) := by rw [hk]; rfl
  have hk' := Lib.hid hk
  clear hk
  obtain ⟨qb, hqb⟩ : ∃ qb, qb = b % 34 := ⟨_, rfl⟩
  have hqb34 : qb < 34 := by omega
  have hqm : Int.tmod (b : Int) 34 = (qb : Int) := by rw [hqb]; rfl
  have hqb' := Lib.hid hqb
  clear hqb
  go_enter Tryz.func3, Tryz.ntmps3
  go_wp2_with fail
  refine (known_any _ hg).mono ?_
  rintro e w1 ⟨rfl, hb1⟩
  obtain ⟨W5, e5⟩ : ∃ W5 : World, W5 = w1.alloc (.cells #[.slice none 0 0, .slice none 0 0] 26) := ⟨_, rfl⟩
  go_wp2_with fail
  rw [← e5]
  go_loopw [16] (fun q wr => ∃ (i : Nat) (v : Value), i ≤ k ∧ q = .int .i64 (i : Int) ∧ wr.cell? ⟨w1.heap.size, 0, none⟩ = some v ∧ wr.cell? ⟨w1.heap.size, 1, none⟩ = some (.slice none 0 0) ∧ wr.frozen? ⟨w1.heap.size, 0, none⟩ = false ∧ wr.frozen? ⟨w1.heap.size, 1, none⟩ = false ∧ Hid (typ wr w1.heap.size = some 26) ∧
      Hid (wr.ownsRow (w1.heap.size + 1) 28 6 v i (flat encF (limF i))) ∧ Below w1.heap.size w1 wr) (fun q _ => k - (intOf q).toNat)
  case atStart => exact ⟨0, .slice none 0 0, Nat.zero_le _, rfl, by rw [e5]; simp [go_sem], by rw [e5]; simp [go_sem], by rw [e5]; simp [go_sem], by rw [e5]; simp [go_sem], by rw [e5]; exact Lib.hid (by simp [typ_alloc, otyp_cells]), Lib.hid (own_nil _ _ _ _), by rw [e5]; exact below_alloc (Below.refl _ _)⟩
  case round =>
    obtain ⟨i, v, hi, rfl, p0, p1, pf0, pf1, pT, hown, hb⟩ := hrel
    obtain ⟨A', c', rfl, hc'⟩ := own_slice hown.out
    clear e5
    have hgs : w1.heap.size < wr.heap.size := World.block_lt_of_cell? wr _ p0
    by_cases hlt : i < k
    · have hc : i = 0 ∨ i = 1 ∨ i = 2 ∨ i = 3 ∨ i = 4 ∨ i = 5 ∨ i = 6 ∨ i = 7 ∨ i = 8 ∨ i = 9 ∨ i = 10 ∨ i = 11 ∨ i = 12 ∨ i = 13 ∨ i = 14 ∨ i = 15 ∨ i = 16 := by omega
      rcases hc with rfl | rfl | rfl | rfl | rfl | rfl | rfl | rfl | rfl | rfl | rfl | rfl | rfl | rfl | rfl | rfl | rfl
      · go_wp2_with (at_builtin; go_must (refine append_cells (w1.heap.size + 1) rfl (.tmp 20) (.tmp 29) 23 28 (.agg #[.string ByteArray.empty, .int .i64 0, .int .i64 0, .int .i64 0, .int .i64 0, .int .i64 0]) 6 56 rfl Tryz.underlying23 info_feat rfl (by decide) (by decide) (.slice A' 0 c') 0 (flat encF (limF 0)) [.string (limName 0), .int .i64 2, .int .i64 0, .int .i64 (-1), .int .i64 0, .int .i64 1] rfl rfl rfl (by simp [Value.oneCell']) hown.out hgs (by omega) ?_); intro v8 w8 hown8 hgr8 _; obtain ⟨A8, c8, rfl, hc8⟩ := own_slice hown8; have q0 := grown_cell hgr8 p0 (fun k hk => by have := own_base hown.out k hk; show k ≠ w1.heap.size; omega); have q1 := grown_cell hgr8 p1 (fun k hk => by have := own_base hown.out k hk; show k ≠ w1.heap.size; omega); have qf0 := (hgr8.frozen_far ⟨w1.heap.size, 0, none⟩ hgs (fun e => Nat.not_succ_le_self _ (own_base hown.out _ e.symm))).trans pf0; have qf1 := (hgr8.frozen_far ⟨w1.heap.size, 1, none⟩ hgs (fun e => Nat.not_succ_le_self _ (own_base hown.out _ e.symm))).trans pf1; have B8 := below_grownB hb hb.size hgr8 (fun k hk => by have := own_base hown.out k hk; omega); have T8 : typ w8 w1.heap.size = some 26 := (by rw [← pT.out]; unfold typ; rw [hgr8.block _ hgs (fun e => Nat.not_succ_le_self _ (own_base hown.out _ e.symm))]); have O8 := Lib.hid hown8; clear hown8 hgr8)
        go_roundw
        case rel => exact ⟨0 + 1, _, by omega, by go_num, World.cell?_setCell_same _ _ _ q0, (World.cell?_setCell_other _ _ _ _ (by simp)).trans q1, (World.frozen?_setCell _ _ _ _).trans qf0, (World.frozen?_setCell _ _ _ _).trans qf1, Lib.hid ((typ_set _ _ _ _).trans T8), Lib.hid (own_cast (own_set O8.out (fun e => Nat.not_succ_le_self _ (own_base O8.out _ e.symm)) _) rfl (by rw [limF_succ, flat_app]; rfl)), below_set B8 (by simp) _⟩
        case measure => simp [intOf] <;> omega
      · go_wp2_with (at_builtin; go_must (refine append_cells (w1.heap.size + 1) rfl (.tmp 20) (.tmp 29) 23 28 (.agg #[.string ByteArray.empty, .int .i64 0, .int .i64 0, .int .i64 0, .int .i64 0, .int .i64 0]) 6 56 rfl Tryz.underlying23 info_feat rfl (by decide) (by decide) (.slice A' 1 c') 1 (flat encF (limF 1)) [.string (limName 1), .int .i64 2, .int .i64 0, .int .i64 0, .int .i64 0, .int .i64 1] rfl rfl rfl (by simp [Value.oneCell']) hown.out hgs (by omega) ?_); intro v8 w8 hown8 hgr8 _; obtain ⟨A8, c8, rfl, hc8⟩ := own_slice hown8; have q0 := grown_cell hgr8 p0 (fun k hk => by have := own_base hown.out k hk; show k ≠ w1.heap.size; omega); have q1 := grown_cell hgr8 p1 (fun k hk => by have := own_base hown.out k hk; show k ≠ w1.heap.size; omega); have qf0 := (hgr8.frozen_far ⟨w1.heap.size, 0, none⟩ hgs (fun e => Nat.not_succ_le_self _ (own_base hown.out _ e.symm))).trans pf0; have qf1 := (hgr8.frozen_far ⟨w1.heap.size, 1, none⟩ hgs (fun e => Nat.not_succ_le_self _ (own_base hown.out _ e.symm))).trans pf1; have B8 := below_grownB hb hb.size hgr8 (fun k hk => by have := own_base hown.out k hk; omega); have T8 : typ w8 w1.heap.size = some 26 := (by rw [← pT.out]; unfold typ; rw [hgr8.block _ hgs (fun e => Nat.not_succ_le_self _ (own_base hown.out _ e.symm))]); have O8 := Lib.hid hown8; clear hown8 hgr8)
        go_roundw
        case rel => exact ⟨1 + 1, _, by omega, by go_num, World.cell?_setCell_same _ _ _ q0, (World.cell?_setCell_other _ _ _ _ (by simp)).trans q1, (World.frozen?_setCell _ _ _ _).trans qf0, (World.frozen?_setCell _ _ _ _).trans qf1, Lib.hid ((typ_set _ _ _ _).trans T8), Lib.hid (own_cast (own_set O8.out (fun e => Nat.not_succ_le_self _ (own_base O8.out _ e.symm)) _) rfl (by rw [limF_succ, flat_app]; rfl)), below_set B8 (by simp) _⟩
        case measure => simp [intOf] <;> omega
      · go_wp2_with (at_builtin; go_must (refine append_cells (w1.heap.size + 1) rfl (.tmp 20) (.tmp 29) 23 28 (.agg #[.string ByteArray.empty, .int .i64 0, .int .i64 0, .int .i64 0, .int .i64 0, .int .i64 0]) 6 56 rfl Tryz.underlying23 info_feat rfl (by decide) (by decide) (.slice A' 2 c') 2 (flat encF (limF 2)) [.string (limName 2), .int .i64 2, .int .i64 0, .int .i64 1, .int .i64 0, .int .i64 1] rfl rfl rfl (by simp [Value.oneCell']) hown.out hgs (by omega) ?_); intro v8 w8 hown8 hgr8 _; obtain ⟨A8, c8, rfl, hc8⟩ := own_slice hown8; have q0 := grown_cell hgr8 p0 (fun k hk => by have := own_base hown.out k hk; show k ≠ w1.heap.size; omega); have q1 := grown_cell hgr8 p1 (fun k hk => by have := own_base hown.out k hk; show k ≠ w1.heap.size; omega); have qf0 := (hgr8.frozen_far ⟨w1.heap.size, 0, none⟩ hgs (fun e => Nat.not_succ_le_self _ (own_base hown.out _ e.symm))).trans pf0; have qf1 := (hgr8.frozen_far ⟨w1.heap.size, 1, none⟩ hgs (fun e => Nat.not_succ_le_self _ (own_base hown.out _ e.symm))).trans pf1; have B8 := below_grownB hb hb.size hgr8 (fun k hk => by have := own_base hown.out k hk; omega); have T8 : typ w8 w1.heap.size = some 26 := (by rw [← pT.out]; unfold typ; rw [hgr8.block _ hgs (fun e => Nat.not_succ_le_self _ (own_base hown.out _ e.symm))]); have O8 := Lib.hid hown8; clear hown8 hgr8)
        go_roundw
        case rel => exact ⟨2 + 1, _, by omega, by go_num, World.cell?_setCell_same _ _ _ q0, (World.cell?_setCell_other _ _ _ _ (by simp)).trans q1, (World.frozen?_setCell _ _ _ _).trans qf0, (World.frozen?_setCell _ _ _ _).trans qf1, Lib.hid ((typ_set _ _ _ _).trans T8), Lib.hid (own_cast (own_set O8.out (fun e => Nat.not_succ_le_self _ (own_base O8.out _ e.symm)) _) rfl (by rw [limF_succ, flat_app]; rfl)), below_set B8 (by simp) _⟩
        case measure => simp [intOf] <;> omega
      · go_wp2_with (at_builtin; go_must (refine append_cells (w1.heap.size + 1) rfl (.tmp 20) (.tmp 29) 23 28 (.agg #[.string ByteArray.empty, .int .i64 0, .int .i64 0, .int .i64 0, .int .i64 0, .int .i64 0]) 6 56 rfl Tryz.underlying23 info_feat rfl (by decide) (by decide) (.slice A' 3 c') 3 (flat encF (limF 3)) [.string (limName 3), .int .i64 2, .int .i64 0, .int .i64 2, .int .i64 0, .int .i64 1] rfl rfl rfl (by simp [Value.oneCell']) hown.out hgs (by omega) ?_); intro v8 w8 hown8 hgr8 _; obtain ⟨A8, c8, rfl, hc8⟩ := own_slice hown8; have q0 := grown_cell hgr8 p0 (fun k hk => by have := own_base hown.out k hk; show k ≠ w1.heap.size; omega); have q1 := grown_cell hgr8 p1 (fun k hk => by have := own_base hown.out k hk; show k ≠ w1.heap.size; omega); have qf0 := (hgr8.frozen_far ⟨w1.heap.size, 0, none⟩ hgs (fun e => Nat.not_succ_le_self _ (own_base hown.out _ e.symm))).trans pf0; have qf1 := (hgr8.frozen_far ⟨w1.heap.size, 1, none⟩ hgs (fun e => Nat.not_succ_le_self _ (own_base hown.out _ e.symm))).trans pf1; have B8 := below_grownB hb hb.size hgr8 (fun k hk => by have := own_base hown.out k hk; omega); have T8 : typ w8 w1.heap.size = some 26 := (by rw [← pT.out]; unfold typ; rw [hgr8.block _ hgs (fun e => Nat.not_succ_le_self _ (own_base hown.out _ e.symm))]); have O8 := Lib.hid hown8; clear hown8 hgr8)
        go_roundw
        case rel => exact ⟨3 + 1, _, by omega, by go_num, World.cell?_setCell_same _ _ _ q0, (World.cell?_setCell_other _ _ _ _ (by simp)).trans q1, (World.frozen?_setCell _ _ _ _).trans qf0, (World.frozen?_setCell _ _ _ _).trans qf1, Lib.hid ((typ_set _ _ _ _).trans T8), Lib.hid (own_cast (own_set O8.out (fun e => Nat.not_succ_le_self _ (own_base O8.out _ e.symm)) _) rfl (by rw [limF_succ, flat_app]; rfl)), below_set B8 (by simp) _⟩
        case measure => simp [intOf] <;> omega
      · go_wp2_with (at_builtin; go_must (refine append_cells (w1.heap.size + 1) rfl (.tmp 20) (.tmp 29) 23 28 (.agg #[.string ByteArray.empty, .int .i64 0, .int .i64 0, .int .i64 0, .int .i64 0, .int .i64 0]) 6 56 rfl Tryz.underlying23 info_feat rfl (by decide) (by decide) (.slice A' 4 c') 4 (flat encF (limF 4)) [.string (limName 4), .int .i64 2, .int .i64 0, .int .i64 3, .int .i64 0, .int .i64 1] rfl rfl rfl (by simp [Value.oneCell']) hown.out hgs (by omega) ?_); intro v8 w8 hown8 hgr8 _; obtain ⟨A8, c8, rfl, hc8⟩ := own_slice hown8; have q0 := grown_cell hgr8 p0 (fun k hk => by have := own_base hown.out k hk; show k ≠ w1.heap.size; omega); have q1 := grown_cell hgr8 p1 (fun k hk => by have := own_base hown.out k hk; show k ≠ w1.heap.size; omega); have qf0 := (hgr8.frozen_far ⟨w1.heap.size, 0, none⟩ hgs (fun e => Nat.not_succ_le_self _ (own_base hown.out _ e.symm))).trans pf0; have qf1 := (hgr8.frozen_far ⟨w1.heap.size, 1, none⟩ hgs (fun e => Nat.not_succ_le_self _ (own_base hown.out _ e.symm))).trans pf1; have B8 := below_grownB hb hb.size hgr8 (fun k hk => by have := own_base hown.out k hk; omega); have T8 : typ w8 w1.heap.size = some 26 := (by rw [← pT.out]; unfold typ; rw [hgr8.block _ hgs (fun e => Nat.not_succ_le_self _ (own_base hown.out _ e.symm))]); have O8 := Lib.hid hown8; clear hown8 hgr8)
        go_roundw
        case rel => exact ⟨4 + 1, _, by omega, by go_num, World.cell?_setCell_same _ _ _ q0, (World.cell?_setCell_other _ _ _ _ (by simp)).trans q1, (World.frozen?_setCell _ _ _ _).trans qf0, (World.frozen?_setCell _ _ _ _).trans qf1, Lib.hid ((typ_set _ _ _ _).trans T8), Lib.hid (own_cast (own_set O8.out (fun e => Nat.not_succ_le_self _ (own_base O8.out _ e.symm)) _) rfl (by rw [limF_succ, flat_app]; rfl)), below_set B8 (by simp) _⟩
        case measure => simp [intOf] <;> omega
      · go_wp2_with (at_builtin; go_must (refine append_cells (w1.heap.size + 1) rfl (.tmp 20) (.tmp 29) 23 28 (.agg #[.string ByteArray.empty, .int .i64 0, .int .i64 0, .int .i64 0, .int .i64 0, .int .i64 0]) 6 56 rfl Tryz.underlying23 info_feat rfl (by decide) (by decide) (.slice A' 5 c') 5 (flat encF (limF 5)) [.string (limName 5), .int .i64 2, .int .i64 0, .int .i64 4, .int .i64 0, .int .i64 1] rfl rfl rfl (by simp [Value.oneCell']) hown.out hgs (by omega) ?_); intro v8 w8 hown8 hgr8 _; obtain ⟨A8, c8, rfl, hc8⟩ := own_slice hown8; have q0 := grown_cell hgr8 p0 (fun k hk => by have := own_base hown.out k hk; show k ≠ w1.heap.size; omega); have q1 := grown_cell hgr8 p1 (fun k hk => by have := own_base hown.out k hk; show k ≠ w1.heap.size; omega); have qf0 := (hgr8.frozen_far ⟨w1.heap.size, 0, none⟩ hgs (fun e => Nat.not_succ_le_self _ (own_base hown.out _ e.symm))).trans pf0; have qf1 := (hgr8.frozen_far ⟨w1.heap.size, 1, none⟩ hgs (fun e => Nat.not_succ_le_self _ (own_base hown.out _ e.symm))).trans pf1; have B8 := below_grownB hb hb.size hgr8 (fun k hk => by have := own_base hown.out k hk; omega); have T8 : typ w8 w1.heap.size = some 26 := (by rw [← pT.out]; unfold typ; rw [hgr8.block _ hgs (fun e => Nat.not_succ_le_self _ (own_base hown.out _ e.symm))]); have O8 := Lib.hid hown8; clear hown8 hgr8)
        go_roundw
        case rel => exact ⟨5 + 1, _, by omega, by go_num, World.cell?_setCell_same _ _ _ q0, (World.cell?_setCell_other _ _ _ _ (by simp)).trans q1, (World.frozen?_setCell _ _ _ _).trans qf0, (World.frozen?_setCell _ _ _ _).trans qf1, Lib.hid ((typ_set _ _ _ _).trans T8), Lib.hid (own_cast (own_set O8.out (fun e => Nat.not_succ_le_self _ (own_base O8.out _ e.symm)) _) rfl (by rw [limF_succ, flat_app]; rfl)), below_set B8 (by simp) _⟩
        case measure => simp [intOf] <;> omega
      · go_wp2_with (at_builtin; go_must (refine append_cells (w1.heap.size + 1) rfl (.tmp 20) (.tmp 29) 23 28 (.agg #[.string ByteArray.empty, .int .i64 0, .int .i64 0, .int .i64 0, .int .i64 0, .int .i64 0]) 6 56 rfl Tryz.underlying23 info_feat rfl (by decide) (by decide) (.slice A' 6 c') 6 (flat encF (limF 6)) [.string (limName 6), .int .i64 2, .int .i64 0, .int .i64 5, .int .i64 0, .int .i64 1] rfl rfl rfl (by simp [Value.oneCell']) hown.out hgs (by omega) ?_); intro v8 w8 hown8 hgr8 _; obtain ⟨A8, c8, rfl, hc8⟩ := own_slice hown8; have q0 := grown_cell hgr8 p0 (fun k hk => by have := own_base hown.out k hk; show k ≠ w1.heap.size; omega); have q1 := grown_cell hgr8 p1 (fun k hk => by have := own_base hown.out k hk; show k ≠ w1.heap.size; omega); have qf0 := (hgr8.frozen_far ⟨w1.heap.size, 0, none⟩ hgs (fun e => Nat.not_succ_le_self _ (own_base hown.out _ e.symm))).trans pf0; have qf1 := (hgr8.frozen_far ⟨w1.heap.size, 1, none⟩ hgs (fun e => Nat.not_succ_le_self _ (own_base hown.out _ e.symm))).trans pf1; have B8 := below_grownB hb hb.size hgr8 (fun k hk => by have := own_base hown.out k hk; omega); have T8 : typ w8 w1.heap.size = some 26 := (by rw [← pT.out]; unfold typ; rw [hgr8.block _ hgs (fun e => Nat.not_succ_le_self _ (own_base hown.out _ e.symm))]); have O8 := Lib.hid hown8; clear hown8 hgr8)
        go_roundw
        case rel => exact ⟨6 + 1, _, by omega, by go_num, World.cell?_setCell_same _ _ _ q0, (World.cell?_setCell_other _ _ _ _ (by simp)).trans q1, (World.frozen?_setCell _ _ _ _).trans qf0, (World.frozen?_setCell _ _ _ _).trans qf1, Lib.hid ((typ_set _ _ _ _).trans T8), Lib.hid (own_cast (own_set O8.out (fun e => Nat.not_succ_le_self _ (own_base O8.out _ e.symm)) _) rfl (by rw [limF_succ, flat_app]; rfl)), below_set B8 (by simp) _⟩
        case measure => simp [intOf] <;> omega
      · go_wp2_with (at_builtin; go_must (refine append_cells (w1.heap.size + 1) rfl (.tmp 20) (.tmp 29) 23 28 (.agg #[.string ByteArray.empty, .int .i64 0, .int .i64 0, .int .i64 0, .int .i64 0, .int .i64 0]) 6 56 rfl Tryz.underlying23 info_feat rfl (by decide) (by decide) (.slice A' 7 c') 7 (flat encF (limF 7)) [.string (limName 7), .int .i64 2, .int .i64 0, .int .i64 6, .int .i64 0, .int .i64 1] rfl rfl rfl (by simp [Value.oneCell']) hown.out hgs (by omega) ?_); intro v8 w8 hown8 hgr8 _; obtain ⟨A8, c8, rfl, hc8⟩ := own_slice hown8; have q0 := grown_cell hgr8 p0 (fun k hk => by have := own_base hown.out k hk; show k ≠ w1.heap.size; omega); have q1 := grown_cell hgr8 p1 (fun k hk => by have := own_base hown.out k hk; show k ≠ w1.heap.size; omega); have qf0 := (hgr8.frozen_far ⟨w1.heap.size, 0, none⟩ hgs (fun e => Nat.not_succ_le_self _ (own_base hown.out _ e.symm))).trans pf0; have qf1 := (hgr8.frozen_far ⟨w1.heap.size, 1, none⟩ hgs (fun e => Nat.not_succ_le_self _ (own_base hown.out _ e.symm))).trans pf1; have B8 := below_grownB hb hb.size hgr8 (fun k hk => by have := own_base hown.out k hk; omega); have T8 : typ w8 w1.heap.size = some 26 := (by rw [← pT.out]; unfold typ; rw [hgr8.block _ hgs (fun e => Nat.not_succ_le_self _ (own_base hown.out _ e.symm))]); have O8 := Lib.hid hown8; clear hown8 hgr8)
        go_roundw
        case rel => exact ⟨7 + 1, _, by omega, by go_num, World.cell?_setCell_same _ _ _ q0, (World.cell?_setCell_other _ _ _ _ (by simp)).trans q1, (World.frozen?_setCell _ _ _ _).trans qf0, (World.frozen?_setCell _ _ _ _).trans qf1, Lib.hid ((typ_set _ _ _ _).trans T8), Lib.hid (own_cast (own_set O8.out (fun e => Nat.not_succ_le_self _ (own_base O8.out _ e.symm)) _) rfl (by rw [limF_succ, flat_app]; rfl)), below_set B8 (by simp) _⟩
        case measure => simp [intOf] <;> omega
      · go_wp2_with (at_builtin; go_must (refine append_cells (w1.heap.size + 1) rfl (.tmp 20) (.tmp 29) 23 28 (.agg #[.string ByteArray.empty, .int .i64 0, .int .i64 0, .int .i64 0, .int .i64 0, .int .i64 0]) 6 56 rfl Tryz.underlying23 info_feat rfl (by decide) (by decide) (.slice A' 8 c') 8 (flat encF (limF 8)) [.string (limName 8), .int .i64 2, .int .i64 0, .int .i64 7, .int .i64 0, .int .i64 1] rfl rfl rfl (by simp [Value.oneCell']) hown.out hgs (by omega) ?_); intro v8 w8 hown8 hgr8 _; obtain ⟨A8, c8, rfl, hc8⟩ := own_slice hown8; have q0 := grown_cell hgr8 p0 (fun k hk => by have := own_base hown.out k hk; show k ≠ w1.heap.size; omega); have q1 := grown_cell hgr8 p1 (fun k hk => by have := own_base hown.out k hk; show k ≠ w1.heap.size; omega); have qf0 := (hgr8.frozen_far ⟨w1.heap.size, 0, none⟩ hgs (fun e => Nat.not_succ_le_self _ (own_base hown.out _ e.symm))).trans pf0; have qf1 := (hgr8.frozen_far ⟨w1.heap.size, 1, none⟩ hgs (fun e => Nat.not_succ_le_self _ (own_base hown.out _ e.symm))).trans pf1; have B8 := below_grownB hb hb.size hgr8 (fun k hk => by have := own_base hown.out k hk; omega); have T8 : typ w8 w1.heap.size = some 26 := (by rw [← pT.out]; unfold typ; rw [hgr8.block _ hgs (fun e => Nat.not_succ_le_self _ (own_base hown.out _ e.symm))]); have O8 := Lib.hid hown8; clear hown8 hgr8)
        go_roundw
        case rel => exact ⟨8 + 1, _, by omega, by go_num, World.cell?_setCell_same _ _ _ q0, (World.cell?_setCell_other _ _ _ _ (by simp)).trans q1, (World.frozen?_setCell _ _ _ _).trans qf0, (World.frozen?_setCell _ _ _ _).trans qf1, Lib.hid ((typ_set _ _ _ _).trans T8), Lib.hid (own_cast (own_set O8.out (fun e => Nat.not_succ_le_self _ (own_base O8.out _ e.symm)) _) rfl (by rw [limF_succ, flat_app]; rfl)), below_set B8 (by simp) _⟩
        case measure => simp [intOf] <;> omega
      · go_wp2_with (at_builtin; go_must (refine append_cells (w1.heap.size + 1) rfl (.tmp 20) (.tmp 29) 23 28 (.agg #[.string ByteArray.empty, .int .i64 0, .int .i64 0, .int .i64 0, .int .i64 0, .int .i64 0]) 6 56 rfl Tryz.underlying23 info_feat rfl (by decide) (by decide) (.slice A' 9 c') 9 (flat encF (limF 9)) [.string (limName 9), .int .i64 2, .int .i64 0, .int .i64 8, .int .i64 0, .int .i64 1] rfl rfl rfl (by simp [Value.oneCell']) hown.out hgs (by omega) ?_); intro v8 w8 hown8 hgr8 _; obtain ⟨A8, c8, rfl, hc8⟩ := own_slice hown8; have q0 := grown_cell hgr8 p0 (fun k hk => by have := own_base hown.out k hk; show k ≠ w1.heap.size; omega); have q1 := grown_cell hgr8 p1 (fun k hk => by have := own_base hown.out k hk; show k ≠ w1.heap.size; omega); have qf0 := (hgr8.frozen_far ⟨w1.heap.size, 0, none⟩ hgs (fun e => Nat.not_succ_le_self _ (own_base hown.out _ e.symm))).trans pf0; have qf1 := (hgr8.frozen_far ⟨w1.heap.size, 1, none⟩ hgs (fun e => Nat.not_succ_le_self _ (own_base hown.out _ e.symm))).trans pf1; have B8 := below_grownB hb hb.size hgr8 (fun k hk => by have := own_base hown.out k hk; omega); have T8 : typ w8 w1.heap.size = some 26 := (by rw [← pT.out]; unfold typ; rw [hgr8.block _ hgs (fun e => Nat.not_succ_le_self _ (own_base hown.out _ e.symm))]); have O8 := Lib.hid hown8; clear hown8 hgr8)
        go_roundw
        case rel => exact ⟨9 + 1, _, by omega, by go_num, World.cell?_setCell_same _ _ _ q0, (World.cell?_setCell_other _ _ _ _ (by simp)).trans q1, (World.frozen?_setCell _ _ _ _).trans qf0, (World.frozen?_setCell _ _ _ _).trans qf1, Lib.hid ((typ_set _ _ _ _).trans T8), Lib.hid (own_cast (own_set O8.out (fun e => Nat.not_succ_le_self _ (own_base O8.out _ e.symm)) _) rfl (by rw [limF_succ, flat_app]; rfl)), below_set B8 (by simp) _⟩
        case measure => simp [intOf] <;> omega
      · go_wp2_with (at_builtin; go_must (refine append_cells (w1.heap.size + 1) rfl (.tmp 20) (.tmp 29) 23 28 (.agg #[.string ByteArray.empty, .int .i64 0, .int .i64 0, .int .i64 0, .int .i64 0, .int .i64 0]) 6 56 rfl Tryz.underlying23 info_feat rfl (by decide) (by decide) (.slice A' 10 c') 10 (flat encF (limF 10)) [.string (limName 10), .int .i64 2, .int .i64 0, .int .i64 9, .int .i64 0, .int .i64 1] rfl rfl rfl (by simp [Value.oneCell']) hown.out hgs (by omega) ?_); intro v8 w8 hown8 hgr8 _; obtain ⟨A8, c8, rfl, hc8⟩ := own_slice hown8; have q0 := grown_cell hgr8 p0 (fun k hk => by have := own_base hown.out k hk; show k ≠ w1.heap.size; omega); have q1 := grown_cell hgr8 p1 (fun k hk => by have := own_base hown.out k hk; show k ≠ w1.heap.size; omega); have qf0 := (hgr8.frozen_far ⟨w1.heap.size, 0, none⟩ hgs (fun e => Nat.not_succ_le_self _ (own_base hown.out _ e.symm))).trans pf0; have qf1 := (hgr8.frozen_far ⟨w1.heap.size, 1, none⟩ hgs (fun e => Nat.not_succ_le_self _ (own_base hown.out _ e.symm))).trans pf1; have B8 := below_grownB hb hb.size hgr8 (fun k hk => by have := own_base hown.out k hk; omega); have T8 : typ w8 w1.heap.size = some 26 := (by rw [← pT.out]; unfold typ; rw [hgr8.block _ hgs (fun e => Nat.not_succ_le_self _ (own_base hown.out _ e.symm))]); have O8 := Lib.hid hown8; clear hown8 hgr8)
        go_roundw
        case rel => exact ⟨10 + 1, _, by omega, by go_num, World.cell?_setCell_same _ _ _ q0, (World.cell?_setCell_other _ _ _ _ (by simp)).trans q1, (World.frozen?_setCell _ _ _ _).trans qf0, (World.frozen?_setCell _ _ _ _).trans qf1, Lib.hid ((typ_set _ _ _ _).trans T8), Lib.hid (own_cast (own_set O8.out (fun e => Nat.not_succ_le_self _ (own_base O8.out _ e.symm)) _) rfl (by rw [limF_succ, flat_app]; rfl)), below_set B8 (by simp) _⟩
        case measure => simp [intOf] <;> omega
      · go_wp2_with (at_builtin; go_must (refine append_cells (w1.heap.size + 1) rfl (.tmp 20) (.tmp 29) 23 28 (.agg #[.string ByteArray.empty, .int .i64 0, .int .i64 0, .int .i64 0, .int .i64 0, .int .i64 0]) 6 56 rfl Tryz.underlying23 info_feat rfl (by decide) (by decide) (.slice A' 11 c') 11 (flat encF (limF 11)) [.string (limName 11), .int .i64 2, .int .i64 0, .int .i64 10, .int .i64 0, .int .i64 1] rfl rfl rfl (by simp [Value.oneCell']) hown.out hgs (by omega) ?_); intro v8 w8 hown8 hgr8 _; obtain ⟨A8, c8, rfl, hc8⟩ := own_slice hown8; have q0 := grown_cell hgr8 p0 (fun k hk => by have := own_base hown.out k hk; show k ≠ w1.heap.size; omega); have q1 := grown_cell hgr8 p1 (fun k hk => by have := own_base hown.out k hk; show k ≠ w1.heap.size; omega); have qf0 := (hgr8.frozen_far ⟨w1.heap.size, 0, none⟩ hgs (fun e => Nat.not_succ_le_self _ (own_base hown.out _ e.symm))).trans pf0; have qf1 := (hgr8.frozen_far ⟨w1.heap.size, 1, none⟩ hgs (fun e => Nat.not_succ_le_self _ (own_base hown.out _ e.symm))).trans pf1; have B8 := below_grownB hb hb.size hgr8 (fun k hk => by have := own_base hown.out k hk; omega); have T8 : typ w8 w1.heap.size = some 26 := (by rw [← pT.out]; unfold typ; rw [hgr8.block _ hgs (fun e => Nat.not_succ_le_self _ (own_base hown.out _ e.symm))]); have O8 := Lib.hid hown8; clear hown8 hgr8)
        go_roundw
        case rel => exact ⟨11 + 1, _, by omega, by go_num, World.cell?_setCell_same _ _ _ q0, (World.cell?_setCell_other _ _ _ _ (by simp)).trans q1, (World.frozen?_setCell _ _ _ _).trans qf0, (World.frozen?_setCell _ _ _ _).trans qf1, Lib.hid ((typ_set _ _ _ _).trans T8), Lib.hid (own_cast (own_set O8.out (fun e => Nat.not_succ_le_self _ (own_base O8.out _ e.symm)) _) rfl (by rw [limF_succ, flat_app]; rfl)), below_set B8 (by simp) _⟩
        case measure => simp [intOf] <;> omega
      · go_wp2_with (at_builtin; go_must (refine append_cells (w1.heap.size + 1) rfl (.tmp 20) (.tmp 29) 23 28 (.agg #[.string ByteArray.empty, .int .i64 0, .int .i64 0, .int .i64 0, .int .i64 0, .int .i64 0]) 6 56 rfl Tryz.underlying23 info_feat rfl (by decide) (by decide) (.slice A' 12 c') 12 (flat encF (limF 12)) [.string (limName 12), .int .i64 2, .int .i64 0, .int .i64 11, .int .i64 0, .int .i64 1] rfl rfl rfl (by simp [Value.oneCell']) hown.out hgs (by omega) ?_); intro v8 w8 hown8 hgr8 _; obtain ⟨A8, c8, rfl, hc8⟩ := own_slice hown8; have q0 := grown_cell hgr8 p0 (fun k hk => by have := own_base hown.out k hk; show k ≠ w1.heap.size; omega); have q1 := grown_cell hgr8 p1 (fun k hk => by have := own_base hown.out k hk; show k ≠ w1.heap.size; omega); have qf0 := (hgr8.frozen_far ⟨w1.heap.size, 0, none⟩ hgs (fun e => Nat.not_succ_le_self _ (own_base hown.out _ e.symm))).trans pf0; have qf1 := (hgr8.frozen_far ⟨w1.heap.size, 1, none⟩ hgs (fun e => Nat.not_succ_le_self _ (own_base hown.out _ e.symm))).trans pf1; have B8 := below_grownB hb hb.size hgr8 (fun k hk => by have := own_base hown.out k hk; omega); have T8 : typ w8 w1.heap.size = some 26 := (by rw [← pT.out]; unfold typ; rw [hgr8.block _ hgs (fun e => Nat.not_succ_le_self _ (own_base hown.out _ e.symm))]); have O8 := Lib.hid hown8; clear hown8 hgr8)
        go_roundw
        case rel => exact ⟨12 + 1, _, by omega, by go_num, World.cell?_setCell_same _ _ _ q0, (World.cell?_setCell_other _ _ _ _ (by simp)).trans q1, (World.frozen?_setCell _ _ _ _).trans qf0, (World.frozen?_setCell _ _ _ _).trans qf1, Lib.hid ((typ_set _ _ _ _).trans T8), Lib.hid (own_cast (own_set O8.out (fun e => Nat.not_succ_le_self _ (own_base O8.out _ e.symm)) _) rfl (by rw [limF_succ, flat_app]; rfl)), below_set B8 (by simp) _⟩
        case measure => simp [intOf] <;> omega
      · go_wp2_with (at_builtin; go_must (refine append_cells (w1.heap.size + 1) rfl (.tmp 20) (.tmp 29) 23 28 (.agg #[.string ByteArray.empty, .int .i64 0, .int .i64 0, .int .i64 0, .int .i64 0, .int .i64 0]) 6 56 rfl Tryz.underlying23 info_feat rfl (by decide) (by decide) (.slice A' 13 c') 13 (flat encF (limF 13)) [.string (limName 13), .int .i64 2, .int .i64 0, .int .i64 12, .int .i64 0, .int .i64 1] rfl rfl rfl (by simp [Value.oneCell']) hown.out hgs (by omega) ?_); intro v8 w8 hown8 hgr8 _; obtain ⟨A8, c8, rfl, hc8⟩ := own_slice hown8; have q0 := grown_cell hgr8 p0 (fun k hk => by have := own_base hown.out k hk; show k ≠ w1.heap.size; omega); have q1 := grown_cell hgr8 p1 (fun k hk => by have := own_base hown.out k hk; show k ≠ w1.heap.size; omega); have qf0 := (hgr8.frozen_far ⟨w1.heap.size, 0, none⟩ hgs (fun e => Nat.not_succ_le_self _ (own_base hown.out _ e.symm))).trans pf0; have qf1 := (hgr8.frozen_far ⟨w1.heap.size, 1, none⟩ hgs (fun e => Nat.not_succ_le_self _ (own_base hown.out _ e.symm))).trans pf1; have B8 := below_grownB hb hb.size hgr8 (fun k hk => by have := own_base hown.out k hk; omega); have T8 : typ w8 w1.heap.size = some 26 := (by rw [← pT.out]; unfold typ; rw [hgr8.block _ hgs (fun e => Nat.not_succ_le_self _ (own_base hown.out _ e.symm))]); have O8 := Lib.hid hown8; clear hown8 hgr8)
        go_roundw
        case rel => exact ⟨13 + 1, _, by omega, by go_num, World.cell?_setCell_same _ _ _ q0, (World.cell?_setCell_other _ _ _ _ (by simp)).trans q1, (World.frozen?_setCell _ _ _ _).trans qf0, (World.frozen?_setCell _ _ _ _).trans qf1, Lib.hid ((typ_set _ _ _ _).trans T8), Lib.hid (own_cast (own_set O8.out (fun e => Nat.not_succ_le_self _ (own_base O8.out _ e.symm)) _) rfl (by rw [limF_succ, flat_app]; rfl)), below_set B8 (by simp) _⟩
        case measure => simp [intOf] <;> omega
      · go_wp2_with (at_builtin; go_must (refine append_cells (w1.heap.size + 1) rfl (.tmp 20) (.tmp 29) 23 28 (.agg #[.string ByteArray.empty, .int .i64 0, .int .i64 0, .int .i64 0, .int .i64 0, .int .i64 0]) 6 56 rfl Tryz.underlying23 info_feat rfl (by decide) (by decide) (.slice A' 14 c') 14 (flat encF (limF 14)) [.string (limName 14), .int .i64 2, .int .i64 0, .int .i64 13, .int .i64 0, .int .i64 1] rfl rfl rfl (by simp [Value.oneCell']) hown.out hgs (by omega) ?_); intro v8 w8 hown8 hgr8 _; obtain ⟨A8, c8, rfl, hc8⟩ := own_slice hown8; have q0 := grown_cell hgr8 p0 (fun k hk => by have := own_base hown.out k hk; show k ≠ w1.heap.size; omega); have q1 := grown_cell hgr8 p1 (fun k hk => by have := own_base hown.out k hk; show k ≠ w1.heap.size; omega); have qf0 := (hgr8.frozen_far ⟨w1.heap.size, 0, none⟩ hgs (fun e => Nat.not_succ_le_self _ (own_base hown.out _ e.symm))).trans pf0; have qf1 := (hgr8.frozen_far ⟨w1.heap.size, 1, none⟩ hgs (fun e => Nat.not_succ_le_self _ (own_base hown.out _ e.symm))).trans pf1; have B8 := below_grownB hb hb.size hgr8 (fun k hk => by have := own_base hown.out k hk; omega); have T8 : typ w8 w1.heap.size = some 26 := (by rw [← pT.out]; unfold typ; rw [hgr8.block _ hgs (fun e => Nat.not_succ_le_self _ (own_base hown.out _ e.symm))]); have O8 := Lib.hid hown8; clear hown8 hgr8)
        go_roundw
        case rel => exact ⟨14 + 1, _, by omega, by go_num, World.cell?_setCell_same _ _ _ q0, (World.cell?_setCell_other _ _ _ _ (by simp)).trans q1, (World.frozen?_setCell _ _ _ _).trans qf0, (World.frozen?_setCell _ _ _ _).trans qf1, Lib.hid ((typ_set _ _ _ _).trans T8), Lib.hid (own_cast (own_set O8.out (fun e => Nat.not_succ_le_self _ (own_base O8.out _ e.symm)) _) rfl (by rw [limF_succ, flat_app]; rfl)), below_set B8 (by simp) _⟩
        case measure => simp [intOf] <;> omega
      · go_wp2_with (at_builtin; go_must (refine append_cells (w1.heap.size + 1) rfl (.tmp 20) (.tmp 29) 23 28 (.agg #[.string ByteArray.empty, .int .i64 0, .int .i64 0, .int .i64 0, .int .i64 0, .int .i64 0]) 6 56 rfl Tryz.underlying23 info_feat rfl (by decide) (by decide) (.slice A' 15 c') 15 (flat encF (limF 15)) [.string (limName 15), .int .i64 2, .int .i64 0, .int .i64 14, .int .i64 0, .int .i64 1] rfl rfl rfl (by simp [Value.oneCell']) hown.out hgs (by omega) ?_); intro v8 w8 hown8 hgr8 _; obtain ⟨A8, c8, rfl, hc8⟩ := own_slice hown8; have q0 := grown_cell hgr8 p0 (fun k hk => by have := own_base hown.out k hk; show k ≠ w1.heap.size; omega); have q1 := grown_cell hgr8 p1 (fun k hk => by have := own_base hown.out k hk; show k ≠ w1.heap.size; omega); have qf0 := (hgr8.frozen_far ⟨w1.heap.size, 0, none⟩ hgs (fun e => Nat.not_succ_le_self _ (own_base hown.out _ e.symm))).trans pf0; have qf1 := (hgr8.frozen_far ⟨w1.heap.size, 1, none⟩ hgs (fun e => Nat.not_succ_le_self _ (own_base hown.out _ e.symm))).trans pf1; have B8 := below_grownB hb hb.size hgr8 (fun k hk => by have := own_base hown.out k hk; omega); have T8 : typ w8 w1.heap.size = some 26 := (by rw [← pT.out]; unfold typ; rw [hgr8.block _ hgs (fun e => Nat.not_succ_le_self _ (own_base hown.out _ e.symm))]); have O8 := Lib.hid hown8; clear hown8 hgr8)
        go_roundw
        case rel => exact ⟨15 + 1, _, by omega, by go_num, World.cell?_setCell_same _ _ _ q0, (World.cell?_setCell_other _ _ _ _ (by simp)).trans q1, (World.frozen?_setCell _ _ _ _).trans qf0, (World.frozen?_setCell _ _ _ _).trans qf1, Lib.hid ((typ_set _ _ _ _).trans T8), Lib.hid (own_cast (own_set O8.out (fun e => Nat.not_succ_le_self _ (own_base O8.out _ e.symm)) _) rfl (by rw [limF_succ, flat_app]; rfl)), below_set B8 (by simp) _⟩
        case measure => simp [intOf] <;> omega
      · go_wp2_with (at_builtin; go_must (refine append_cells (w1.heap.size + 1) rfl (.tmp 20) (.tmp 29) 23 28 (.agg #[.string ByteArray.empty, .int .i64 0, .int .i64 0, .int .i64 0, .int .i64 0, .int .i64 0]) 6 56 rfl Tryz.underlying23 info_feat rfl (by decide) (by decide) (.slice A' 16 c') 16 (flat encF (limF 16)) [.string (limName 16), .int .i64 2, .int .i64 0, .int .i64 15, .int .i64 0, .int .i64 1] rfl rfl rfl (by simp [Value.oneCell']) hown.out hgs (by omega) ?_); intro v8 w8 hown8 hgr8 _; obtain ⟨A8, c8, rfl, hc8⟩ := own_slice hown8; have q0 := grown_cell hgr8 p0 (fun k hk => by have := own_base hown.out k hk; show k ≠ w1.heap.size; omega); have q1 := grown_cell hgr8 p1 (fun k hk => by have := own_base hown.out k hk; show k ≠ w1.heap.size; omega); have qf0 := (hgr8.frozen_far ⟨w1.heap.size, 0, none⟩ hgs (fun e => Nat.not_succ_le_self _ (own_base hown.out _ e.symm))).trans pf0; have qf1 := (hgr8.frozen_far ⟨w1.heap.size, 1, none⟩ hgs (fun e => Nat.not_succ_le_self _ (own_base hown.out _ e.symm))).trans pf1; have B8 := below_grownB hb hb.size hgr8 (fun k hk => by have := own_base hown.out k hk; omega); have T8 : typ w8 w1.heap.size = some 26 := (by rw [← pT.out]; unfold typ; rw [hgr8.block _ hgs (fun e => Nat.not_succ_le_self _ (own_base hown.out _ e.symm))]); have O8 := Lib.hid hown8; clear hown8 hgr8)
        go_roundw
        case rel => exact ⟨16 + 1, _, by omega, by go_num, World.cell?_setCell_same _ _ _ q0, (World.cell?_setCell_other _ _ _ _ (by simp)).trans q1, (World.frozen?_setCell _ _ _ _).trans qf0, (World.frozen?_setCell _ _ _ _).trans qf1, Lib.hid ((typ_set _ _ _ _).trans T8), Lib.hid (own_cast (own_set O8.out (fun e => Nat.not_succ_le_self _ (own_base O8.out _ e.symm)) _) rfl (by rw [limF_succ, flat_app]; rfl)), below_set B8 (by simp) _⟩
        case measure => simp [intOf] <;> omega
    · obtain rfl : k = i := by omega
      have hgs' : ¬ w1.heap.size = wr.heap.size := by omega
      obtain ⟨mq, hmq⟩ : ∃ mq : Nat, mq = min qb (2 * k + 1) := ⟨_, rfl⟩
      have hmin : min (qb : Int) (2 * (k : Int) + 1) = (mq : Int) := by rw [hmq]; omega
      have hmq33 : mq ≤ 33 := by omega
      have hmq' := Lib.hid hmq
      clear hmq
      have hRF := Lib.hid (Reads.of_own (base := 0) hown.out)
      go_wp2_with fail
      go_loopw [42] (fun q w9 => ∃ (j : Nat) (v : Value), j ≤ mq ∧ q = .int .i64 (j : Int) ∧ w9.cell? ⟨w1.heap.size, 0, none⟩ = some (.slice A' k c') ∧ w9.cell? ⟨w1.heap.size, 1, none⟩ = some v ∧ w9.frozen? ⟨w1.heap.size, 1, none⟩ = false ∧ Hid (typ w9 w1.heap.size = some 26) ∧
          Hid (Reads 0 28 w9 A' (flat encF (limF k))) ∧ Hid (w9.ownsRow (w1.heap.size + 1) 30 5 v j (flat encZ (limZ j))) ∧ Below w1.heap.size w1 w9) (fun q _ => mq - (intOf q).toNat)
      case atStart => exact ⟨0, .slice none 0 0, Nat.zero_le _, rfl, p0, p1, pf1, pT, hRF, Lib.hid (own_nil _ _ _ _), hb⟩
      case round =>
        obtain ⟨j, v, hj, rfl, p0, p1, pf1, pT, hRF, hown, hb⟩ := hrel
        obtain ⟨Az, cz, rfl, hcz⟩ := own_slice hown.out
        have hgs : w1.heap.size < wr.heap.size := World.block_lt_of_cell? wr _ p0
        have hgs' : ¬ w1.heap.size = wr.heap.size := by omega
        by_cases hlt : j < mq
        · have hr2 : Int.tmod (j : Int) 2 = ((j % 2 : Nat) : Int) := rfl
          have hq2 : Int.tdiv (j : Int) 2 = ((j / 2 : Nat) : Int) := rfl
          go_wp2_with (at_builtin; go_must (refine append_cells (w1.heap.size + 1) rfl (.tmp 46) (.tmp 53) 24 30 (.agg #[.int .i64 0, .int .i64 0, .int .i64 0, .int .i64 0, .bool false]) 5 40 rfl Tryz.underlying24 info_zone rfl (by decide) (by decide) (.slice Az j cz) j (flat encZ (limZ j)) [.int .i64 (1 + ((j % 2 : Nat) : Int)), .int .i64 ((j / 2 : Nat) : Int), .int .i64 0, .int .i64 0, .bool false] rfl rfl rfl (by simp [Value.oneCell']) hown.out hgs (by omega) ?_); intro v8 w8 hown8 hgr8 _; obtain ⟨A8, c8, rfl, hc8⟩ := own_slice hown8; have q0 := grown_cell hgr8 p0 (fun k hk => by have := own_base hown.out k hk; show k ≠ w1.heap.size; omega); have q1 := grown_cell hgr8 p1 (fun k hk => by have := own_base hown.out k hk; show k ≠ w1.heap.size; omega); have qf1 := (hgr8.frozen_far ⟨w1.heap.size, 1, none⟩ hgs (fun e => Nat.not_succ_le_self _ (own_base hown.out _ e.symm))).trans pf1; have K8 := Keeps.of_grown (base := 0) (e := 28) hgr8 hown.out (Nat.zero_le _) (by decide); have T8 : typ w8 w1.heap.size = some 26 := (by rw [← pT.out]; unfold typ; rw [hgr8.block _ hgs (fun e => Nat.not_succ_le_self _ (own_base hown.out _ e.symm))]); have R8 := hRF.out.keeps K8; have B8 := below_grownB hb hb.size hgr8 (fun k hk => by have := own_base hown.out k hk; omega); have O8 := Lib.hid hown8; clear hown8 hgr8 K8)
          go_roundw
          case rel => exact ⟨j + 1, _, by omega, by go_num, (World.cell?_setCell_other _ _ _ _ (by simp)).trans q0, World.cell?_setCell_same _ _ _ q1, (World.frozen?_setCell _ _ _ _).trans qf1, Lib.hid ((typ_set _ _ _ _).trans T8), Lib.hid (R8.keeps ((Keeps.refl _ _ _).set (Nat.zero_le _) (by show typ w8 w1.heap.size ≠ _; rw [T8]; decide) _)), Lib.hid (own_cast (own_set O8.out (fun e => Nat.not_succ_le_self _ (own_base O8.out _ e.symm)) _) rfl (by rw [limZ_succ, flat_app]; rfl)), below_set B8 (by simp) _⟩
          case measure => simp [intOf]; omega
        · obtain rfl : mq = j := by omega
          have hf : ∀ W, Below wr.heap.size wr W → IsFs 0 28 W A' k c' (limS k mq).fs := fun W hW => IsRow.below (w := wr) ⟨limF_len k, hc', hRF.out⟩ hW
          have hz : ∀ W, Below wr.heap.size wr W → IsZs 0 30 W Az mq cz (limS k mq).zs := fun W hW => IsRow.below (w := wr) ⟨limZ_len mq, hcz, Reads.of_own hown.out⟩ hW
          have HV := Lib.hid (Variables_any 0 _ _ _ _ _ _ (limS k mq) wr (hf wr (Below.refl _ _)) (hz wr (Below.refl _ _)))
          have HM := Lib.hid (fun W (hW : Below wr.heap.size wr W) => (show Calls Tryz.prog 9 #[.agg #[.slice A' k c', .slice Az mq cz]] W (fun e w' => e = .returned (.int .i64 (checkE (limS k mq))) ∧ Below W.heap.size W w') from mcheck_any 0 _ _ _ _ _ _ (limF k) (limZ mq) W (hf W hW) (hz W hW)))
          have HC := Lib.hid (fun W (hW : Below wr.heap.size wr W) => Check_any 0 _ _ _ _ _ _ (limS k mq) W (hf W hW) (hz W hW))
          have hld := lim_dims k mq
          generalize dimsOf (limS k mq) = ds at HV hld
          generalize checkE (limS k mq) = E at HV HM HC
          clear hf hz hown hRF
          by_cases hE : E = 0
          · subst hE
            rw [if_pos rfl] at HV
            go_wp2_with fail
            refine HV.out.mono ?_
            rintro e w2 ⟨Ad, nd, cd, rfl, hd, hb2⟩
            have hdl := hd.len
            have hnd : (nd : Int) = 2 * (k : Int) := by omega
            have p0 := cell_below hb2 p0
            have p1 := cell_below hb2 p1
            go_wp2_with fail
            refine (HM.out _ hb2).mono ?_
            rintro e w3 ⟨rfl, hb3⟩
            have p0 := cell_below hb3 p0
            have p1 := cell_below hb3 p1
            have B3 := below_then hb2 hb3
            go_wp2_with fail
            refine (HC.out _ B3).mono ?_
            rintro e w4 ⟨rfl, hb4⟩
            have p0 := cell_below hb4 p0
            have p1 := cell_below hb4 p1
            have B4 := below_then hb (below_then B3 hb4)
            clear hd hdl hld HV HM HC
            go_wp2_with fail
            go_ret
            exact ⟨by first | rfl | (simp [hnd]), below_then hb1 B4⟩
          · rw [if_neg hE] at HV
            have hEd : (E != 0) = true := by simpa using hE
            go_wp2_with fail
            refine HV.out.mono ?_
            rintro e w2 ⟨Ad, nd, cd, rfl, hd, hb2⟩
            have p0 := cell_below hb2 p0
            have p1 := cell_below hb2 p1
            go_wp2_with fail
            refine (HM.out _ hb2).mono ?_
            rintro e w3 ⟨rfl, hb3⟩
            have p0 := cell_below hb3 p0
            have p1 := cell_below hb3 p1
            have B3 := below_then hb2 hb3
            go_wp2_with fail
            refine (HC.out _ B3).mono ?_
            rintro e w4 ⟨rfl, hb4⟩
            have p0 := cell_below hb4 p0
            have p1 := cell_below hb4 p1
            have B4 := below_then hb (below_then B3 hb4)
            clear hd hld HV HM HC
            go_wp2_with fail
            go_ret
            exact ⟨by first | rfl | simp, below_then hb1 B4⟩
end Go.Proofs.YtpifbaiibhaklaaGreatDoor
namespace Go.Proofs.YtpifbaiibhaklaaGreatDoor
open Go.ChangeShapes Go.WideShapes Go.ChangeAt Go.RowKit

set_option maxRecDepth 100000 in
theorem contract (H : Type) (enc : TypeId × Value → H) (W : World) (base : Nat) (args : Array Value) (ds gs : List (DataW H)) (before : List MemPlace)
    (hval : ∀ (j : Nat) t v, Tryz.f3.params[j]? = some t → args[j]? = some v → Value.okWide Tryz.prog W .any base t v)
    (hW : DataW.Whole enc Tryz.prog Tryz.f3.params.toList Rows.datumLimitsSpec.vars false W args.toList ds gs before) (hL : laidMetH Tryz.prog Rows.datumLimitsRow.laid W) (hsh : W.ShapedOpen Tryz.prog) :
    Calls Tryz.prog 3 args W fun e W' => ∃ v, e = .returned v ∧ Rows.datumLimitsSpec.post enc Tryz.prog Tryz.f3 false true false false W args v W' := by
  have hW' := hW
  obtain ⟨p, q, hA0, hV, rfl, hfz, hnd⟩ := hW
  have hA : DataW.TrodAll enc Tryz.prog W 0 (fun _ => true) true Tryz.f3.params.toList args.toList ds p := hA0
  rw [Tryz.params3] at hA hval
  obtain ⟨v0, vs0, d0, ds0, p0, q0, hargs, rfl, rfl, h0, r0⟩ := trodAll_cons hA
  obtain ⟨v1, vs1, d1, ds1, p1, q1, hargs1, rfl, rfl, h1, r1⟩ := trodAll_cons r0
  obtain ⟨rfl, rfl, rfl⟩ := trodAll_nil r1
  subst hargs1
  obtain rfl : args = #[v0, v1] := Array.ext' (by rw [hargs])
  obtain ⟨rfl, rfl⟩ := trodVars_none hV
  obtain ⟨a, rfl, rfl, rfl, wa⟩ := open_int Tryz.underlying5 (hval 0 5 v0 rfl rfl) h0
  obtain ⟨b, rfl, rfl, rfl, wb⟩ := open_int Tryz.underlying5 (hval 1 5 v1 rfl rfl) h1
  clear hA0
  simp only [List.append_nil] at hW'
  have ba := bounds_u8 wa
  have bb := bounds_u8 wb
  obtain ⟨ba1, ba2⟩ := ba
  obtain ⟨bb1, bb2⟩ := bb
  have hg0 := good_of hL hsh
  clear hL hsh hval h0 h1 hA hfz hnd
  obtain ⟨x, rfl⟩ := Int.eq_ofNat_of_zero_le ba1
  obtain ⟨y, rfl⟩ := Int.eq_ofNat_of_zero_le bb1
  refine (DatumLimits_any x y (by omega) (by omega) W hg0).mono fun e W' ⟨he, hg⟩ => ?_
  subst he
  exact ⟨_, rfl, post_of_below (pa := []) (pv := []) hW' (fun _ _ _ => trodAll_cons_mk (shut_bool Tryz.underlying4 _) trodAll_mk0) (fun _ _ => trodAll_cons_mk (shut_int Tryz.underlying5 wa) (trodAll_cons_mk (shut_int Tryz.underlying5 wb) trodAll_mk0)) (fun _ _ => rfl) rfl
    hg (ok_one (by kernel_rfl) rfl (okWide_bool_mk Tryz.underlying4 _))⟩
end Go.Proofs.YtpifbaiibhaklaaGreatDoor
namespace Go.Proofs.YtpifbaiibhaklaaGreatDoor
open Go.ChangeShapes Go.WideShapes Go.ChangeAt Go.RowKit

theorem laid_met (os : Os) : laidMet Tryz.prog Rows.datumLimitsRow.laid ((laidWorld os).forCall (fun _ _ => 0) ⟨#[], #[.int .u8 0, .int .u8 0], []⟩).memory :=
  laidMet_of_run' 8 (by kernel_rfl) (by kernel_rfl)
theorem reads (os : Os) {H : Type} (enc : TypeId × Value → H) : ∃ places, DataW.whole enc Tryz.prog ((laidWorld os).forCall (fun _ _ => 0) ⟨#[], #[.int .u8 0, .int .u8 0], []⟩).memory Tryz.f3.params.toList Rows.datumLimitsSpec.vars false #[Value.int .u8 0, .int .u8 0].toList 8 = some ([.lit (.int .u8 0), .lit (.int .u8 0)], [], places) :=
  ⟨[], by kernel_rfl⟩

set_option maxRecDepth 100000 in
theorem lifted (os : Os) (started : os.Started) (H : Type) (enc : TypeId × Value → H) (F : Stop.Interp) :
    ReturnsInHanded {} Tryz.checked os 3 .any ((OpenSpec.ofChange Rows.datumLimitsSpec).preRow enc Tryz.prog Tryz.f3 Rows.datumLimitsRow.domain false Rows.datumLimitsRow.laid) (((OpenSpec.ofChange Rows.datumLimitsSpec).at F).post enc Tryz.prog Tryz.f3 false true false false) := by
  obtain ⟨places, hx⟩ := reads os enc
  refine returnsInHanded_of_row (C := Tryz.checked) (s := OpenSpec.ofChange Rows.datumLimitsSpec) ownK started (by kernel_rfl) Tryz.func3
    (witness_row_at (enc := enc) (C := Tryz.checked) false (laidWorld os) #[.int .u8 0, .int .u8 0] rfl (by kernel_rfl) (by kernel_rfl) (by kernel_rfl)
      (OpenSpec.preRow_of_cond 8 hx (by kernel_rfl) (fun k hk => by cases hk) (by kernel_rfl) (laid_met os))) ?_
  intro W base args ds gs before hval hW _ _ _ hL hsh _
  exact contract H enc W base args ds gs before hval hW hL hsh

theorem said : Rows.DatumLimitsSaid :=
  OpenClaim.holds_of_cond 3 Tryz.f3 rfl rfl rfl rfl rfl rfl rfl ⟨rfl, rfl, rfl, rfl, rfl⟩ rfl rfl rfl rfl rfl (by kernel_rfl) Tryz.func3 (by kernel_rfl)
    (of_decide_eq_true (by kernel_rfl)) (by unfold Func.isWrapper; first | (rw [if_pos (by decide +kernel)]; kernel_rfl) | (rw [if_neg (by decide +kernel)]; exact ⟨rfl, rfl⟩))
    (fun os started H enc _ F => by rw [OpenClaim.pre_eq_preRow]; exact lifted os started H enc F)

theorem plain (f : FuncId) (fn : Func) (hf : Tryz.pinned.checked.prog.funcNamed "dowel/dowellaw38.DatumLimits" = some f) (hfn : Tryz.pinned.checked.prog.funcs[f]? = some fn) :
    true = Tryz.pinned.checked.prog.looks [] ∧ ∀ (j : Nat) t, fn.params[j]? = some t → Tryz.pinned.checked.prog.wantsStandIn t = false := by
  obtain rfl : f = 3 := Option.some.inj ((show Tryz.prog.funcNamed "dowel/dowellaw38.DatumLimits" = some 3 by kernel_rfl).symm.trans hf) |>.symm
  obtain rfl : fn = Tryz.f3 := (Option.some.inj (Tryz.func3.symm.trans hfn)).symm
  refine ⟨by kernel_rfl, fun j t ht => ?_⟩
  rw [Tryz.params3] at ht
  obtain rfl : t = 5 := by simpa using Array.mem_of_getElem? ht
  exact (show Tryz.prog.wantsStandIn 5 = false by kernel_rfl)

/-- ████ THE CARD ████ -/
theorem datumLimitsCard : Rows.DatumLimitsCardSaid :=
  Claim7.holds_tied_plain_at .later [] _ _ _ _ said (fun _ h => by cases h) (by kernel_rfl) (fun _ h => by cases h) datumLimits_row_tie rfl ⟨rfl, rfl⟩ (by kernel_rfl) rfl plain (by kernel_rfl)
end Go.Proofs.YtpifbaiibhaklaaGreatDoor
