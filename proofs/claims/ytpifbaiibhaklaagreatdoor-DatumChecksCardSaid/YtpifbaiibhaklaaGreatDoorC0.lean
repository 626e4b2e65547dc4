/- DatumChecks: the walk.
  DatumChecks: for any scheme, Check returns its first error, and the other functions return it, too: the row and its card. The listed variables of Go's library hold what its text lays. -/
import Derived.Test.YtpifbaiibhaklaaGreatDoorL9
import Derived.Test.YtpifbaiibhaklaaGreatDoorL10
namespace Go.Proofs.YtpifbaiibhaklaaGreatDoor
open Go.RowKit Big
set_option maxHeartbeats 4000000
set_option linter.unusedVariables false
set_option linter.unusedSimpArgs false

theorem EqualTerm_nil (w : World) : Calls Tryz.prog 45 #[.slice none 0 0, .slice none 0 0] w fun e w' => e = .returned (.bool true) ∧ Below w.heap.size w w' := by
  go_enter Tryz.func45, Tryz.ntmps45
  go_wp2_with fail
  go_loopw [13] (fun q wr => q = .int .i64 0 ∧ Below w.heap.size w wr) (fun _ _ => 0)
  case atStart => exact ⟨rfl, (by repeat (first | exact Below.refl _ _ | with_reducible assumption | apply below_alloc | apply below_drewN | apply below_drew | refine below_set ?_ (by simp; try omega) _ | refine below_then ?_ (by with_reducible assumption)))⟩
  case round =>
    obtain ⟨rfl, hb⟩ := hrel
    go_wp2_with fail
    go_ret
    exact ⟨rfl, (by repeat (first | exact Below.refl _ _ | with_reducible assumption | apply below_alloc | apply below_drewN | apply below_drew | refine below_set ?_ (by simp; try omega) _ | refine below_then ?_ (by with_reducible assumption)))⟩
theorem sameForm_nil (w : World) : Calls Tryz.prog 18 #[.agg #[.string ⟨#[]⟩, .slice none 0 0], .agg #[.string ⟨#[]⟩, .slice none 0 0]] w fun e w' => e = .returned (.bool true) ∧ Below w.heap.size w w' := by
  go_enter Tryz.func18, Tryz.ntmps18
  go_wp2_with fail
  refine (EqualTerm_nil _).mono ?_
  rintro e w1 ⟨rfl, hb⟩
  have B1 := Lib.hid (below_then (w := w) (by repeat (first | exact Below.refl _ _ | with_reducible assumption | apply below_alloc | apply below_drewN | apply below_drew | refine below_set ?_ (by simp; try omega) _ | refine below_then ?_ (by with_reducible assumption))) hb)
  clear hb
  go_wp2_with fail
  go_ret
  exact ⟨rfl, B1.out⟩
theorem holds_bad {s : Sch} (h : checkE s ≠ 0) (ts : List (List UInt8)) : holdsOf s ts = (false, 0, checkE s) := by unfold holdsOf; rw [if_pos h]
theorem with_bad {s : Sch} (h : checkE s ≠ 0) (l : List Int) : withE s l = checkE s := by unfold withE; rw [if_pos h]

set_option maxRecDepth 100000 in
theorem DatumChecks_any (A Bz : Option Addr) (n c m d : Nat) (s : Sch) (w : World) (hg : Good w) (hf : IsFs w.heap.size 28 w A n c s.fs) (hz : IsZs w.heap.size 30 w Bz m d s.zs) :
    Calls Tryz.prog 6 #[.agg #[.slice A n c, .slice Bz m d]] w fun e w' => e = .returned (.bool true) ∧ Below w.heap.size w w' := by
  have HK := Lib.hid (fun W (hW : Below w.heap.size w W) => known_any W (hg.below hW))
  have HF := Lib.hid (fun W (hW : Below w.heap.size w W) => few_any w.heap.size A Bz n c m d s W (hf.below hW) (hz.below hW))
  have HM := Lib.hid (fun W (hW : Below w.heap.size w W) => (show Calls Tryz.prog 9 #[.agg #[.slice A n c, .slice Bz m d]] W (fun e w' => e = .returned (.int .i64 (checkE s)) ∧ Below W.heap.size W w') from mcheck_any w.heap.size _ _ _ _ _ _ s.fs s.zs W (hf.below hW) (hz.below hW)))
  have HC := Lib.hid (fun W (hW : Below w.heap.size w W) => Check_any w.heap.size A Bz n c m d s W (hf.below hW) (hz.below hW))
  by_cases hE : checkE s = 0
  · rw [hE] at HM HC
    generalize fewB s = fw at HF
    clear hf hz hE
    cases fw
    · go_enter Tryz.func6, Tryz.ntmps6
      go_wp2_with fail
      refine (HK.out _ (by repeat (first | exact Below.refl _ _ | with_reducible assumption | apply below_alloc | apply below_drewN | apply below_drew | refine below_set ?_ (by simp; try omega) _ | refine below_then ?_ (by with_reducible assumption)))).mono ?_
      rintro e w1 ⟨rfl, hb⟩
      have a0 := keptc hb w.heap.size 0 (.slice A n c) (by simp [go_sem])
      have a1 := keptc hb w.heap.size 1 (.slice Bz m d) (by simp [go_sem])
      have B1 := Lib.hid (below_then (w := w) (by repeat (first | exact Below.refl _ _ | with_reducible assumption | apply below_alloc | apply below_drewN | apply below_drew | refine below_set ?_ (by simp; try omega) _ | refine below_then ?_ (by with_reducible assumption))) hb)
      clear hb
      go_wp2_with fail
      refine (HF.out _ B1.out).mono ?_
      rintro e w2 ⟨rfl, hb⟩
      have B2 := Lib.hid (below_then B1.out hb)
      clear hb
      go_wp2_with fail
      refine (HK.out _ B2.out).mono ?_
      rintro e w3 ⟨rfl, hb⟩
      have B3 := Lib.hid (below_then B2.out hb)
      clear hb
      go_wp2_with fail
      go_ret
      exact ⟨rfl, B3.out⟩
    · go_enter Tryz.func6, Tryz.ntmps6
      go_wp2_with fail
      refine (HK.out _ (by repeat (first | exact Below.refl _ _ | with_reducible assumption | apply below_alloc | apply below_drewN | apply below_drew | refine below_set ?_ (by simp; try omega) _ | refine below_then ?_ (by with_reducible assumption)))).mono ?_
      rintro e w1 ⟨rfl, hb⟩
      have a0 := keptc hb w.heap.size 0 (.slice A n c) (by simp [go_sem])
      have a1 := keptc hb w.heap.size 1 (.slice Bz m d) (by simp [go_sem])
      have B1 := Lib.hid (below_then (w := w) (by repeat (first | exact Below.refl _ _ | with_reducible assumption | apply below_alloc | apply below_drewN | apply below_drew | refine below_set ?_ (by simp; try omega) _ | refine below_then ?_ (by with_reducible assumption))) hb)
      clear hb
      go_wp2_with fail
      refine (HF.out _ B1.out).mono ?_
      rintro e w2 ⟨rfl, hb⟩
      have a0 := cell_below hb a0
      have a1 := cell_below hb a1
      have B2 := Lib.hid (below_then B1.out hb)
      clear hb
      go_wp2_with fail
      refine (HM.out _ B2.out).mono ?_
      rintro e w3 ⟨rfl, hb⟩
      have a0 := cell_below hb a0
      have a1 := cell_below hb a1
      have B3 := Lib.hid (below_then B2.out hb)
      clear hb
      go_wp2_with fail
      refine (HC.out _ B3.out).mono ?_
      rintro e w4 ⟨rfl, hb⟩
      have B4 := Lib.hid (below_then B3.out hb)
      clear hb
      go_wp2_with fail
      go_ret
      exact ⟨rfl, B4.out⟩
  · have HV := Lib.hid (fun W (hW : Below w.heap.size w W) => (if_neg (c := checkE s = 0) (t := dimsOf s) (e := []) hE) ▸ Variables_any w.heap.size A Bz n c m d s W (hf.below hW) (hz.below hW))
    have HO := Lib.hid (fun W (hW : Below w.heap.size w W) => (if_neg (c := checkE s = 0) (t := consOf s) (e := []) hE) ▸ Constraints_any w.heap.size A Bz n c m d s W (hg.below hW) (hf.below hW) (hz.below hW))
    have HH := Lib.hid (fun W (hW : Below w.heap.size w W) => Chain_bad w.heap.size A Bz n c m d s 0 W (hf.below hW) (hz.below hW) (by rw [with_bad hE]; exact hE))
    have HP := Lib.hid (fun W (hW : Below w.heap.size w W) => Place_bad w.heap.size A Bz n c m d s 0 0 W (hf.below hW) (hz.below hW) (by rw [with_bad hE]; exact hE))
    have HB := Lib.hid (fun W (hW : Below w.heap.size w W) => Between_bad w.heap.size A Bz n c m d s 0 0 0 0 W (hf.below hW) (hz.below hW) (by rw [with_bad hE]; exact hE))
    have HX := Lib.hid (fun W (hW : Below w.heap.size w W) => Variable_bad w.heap.size A Bz n c m d s 0 0 W (hf.below hW) (hz.below hW) (by rw [with_bad hE]; exact hE))
    have HS := Lib.hid (fun W (hW : Below w.heap.size w W) => Holds_w w.heap.size 0 A Bz none n c m d 0 0 s [] W (hg.below hW) hW.size (hf.below hW) (hz.below hW) ⟨rfl, Nat.le_refl _, .inl rfl⟩ (by decide) (fun i hi => absurd hi (Nat.not_lt_zero _)) (fun i hi => absurd hi (Nat.not_lt_zero _)))
    rw [holds_bad hE] at HS
    rw [with_bad hE] at HH HP HB HX
    dsimp only at HS
    generalize fewB s = fw at HF
    clear hf hz
    generalize checkE s = E at *
    have hEd : (E == 0) = false := by simpa using hE
    cases fw
    · go_enter Tryz.func6, Tryz.ntmps6
      go_wp2_with fail
      refine (HK.out _ (by repeat (first | exact Below.refl _ _ | with_reducible assumption | apply below_alloc | apply below_drewN | apply below_drew | refine below_set ?_ (by simp; try omega) _ | refine below_then ?_ (by with_reducible assumption)))).mono ?_
      rintro e w1 ⟨rfl, hb⟩
      have a0 := keptc hb w.heap.size 0 (.slice A n c) (by simp [go_sem])
      have a1 := keptc hb w.heap.size 1 (.slice Bz m d) (by simp [go_sem])
      have B1 := Lib.hid (below_then (w := w) (by repeat (first | exact Below.refl _ _ | with_reducible assumption | apply below_alloc | apply below_drewN | apply below_drew | refine below_set ?_ (by simp; try omega) _ | refine below_then ?_ (by with_reducible assumption))) hb)
      clear hb
      go_wp2_with fail
      refine (HF.out _ B1.out).mono ?_
      rintro e w2 ⟨rfl, hb⟩
      have B2 := Lib.hid (below_then B1.out hb)
      clear hb
      go_wp2_with fail
      refine (HK.out _ B2.out).mono ?_
      rintro e w3 ⟨rfl, hb⟩
      have B3 := Lib.hid (below_then B2.out hb)
      clear hb
      go_wp2_with fail
      go_ret
      exact ⟨rfl, B3.out⟩
    · go_enter Tryz.func6, Tryz.ntmps6
      go_wp2_with fail
      refine (HK.out _ (by repeat (first | exact Below.refl _ _ | with_reducible assumption | apply below_alloc | apply below_drewN | apply below_drew | refine below_set ?_ (by simp; try omega) _ | refine below_then ?_ (by with_reducible assumption)))).mono ?_
      rintro e w1 ⟨rfl, hb⟩
      have a0 := keptc hb w.heap.size 0 (.slice A n c) (by simp [go_sem])
      have a1 := keptc hb w.heap.size 1 (.slice Bz m d) (by simp [go_sem])
      have B1 := Lib.hid (below_then (w := w) (by repeat (first | exact Below.refl _ _ | with_reducible assumption | apply below_alloc | apply below_drewN | apply below_drew | refine below_set ?_ (by simp; try omega) _ | refine below_then ?_ (by with_reducible assumption))) hb)
      clear hb
      go_wp2_with fail
      refine (HF.out _ B1.out).mono ?_
      rintro e w2 ⟨rfl, hb⟩
      have a0 := cell_below hb a0
      have a1 := cell_below hb a1
      have B2 := Lib.hid (below_then B1.out hb)
      clear hb
      go_wp2_with fail
      refine (HM.out _ B2.out).mono ?_
      rintro e w3 ⟨rfl, hb⟩
      have a0 := cell_below hb a0
      have a1 := cell_below hb a1
      have B3 := Lib.hid (below_then B2.out hb)
      clear hb
      go_wp2_with fail
      refine (HC.out _ B3.out).mono ?_
      rintro e w4 ⟨rfl, hb⟩
      have a0 := cell_below hb a0
      have a1 := cell_below hb a1
      have B4 := Lib.hid (below_then B3.out hb)
      clear hb B1 B2 B3
      go_wp2_with fail
      refine (HV.out _ B4.out).mono ?_
      rintro e w5 ⟨A5, n5, c5, rfl, hd, hb⟩
      obtain rfl : 0 = n5 := hd.len
      have a0 := cell_below hb a0
      have a1 := cell_below hb a1
      have B5 := Lib.hid (below_then B4.out hb)
      clear hb B4 hd
      go_wp2_with fail
      refine (HO.out _ B5.out).mono ?_
      rintro e w6 ⟨A6, n6, c6, rs, rfl, hc, hrs, hb⟩
      obtain rfl : 0 = n6 := by have h1 : rs.length = 0 := hrs.len; rw [← hc.len, h1]
      have a0 := cell_below hb a0
      have a1 := cell_below hb a1
      have B6 := Lib.hid (below_then B5.out hb)
      clear hb B5 hc hrs
      go_wp2_with fail
      refine (HH.out _ B6.out).mono ?_
      rintro e w7 ⟨rfl, hb⟩
      have a0 := cell_below hb a0
      have a1 := cell_below hb a1
      have B7 := Lib.hid (below_then B6.out hb)
      clear hb B6
      go_wp2_with fail
      refine (HP.out _ B7.out).mono ?_
      rintro e w8 ⟨rfl, hb⟩
      have a0 := cell_below hb a0
      have a1 := cell_below hb a1
      have B8 := Lib.hid (below_then B7.out hb)
      have hl8 := World.block_lt_of_cell? w8 _ a0
      clear hb B7
      have hn8 : ¬ w.heap.size = w8.heap.size := by have : w.heap.size < w8.heap.size := hl8; omega
      go_wp2_with fail
      refine (HB.out _ (by have := B8.out; exact (by repeat (first | exact Below.refl _ _ | with_reducible assumption | apply below_alloc | apply below_drewN | apply below_drew | refine below_set ?_ (by simp; try omega) _ | refine below_then ?_ (by with_reducible assumption))))).mono ?_
      rintro e w9 ⟨rfl, hb⟩
      have p0 := keptc hb w8.heap.size 0 (.string ⟨#[]⟩) (by simp [go_sem])
      have p1 := keptc hb w8.heap.size 1 (.slice none 0 0) (by simp [go_sem])
      have K9 := below_then (w := w8) (by repeat (first | exact Below.refl _ _ | with_reducible assumption | apply below_alloc | apply below_drewN | apply below_drew | refine below_set ?_ (by simp; try omega) _ | refine below_then ?_ (by with_reducible assumption))) hb
      have a0 := cell_below K9 a0
      have a1 := cell_below K9 a1
      have B9 := Lib.hid (below_then B8.out K9)
      have hl9 := World.block_lt_of_cell? w9 _ p0
      have hw9 : w.heap.size < w9.heap.size := World.block_lt_of_cell? w9 _ a0
      clear hb K9 B8
      have hn9 : ¬ w.heap.size = w9.heap.size := by have : w8.heap.size < w9.heap.size := hl9; have : w.heap.size < w8.heap.size := hl8; omega
      have hm9 : ¬ w8.heap.size = w9.heap.size := by have : w8.heap.size < w9.heap.size := hl9; omega
      go_wp2_with fail
      refine (HS.out _ (by have := B9.out; exact (by repeat (first | exact Below.refl _ _ | with_reducible assumption | apply below_alloc | apply below_drewN | apply below_drew | refine below_set ?_ (by simp; try omega) _ | refine below_then ?_ (by with_reducible assumption))))).mono ?_
      rintro e w10 ⟨rfl, hb⟩
      have q0 := keptc hb w9.heap.size 0 (.string ⟨#[]⟩) (by simp [go_sem])
      have q1 := keptc hb w9.heap.size 1 (.slice none 0 0) (by simp [go_sem])
      have K10 := below_then (w := w9) (by repeat (first | exact Below.refl _ _ | with_reducible assumption | apply below_alloc | apply below_drewN | apply below_drew | refine below_set ?_ (by simp; try omega) _ | refine below_then ?_ (by with_reducible assumption))) hb
      have a0 := cell_below K10 a0
      have a1 := cell_below K10 a1
      have p0 := cell_below K10 p0
      have p1 := cell_below K10 p1
      have B10 := Lib.hid (below_then B9.out K10)
      clear hb K10 B9
      go_wp2_with fail
      refine (HX.out _ B10.out).mono ?_
      rintro e w11 ⟨rfl, hb⟩
      have p0 := cell_below hb p0
      have p1 := cell_below hb p1
      have q0 := cell_below hb q0
      have q1 := cell_below hb q1
      have B11 := Lib.hid (below_then B10.out hb)
      clear hb B10 a0 a1
      go_wp2_with fail
      refine (sameForm_nil _).mono ?_
      rintro e w12 ⟨rfl, hb⟩
      have q0 := cell_below hb q0
      have q1 := cell_below hb q1
      have B12 := Lib.hid (below_then B11.out hb)
      clear hb B11
      go_wp2_with fail
      refine (sameForm_nil _).mono ?_
      rintro e w13 ⟨rfl, hb⟩
      have B13 := Lib.hid (below_then B12.out hb)
      clear hb B12
      go_wp2_with fail
      go_ret
      exact ⟨rfl, B13.out⟩
end Go.Proofs.YtpifbaiibhaklaaGreatDoor
namespace Go.Proofs.YtpifbaiibhaklaaGreatDoor
open Go.ChangeShapes Go.WideShapes Go.ChangeAt Go.RowKit

set_option maxRecDepth 100000 in
theorem contract (H : Type) (enc : TypeId × Value → H) (W : World) (base : Nat) (args : Array Value) (ds gs : List (DataW H)) (before : List MemPlace)
    (hval : ∀ (j : Nat) t v, Tryz.f6.params[j]? = some t → args[j]? = some v → Value.okWide Tryz.prog W .any base t v)
    (hW : DataW.Whole enc Tryz.prog Tryz.f6.params.toList Rows.datumChecksSpec.vars false W args.toList ds gs before) (hL : laidMetH Tryz.prog Rows.datumChecksRow.laid W) (hsh : W.ShapedOpen Tryz.prog) :
    Calls Tryz.prog 6 args W fun e W' => ∃ v, e = .returned v ∧ Rows.datumChecksSpec.post enc Tryz.prog Tryz.f6 false true false false W args v W' := by
  have hW' := hW
  obtain ⟨p, q, hA0, hV, rfl, hfz, hnd⟩ := hW
  have hA : DataW.TrodAll enc Tryz.prog W 0 (fun _ => true) true Tryz.f6.params.toList args.toList ds p := hA0
  obtain ⟨rfl, rfl⟩ := trodVars_none hV
  simp only [List.append_nil] at hW'
  have hlt : ∀ x ∈ p, x.block < W.heap.size := fun x hx => hW'.lt x hx
  rw [Tryz.params6] at hval
  rw [Tryz.params6] at hA
  obtain ⟨v0, vs0, d0, ds0, p0, q0, hargs, rfl, rfl, h0, r0⟩ := trodAll_cons hA
  obtain ⟨rfl, rfl, rfl⟩ := trodAll_nil r0
  obtain rfl : args = #[v0] := Array.ext' (by rw [hargs])
  obtain ⟨A, n, c, B, m, k, s, rfl, hf, hz⟩ := open_scheme (hval 0 26 v0 rfl rfl) h0
  have hg0 := good_of hL hsh
  refine (DatumChecks_any A B n c m k s W hg0 hf hz).mono fun e W' ⟨he, hb⟩ => ?_
  subst he
  exact ⟨_, rfl, post_of_below (pa := p0 ++ []) (pv := []) hW' (fun _ _ _ => trodAll_cons_mk (shut_bool Tryz.underlying4 _) trodAll_mk0)
    (fun sp hsp => trodAll_stays kepAll hb (by rw [Tryz.params6]; intro t ht; obtain rfl : t = 26 := by simpa using ht
                                               exact ⟨by kernel_rfl, by decide +kernel⟩) hA0 hlt hsp) (fun _ _ => rfl) (by simp)
    hb (ok_one (by kernel_rfl) rfl (okWide_bool_mk Tryz.underlying4 _))⟩

def args0 : Array Value := #[.agg #[.slice none 0 0, .slice none 0 0]]
theorem laid_met (os : Os) : laidMet Tryz.prog Rows.datumChecksRow.laid ((laidWorld os).forCall (fun _ _ => 0) ⟨#[], args0, []⟩).memory :=
  laidMet_of_run' 8 (by kernel_rfl) (by kernel_rfl)
theorem reads (os : Os) {H : Type} (enc : TypeId × Value → H) : ∃ places, DataW.whole enc Tryz.prog ((laidWorld os).forCall (fun _ _ => 0) ⟨#[], args0, []⟩).memory Tryz.f6.params.toList Rows.datumChecksSpec.vars false args0.toList 8 = some ([.agg [.nil, .nil]], [], places) :=
  ⟨[], by kernel_rfl⟩

set_option maxRecDepth 100000 in
theorem lifted (os : Os) (started : os.Started) (H : Type) (enc : TypeId × Value → H) (F : Stop.Interp) :
    ReturnsInHanded {} Tryz.checked os 6 .any ((OpenSpec.ofChange Rows.datumChecksSpec).preRow enc Tryz.prog Tryz.f6 Rows.datumChecksRow.domain false Rows.datumChecksRow.laid) (((OpenSpec.ofChange Rows.datumChecksSpec).at F).post enc Tryz.prog Tryz.f6 false true false false) := by
  obtain ⟨places, hx⟩ := reads os enc
  refine returnsInHanded_of_row (C := Tryz.checked) (s := OpenSpec.ofChange Rows.datumChecksSpec) ownK started (by kernel_rfl) Tryz.func6
    (witness_row_at (enc := enc) (C := Tryz.checked) false (laidWorld os) args0 rfl (by kernel_rfl) (by kernel_rfl) (by kernel_rfl)
      (OpenSpec.preRow_of_cond 8 hx (by kernel_rfl) (fun k hk => by cases hk) (by kernel_rfl) (laid_met os))) ?_
  intro W base args ds gs before hval hW _ _ _ hL hsh _
  exact contract H enc W base args ds gs before hval hW hL hsh

theorem said : Rows.DatumChecksSaid :=
  OpenClaim.holds_of_cond 6 Tryz.f6 rfl rfl rfl rfl rfl rfl rfl ⟨rfl, rfl, rfl, rfl, rfl⟩ rfl rfl rfl rfl rfl (by kernel_rfl) Tryz.func6 (by kernel_rfl)
    (of_decide_eq_true (by kernel_rfl)) (by unfold Func.isWrapper; first | (rw [if_pos (by decide +kernel)]; kernel_rfl) | (rw [if_neg (by decide +kernel)]; exact ⟨rfl, rfl⟩))
    (fun os started H enc _ F => by rw [OpenClaim.pre_eq_preRow]; exact lifted os started H enc F)

theorem plain (f : FuncId) (fn : Func) (hf : Tryz.pinned.checked.prog.funcNamed "dowel/dowellaw38.DatumChecks" = some f) (hfn : Tryz.pinned.checked.prog.funcs[f]? = some fn) :
    true = Tryz.pinned.checked.prog.looks [] ∧ ∀ (j : Nat) t, fn.params[j]? = some t → Tryz.pinned.checked.prog.wantsStandIn t = false := by
  obtain rfl : f = 6 := Option.some.inj ((show Tryz.prog.funcNamed "dowel/dowellaw38.DatumChecks" = some 6 by kernel_rfl).symm.trans hf) |>.symm
  obtain rfl : fn = Tryz.f6 := (Option.some.inj (Tryz.func6.symm.trans hfn)).symm
  refine ⟨by kernel_rfl, fun j t ht => ?_⟩
  rw [Tryz.params6] at ht
  obtain rfl : t = 26 := by simpa using Array.mem_of_getElem? ht
  exact (show Tryz.prog.wantsStandIn 26 = false by kernel_rfl)

/-- ████ THE CARD ████ -/
theorem datumChecksCard : Rows.DatumChecksCardSaid :=
  Claim7.holds_tied_plain_at .later [] _ _ _ _ said (fun _ h => by cases h) (by kernel_rfl) (fun _ h => by cases h) datumChecks_row_tie rfl ⟨rfl, rfl⟩ (by kernel_rfl) rfl plain (by kernel_rfl)
end Go.Proofs.YtpifbaiibhaklaaGreatDoor
