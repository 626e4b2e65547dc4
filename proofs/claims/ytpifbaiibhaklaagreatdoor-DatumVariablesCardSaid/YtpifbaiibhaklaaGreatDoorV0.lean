/- DatumVariables: the walk.
  DatumVariables: for any right scheme, Variables returns the variables, Constraints what holds between them, and Variable the index of each: the row and its card. The listed variables of Go's library hold what its text lays. -/
import Derived.Test.YtpifbaiibhaklaaGreatDoorL15
import Derived.Test.YtpifbaiibhaklaaGreatDoorL11
import Derived.Test.YtpifbaiibhaklaaGreatDoorL9
import Derived.Test.YtpifbaiibhaklaaGreatDoorL10
namespace Go.Proofs.YtpifbaiibhaklaaGreatDoor
open Go.RowKit Big
set_option maxHeartbeats 4000000
set_option linter.unusedVariables false
set_option linter.unusedSimpArgs false

set_option maxRecDepth 100000 in
theorem DatumVariables_any (A Bz : Option Addr) (n c m d : Nat) (s : Sch) (w : World) (hg : Good w) (hf : IsFs w.heap.size 28 w A n c s.fs) (hz : IsZs w.heap.size 30 w Bz m d s.zs) :
    Calls Tryz.prog 4 #[.agg #[.slice A n c, .slice Bz m d]] w fun e w' => e = .returned (.bool true) ∧ Below w.heap.size w w' := by
  have HK := Lib.hid (fun W (hW : Below w.heap.size w W) => known_any W (hg.below hW))
  have HF := Lib.hid (fun W (hW : Below w.heap.size w W) => fine_any w.heap.size A Bz n c m d s W (hf.below hW) (hz.below hW))
  by_cases hfi : fineB s = true
  · rw [hfi] at HF
    have hE : checkE s = 0 := by unfold fineB at hfi; simp at hfi; exact hfi.2
    have hfine := fine_of_check hE
    have hn : n ≤ 16 := by have := hfine.nf; rw [hf.len] at this; exact this
    have hm : m ≤ 32 := by have := hfine.nz; rw [hz.len] at this; exact this
    have HV := Lib.hid (fun W (hW : Below w.heap.size w W) => (show Calls Tryz.prog 8 #[.agg #[.slice A n c, .slice Bz m d]] W (RetDims (dimsOf s) 0 W) from by have := Variables_any w.heap.size A Bz n c m d s W (hf.below hW) (hz.below hW); rwa [if_pos hE, hE] at this))
    have HO := Lib.hid (fun W (hW : Below w.heap.size w W) => (show Calls Tryz.prog 12 #[.agg #[.slice A n c, .slice Bz m d]] W (RetCons (consOf s) 0 W) from by have := Constraints_any w.heap.size A Bz n c m d s W (hg.below hW) (hf.below hW) (hz.below hW); rwa [if_pos hE, hE] at this))
    have HM := Lib.hid (fun W (hW : Below w.heap.size w W) => mvariables_any w.heap.size A Bz n c m d s W (hf.below hW) (hz.below hW) hfine)
    have HN := Lib.hid (fun W (hW : Below w.heap.size w W) => mconstraints_any w.heap.size A Bz n c m d s W (hg.below hW) (hf.below hW) (hz.below hW) hfine)
    have HX := Lib.hid (fun (i k : Int) (hi0 : 0 ≤ i) (hin : i < n) (hk0 : 1 ≤ k) (hk3 : k ≤ 3) W (hW : Below w.heap.size w W) => Variable_ok w.heap.size A Bz n c m d s i k W (hf.below hW) (hz.below hW) hE hi0 hin hk0 hk3)
    have hIx : Hid (∀ (i k : Int), indexOf s i k = idxI (isV i k) (varsOf s)) := Lib.hid (fun _ _ => rfl)
    have hct := Lib.hid (cons_terms s s.zs.length)
    have hcl : (consOf s).length ≤ 64 := by have := consTo_len s s.zs.length; have := hfine.nz; unfold consOf; omega
    have hvl : (varsOf s).length ≤ 48 := by have := varsTo_len s s.fs.length; have := hfine.nf; unfold varsOf; omega
    have hdl : (dimsOf s).length ≤ 48 := by unfold dimsOf; rw [List.length_map]; exact hvl
    rw [show consTo s s.zs.length = consOf s from rfl] at hct
    clear hf hz hg hE hfine hfi
    unfold RetMV at HM
    generalize indexOf s = io at HX hIx
    generalize dimsOf s = ds at HV HM hdl
    generalize consOf s = cs at HO HN hct hcl
    generalize varsOf s = vs at HM hIx hvl
    go_enter Tryz.func4, Tryz.ntmps4
    go_wp2_with fail
    refine (HK.out _ (by repeat (first | exact Below.refl _ _ | with_reducible assumption | apply below_alloc | apply below_drewN | apply below_drew | refine below_set ?_ (by simp; try omega) _ | refine below_then ?_ (by with_reducible assumption)))).mono ?_
    rintro e w1 ⟨rfl, hb⟩
    have a0 := keptc hb w.heap.size 0 (.slice A n c) (by simp [go_sem])
    have a1 := keptc hb w.heap.size 1 (.slice Bz m d) (by simp [go_sem])
    have B1 := Lib.hid (below_then (w := w) (by repeat (first | exact Below.refl _ _ | with_reducible assumption | apply below_alloc | apply below_drewN | apply below_drew | refine below_set ?_ (by simp; try omega) _ | refine below_then ?_ (by with_reducible assumption))) hb)
    clear hb
    go_wp2_with fail
    refine (HF.out _ B1.out).mono ?_
    rintro e w2 ⟨rfl, hb⟩
    have a0 := cell_below hb a0
    have a1 := cell_below hb a1
    have B2 := Lib.hid (below_then B1.out hb)
    clear hb B1
    go_wp2_with fail
    refine (HV.out _ B2.out).mono ?_
    rintro e w3 ⟨A3, n3, c3, rfl, hd, hb⟩
    have a0 := cell_below hb a0
    have a1 := cell_below hb a1
    have hd := Lib.hid hd
    have B3 := Lib.hid (below_then B2.out hb)
    clear hb B2
    go_wp2_with fail
    refine (HO.out _ B3.out).mono ?_
    rintro e w4 ⟨A4, n4, c4, rs, rfl, hc, hr, hb⟩
    have a0 := cell_below hb a0
    have a1 := cell_below hb a1
    have hd := Lib.hid (hd.out.below hb)
    have hc := Lib.hid hc
    have hr := Lib.hid hr
    have B4 := Lib.hid (below_then B3.out hb)
    clear hb B3
    go_wp2_with fail
    refine (HM.out _ B4.out).mono ?_
    rintro e w5 ⟨A5, n5, c5, A6, n6, c6, rfl, hd2, hk, hb⟩
    have a0 := cell_below hb a0
    have a1 := cell_below hb a1
    have hd := Lib.hid (hd.out.below hb)
    have hd2 := Lib.hid (hd2 0)
    have hk := Lib.hid (hk 0)
    have hc := Lib.hid (hc.out.below hb)
    have hr := Lib.hid (hr.out.below hb)
    have B5 := Lib.hid (below_then B4.out hb)
    obtain rfl : n3 = n5 := by rw [← hd.out.len, ← hd2.out.len]
    have hn3 : n3 ≤ 48 := by rw [← hd.out.len]; exact hdl
    have HD := Lib.hid (EqualDims_same _ 0 A3 A5 n3 c3 c5 ds w5 hd.out hd2.out (by omega))
    clear hb B4 hd hd2
    go_wp2_with fail
    refine HD.out.mono ?_
    rintro e w6 ⟨rfl, hb⟩
    have a0 := cell_below hb a0
    have a1 := cell_below hb a1
    have hk := Lib.hid (hk.out.below hb)
    have hc := Lib.hid (hc.out.below hb)
    have hr := Lib.hid (hr.out.below hb)
    have B6 := Lib.hid (below_then B5.out hb)
    clear hb B5 HD
    go_wp2_with fail
    refine (HN.out _ B6.out).mono ?_
    rintro e w7 ⟨A7, n7, c7, rs7, rfl, hc7, hr7, hb⟩
    have a0 := cell_below hb a0
    have a1 := cell_below hb a1
    have hk := Lib.hid (hk.out.below hb)
    have hc := Lib.hid (hc.out.below hb)
    have hr := Lib.hid (hr.out.below hb)
    have hc7 := Lib.hid (hc7 0)
    have B7 := Lib.hid (below_then B6.out hb)
    obtain rfl : n4 = n7 := by rw [← hc.out.len, ← hc7.out.len, hr.out.len, hr7.len]
    have hn4 : n4 ≤ 64 := by rw [← hc.out.len, hr.out.len]; exact hcl
    have HQ := Lib.hid (EqualCons_same _ 0 A4 A7 n4 c4 c7 rs rs7 cs w7 hc.out hc7.out hr.out hr7 (by omega) hct.out)
    clear hb B6 hc hr hc7 hr7
    go_wp2_with fail
    refine HQ.out.mono ?_
    rintro e w8 ⟨rfl, hb⟩
    have a0 := cell_below hb a0
    have a1 := cell_below hb a1
    have hk := Lib.hid (hk.out.below hb)
    have B8 := Lib.hid (below_then B7.out hb)
    have hn6 : n6 ≤ 48 := by rw [← hk.out.len]; exact hvl
    have HI := Lib.hid (fun (i k : Int) W (hW : Below w8.heap.size w8 W) => IndexKey_any 0 A6 n6 c6 vs i k W (hk.out.below hW) (by omega))
    clear hb B7 HQ hk HK HF HV HO HM HN hct
    go_wp2_with fail
    go_loopw [58] (fun q wr => ∃ (i : Nat), i ≤ n ∧ q = .int .i64 (i : Int) ∧ Below w8.heap.size w8 wr) (fun q _ => n - (intOf q).toNat)
    case atStart => exact ⟨0, Nat.zero_le _, rfl, (by repeat (first | exact Below.refl _ _ | with_reducible assumption | apply below_alloc | apply below_drewN | apply below_drew | refine below_set ?_ (by simp; try omega) _ | refine below_then ?_ (by with_reducible assumption)))⟩
    case round =>
      obtain ⟨i, hi, rfl, hb⟩ := hrel
      have Hb := Lib.hid hb
      by_cases hlt : i < n
      · clear hb
        go_wp2_with fail
        go_loopw [10] (fun q wr => ∃ (k : Nat), 1 ≤ k ∧ k ≤ 4 ∧ q = .int .i64 (k : Int) ∧ Below w8.heap.size w8 wr) (fun q _ => 4 - (intOf q).toNat)
        case atStart => exact ⟨1, Nat.le_refl _, by decide, rfl, by have := Hb.out; exact (by repeat (first | exact Below.refl _ _ | with_reducible assumption | apply below_alloc | apply below_drewN | apply below_drew | refine below_set ?_ (by simp; try omega) _ | refine below_then ?_ (by with_reducible assumption)))⟩
        case round =>
          obtain ⟨k, hk1, hk4, rfl, hb⟩ := hrel
          have Hc := Lib.hid hb
          have c0 := cell_below hb a0
          have c1 := cell_below hb a1
          by_cases hk : k < 4
          · have hle : decide ((k : Int) ≤ 3) = true := decide_eq_true (by omega)
            have HX1 := Lib.hid (HX.out i k (by omega) (by omega) (by omega) (by omega) _ (below_then B8.out hb))
            have HI1 := Lib.hid (HI.out i k)
            rw [← hIx.out i k] at HI1
            generalize io (i : Int) (k : Int) = x at HX1 HI1
            obtain ⟨y, hy⟩ : ∃ y, decide (0 ≤ x) = y := ⟨_, rfl⟩
            obtain ⟨z, hz⟩ : ∃ z, max x 0 = z := ⟨_, rfl⟩
            have hyy : (y != y) = false := by simp
            have hzz : (z != z) = false := by simp
            rw [hy, hz] at HX1
            clear hb
            go_wp2_with fail
            refine HX1.out.mono ?_
            rintro e w9 ⟨rfl, hb⟩
            have B9 := Lib.hid (below_then Hc.out hb)
            clear hb HX1
            go_wp2_with fail
            refine (HI1.out _ B9.out).mono ?_
            rintro e w10 ⟨rfl, hb⟩
            have B10 := Lib.hid (below_then B9.out hb)
            clear hb B9
            go_wp2_with fail
            go_roundw
            case rel => exact ⟨k + 1, by omega, by omega, by go_num, B10.out⟩
            case measure => simp [intOf]; omega
          · obtain rfl : k = 4 := by omega
            clear hb
            go_wp2_with fail
            go_roundw
            case rel => exact ⟨i + 1, by omega, by go_num, Hc.out⟩
            case measure => simp [intOf]; omega
      · obtain rfl : n = i := by omega
        clear hb
        go_wp2_with fail
        go_ret
        exact ⟨rfl, below_then B8.out Hb.out⟩
  · have hfi : fineB s = false := by simpa using hfi
    rw [hfi] at HF
    clear hf hz hfi
    go_enter Tryz.func4, Tryz.ntmps4
    go_wp2_with fail
    refine (HK.out _ (by repeat (first | exact Below.refl _ _ | with_reducible assumption | apply below_alloc | apply below_drewN | apply below_drew | refine below_set ?_ (by simp; try omega) _ | refine below_then ?_ (by with_reducible assumption)))).mono ?_
    rintro e w1 ⟨rfl, hb⟩
    have a0 := keptc hb w.heap.size 0 (.slice A n c) (by simp [go_sem])
    have a1 := keptc hb w.heap.size 1 (.slice Bz m d) (by simp [go_sem])
    have B1 := Lib.hid (below_then (w := w) (by repeat (first | exact Below.refl _ _ | with_reducible assumption | apply below_alloc | apply below_drewN | apply below_drew | refine below_set ?_ (by simp; try omega) _ | refine below_then ?_ (by with_reducible assumption))) hb)
    clear hb
    go_wp2_with fail
    refine (HF.out _ B1.out).mono ?_
    rintro e w2 ⟨rfl, hb⟩
    have B2 := Lib.hid (below_then B1.out hb)
    clear hb
    go_wp2_with fail
    refine (HK.out _ B2.out).mono ?_
    rintro e w3 ⟨rfl, hb⟩
    have B3 := Lib.hid (below_then B2.out hb)
    clear hb
    go_wp2_with fail
    go_ret
    exact ⟨rfl, B3.out⟩
end Go.Proofs.YtpifbaiibhaklaaGreatDoor
namespace Go.Proofs.YtpifbaiibhaklaaGreatDoor
open Go.ChangeShapes Go.WideShapes Go.ChangeAt Go.RowKit

set_option maxRecDepth 100000 in
theorem contract (H : Type) (enc : TypeId × Value → H) (W : World) (base : Nat) (args : Array Value) (ds gs : List (DataW H)) (before : List MemPlace)
    (hval : ∀ (j : Nat) t v, Tryz.f4.params[j]? = some t → args[j]? = some v → Value.okWide Tryz.prog W .any base t v)
    (hW : DataW.Whole enc Tryz.prog Tryz.f4.params.toList Rows.datumVariablesSpec.vars false W args.toList ds gs before) (hL : laidMetH Tryz.prog Rows.datumVariablesRow.laid W) (hsh : W.ShapedOpen Tryz.prog) :
    Calls Tryz.prog 4 args W fun e W' => ∃ v, e = .returned v ∧ Rows.datumVariablesSpec.post enc Tryz.prog Tryz.f4 false true false false W args v W' := by
  have hW' := hW
  obtain ⟨p, q, hA0, hV, rfl, hfz, hnd⟩ := hW
  have hA : DataW.TrodAll enc Tryz.prog W 0 (fun _ => true) true Tryz.f4.params.toList args.toList ds p := hA0
  obtain ⟨rfl, rfl⟩ := trodVars_none hV
  simp only [List.append_nil] at hW'
  have hlt : ∀ x ∈ p, x.block < W.heap.size := fun x hx => hW'.lt x hx
  rw [Tryz.params4] at hval
  rw [Tryz.params4] at hA
  obtain ⟨v0, vs0, d0, ds0, p0, q0, hargs, rfl, rfl, h0, r0⟩ := trodAll_cons hA
  obtain ⟨rfl, rfl, rfl⟩ := trodAll_nil r0
  obtain rfl : args = #[v0] := Array.ext' (by rw [hargs])
  obtain ⟨A, n, c, B, m, k, s, rfl, hf, hz⟩ := open_scheme (hval 0 26 v0 rfl rfl) h0
  have hg0 := good_of hL hsh
  refine (DatumVariables_any A B n c m k s W hg0 hf hz).mono fun e W' ⟨he, hb⟩ => ?_
  subst he
  exact ⟨_, rfl, post_of_below (pa := p0 ++ []) (pv := []) hW' (fun _ _ _ => trodAll_cons_mk (shut_bool Tryz.underlying4 _) trodAll_mk0)
    (fun sp hsp => trodAll_stays kepAll hb (by rw [Tryz.params4]; intro t ht; obtain rfl : t = 26 := by simpa using ht
                                               exact ⟨by kernel_rfl, by decide +kernel⟩) hA0 hlt hsp) (fun _ _ => rfl) (by simp)
    hb (ok_one (by kernel_rfl) rfl (okWide_bool_mk Tryz.underlying4 _))⟩

def args0 : Array Value := #[.agg #[.slice none 0 0, .slice none 0 0]]
theorem laid_met (os : Os) : laidMet Tryz.prog Rows.datumVariablesRow.laid ((laidWorld os).forCall (fun _ _ => 0) ⟨#[], args0, []⟩).memory :=
  laidMet_of_run' 8 (by kernel_rfl) (by kernel_rfl)
theorem reads (os : Os) {H : Type} (enc : TypeId × Value → H) : ∃ places, DataW.whole enc Tryz.prog ((laidWorld os).forCall (fun _ _ => 0) ⟨#[], args0, []⟩).memory Tryz.f4.params.toList Rows.datumVariablesSpec.vars false args0.toList 8 = some ([.agg [.nil, .nil]], [], places) :=
  ⟨[], by kernel_rfl⟩

set_option maxRecDepth 100000 in
theorem lifted (os : Os) (started : os.Started) (H : Type) (enc : TypeId × Value → H) (F : Stop.Interp) :
    ReturnsInHanded {} Tryz.checked os 4 .any ((OpenSpec.ofChange Rows.datumVariablesSpec).preRow enc Tryz.prog Tryz.f4 Rows.datumVariablesRow.domain false Rows.datumVariablesRow.laid) (((OpenSpec.ofChange Rows.datumVariablesSpec).at F).post enc Tryz.prog Tryz.f4 false true false false) := by
  obtain ⟨places, hx⟩ := reads os enc
  refine returnsInHanded_of_row (C := Tryz.checked) (s := OpenSpec.ofChange Rows.datumVariablesSpec) ownK started (by kernel_rfl) Tryz.func4
    (witness_row_at (enc := enc) (C := Tryz.checked) false (laidWorld os) args0 rfl (by kernel_rfl) (by kernel_rfl) (by kernel_rfl)
      (OpenSpec.preRow_of_cond 8 hx (by kernel_rfl) (fun k hk => by cases hk) (by kernel_rfl) (laid_met os))) ?_
  intro W base args ds gs before hval hW _ _ _ hL hsh _
  exact contract H enc W base args ds gs before hval hW hL hsh

theorem said : Rows.DatumVariablesSaid :=
  OpenClaim.holds_of_cond 4 Tryz.f4 rfl rfl rfl rfl rfl rfl rfl ⟨rfl, rfl, rfl, rfl, rfl⟩ rfl rfl rfl rfl rfl (by kernel_rfl) Tryz.func4 (by kernel_rfl)
    (of_decide_eq_true (by kernel_rfl)) (by unfold Func.isWrapper; first | (rw [if_pos (by decide +kernel)]; kernel_rfl) | (rw [if_neg (by decide +kernel)]; exact ⟨rfl, rfl⟩))
    (fun os started H enc _ F => by rw [OpenClaim.pre_eq_preRow]; exact lifted os started H enc F)

theorem plain (f : FuncId) (fn : Func) (hf : Tryz.pinned.checked.prog.funcNamed "dowel/dowellaw38.DatumVariables" = some f) (hfn : Tryz.pinned.checked.prog.funcs[f]? = some fn) :
    true = Tryz.pinned.checked.prog.looks [] ∧ ∀ (j : Nat) t, fn.params[j]? = some t → Tryz.pinned.checked.prog.wantsStandIn t = false := by
  obtain rfl : f = 4 := Option.some.inj ((show Tryz.prog.funcNamed "dowel/dowellaw38.DatumVariables" = some 4 by kernel_rfl).symm.trans hf) |>.symm
  obtain rfl : fn = Tryz.f4 := (Option.some.inj (Tryz.func4.symm.trans hfn)).symm
  refine ⟨by kernel_rfl, fun j t ht => ?_⟩
  rw [Tryz.params4] at ht
  obtain rfl : t = 26 := by simpa using Array.mem_of_getElem? ht
  exact (show Tryz.prog.wantsStandIn 26 = false by kernel_rfl)

/-- ████ THE CARD ████ -/
theorem datumVariablesCard : Rows.DatumVariablesCardSaid :=
  Claim7.holds_tied_plain_at .later [] _ _ _ _ said (fun _ h => by cases h) (by kernel_rfl) (fun _ h => by cases h) datumVariables_row_tie rfl ⟨rfl, rfl⟩ (by kernel_rfl) rfl plain (by kernel_rfl)
end Go.Proofs.YtpifbaiibhaklaaGreatDoor
