/- Package datum: sum.
  A region that draws its order: what holds behind each of its operations, shown operation by operation.
  Package datum: the words of constraints.
  Package datum: the statement of Constraints that draws its order. (Printed by gencon.py.) -/
import Derived.Test.YtpifbaiibhaklaaGreatDoorL2
import Derived.Test.YtpifbaiibhaklaaGreatDoorL4
import Derived.Test.YtpifbaiibhaklaaGreatDoorL5
import Derived.Deep.RegionLaw
import Derived.Test.YtpifbaiibhaklaaGreatDoorL0
import Derived.Test.YtpifbaiibhaklaaGreatDoorProg
import Derived.WalkKit
import Derived.WalkSpells
import Derived.WalkLawsBesides
import Derived.Deep.QuietTactic
import Derived.BigQuiet
import Derived.Lib.Hide
import Derived.Deep.LoopGhost
import Derived.Deep.OwnRows
import Derived.Orders
import Derived.RegionTactic
namespace Go.Proofs.YtpifbaiibhaklaaGreatDoor
open Go.RowKit Big Go.ChangeMaps
set_option maxHeartbeats 4000000
set_option linter.unusedVariables false
set_option linter.unusedSimpArgs false

set_option maxRecDepth 100000 in
theorem sum_any (base : Nat) (b : Nat) (cst : Int) (l : List Fac) (w : World) (hB : base ≤ w.heap.size) (hg : Good w) (hl : IsFac base w b l) (h1 : -9223372036854775808 ≤ cst) (h2 : cst ≤ 9223372036854775807) :
    Calls Tryz.prog 39 #[.int .i64 cst, .map (some b)] w (RetForm ⟨cst, termsTo l 48⟩ w) := by
  have H1 := Lib.hid (fun W (hW : Below w.heap.size w W) => rFrom_any base cst W (Nat.le_trans hB hW.size) h1 h2)
  have HN := Lib.hid (fun W (hW : Below w.heap.size w W) (m : MR) (q : Rat) (hq : IsRat base W m q) (hl : limR q ≤ 1073741824) (hd : q.den = 1) => rNumber_w base m q W (Nat.le_trans hB hW.size) (hg.below hW) hq hl hd)
  have hlim : limR (cst : Rat) ≤ 1073741824 := by
    unfold limR
    rw [Rat.num_intCast, Rat.den_intCast]
    have h9 : lim ((1 : Nat) : Int) = 1 := lim_one
    have := lim_small (z := cst) (by omega)
    omega
  have HL := Lib.hid hl
  have hblt := hl.lt
  clear hl
  go_enter Tryz.func39, Tryz.ntmps39
  go_wp2_with fail
  refine (H1.out _ (by repeat (first | exact Below.refl _ _ | with_reducible assumption | apply below_alloc | apply below_drewN | apply below_drew | refine below_set ?_ (by simp; try omega) _ | refine below_then ?_ (by with_reducible assumption)))).mono ?_
  rintro e w1 ⟨m1, rfl, hq1, hb⟩
  have r0 := keptc hb (w.heap.size) 0 (.string ⟨#[]⟩) (by first | with_reducible assumption | (simp [go_sem]; done)); have r1 := keptc hb (w.heap.size) 1 (.slice none 0 0) (by first | with_reducible assumption | (simp [go_sem]; done)); have fr0 := keptF hb (g := w.heap.size) (o := 0) (v := .string ⟨#[]⟩) (by first | with_reducible assumption | (simp [go_sem]; done)) (by first | with_reducible assumption | (simp [go_sem]; done)); have fr1 := keptF hb (g := w.heap.size) (o := 1) (v := .slice none 0 0) (by first | with_reducible assumption | (simp [go_sem]; done)) (by first | with_reducible assumption | (simp [go_sem]; done)); have Tr := Lib.hid (keptT hb (g := w.heap.size) (o := 0) (v := .string ⟨#[]⟩) (by first | with_reducible assumption | (simp [go_sem]; done)) (e := 51) (by first | with_reducible assumption | exact Hid.out (by with_reducible assumption) | (simp [typ_alloc, typ_drewN, typ_drew, otyp_cells]; done)))
  have B1 := Lib.hid (below_then (w := w) (by repeat (first | exact Below.refl _ _ | with_reducible assumption | apply below_alloc | apply below_drewN | apply below_drew | refine below_set ?_ (by simp; try omega) _ | refine below_then ?_ (by with_reducible assumption))) hb)
  clear hb
  go_wp2_with fail
  refine (HN.out _ B1.out m1 _ hq1 hlim (Rat.den_intCast _)).mono ?_
  rintro e w2 ⟨s, rfl, hs, hb⟩
  rw [Rat.num_intCast] at hs
  obtain rfl := bs_of hs
  have r0 := keptc hb (w.heap.size) 0 (.string ⟨#[]⟩) (by first | with_reducible assumption | (simp [go_sem]; done)); have r1 := keptc hb (w.heap.size) 1 (.slice none 0 0) (by first | with_reducible assumption | (simp [go_sem]; done)); have fr0 := keptF hb (g := w.heap.size) (o := 0) (v := .string ⟨#[]⟩) (by first | with_reducible assumption | (simp [go_sem]; done)) (by first | with_reducible assumption | (simp [go_sem]; done)); have fr1 := keptF hb (g := w.heap.size) (o := 1) (v := .slice none 0 0) (by first | with_reducible assumption | (simp [go_sem]; done)) (by first | with_reducible assumption | (simp [go_sem]; done))
  have Tr2 := Lib.hid (keptT hb (g := w.heap.size) (o := 0) (v := .string ⟨#[]⟩) (by with_reducible assumption) Tr.out)
  have B2 := Lib.hid (below_then B1.out hb)
  clear hb hq1
  obtain ⟨W5, e5⟩ : ∃ W5 : World, W5 = w2.alloc (.cells #[.string (bs (Lib.itoa cst)), .slice none 0 0] 51) := ⟨_, rfl⟩
  go_wp2_with fail
  rw [← e5]
  have hrw : w.heap.size < w2.heap.size := World.block_lt_of_cell? w2 _ r0
  go_loopw [13] (fun q wr => ∃ (i : Nat) (v : Value), i ≤ 48 ∧ q = .int .i64 (i : Int) ∧ wr.cell? ⟨w2.heap.size, 1, none⟩ = some v ∧ wr.cell? ⟨w2.heap.size, 0, none⟩ = some (.string (bs (Lib.itoa cst))) ∧ wr.frozen? ⟨w2.heap.size, 1, none⟩ = false ∧ Hid (typ wr w2.heap.size = some 51) ∧
      Hid (wr.ownsRow (w2.heap.size + 1) 100 2 v (termsTo l i).length (flat encT (termsTo l i))) ∧ Below w2.heap.size w2 wr) (fun q _ => 48 - (intOf q).toNat)
  case atStart => exact ⟨0, .slice none 0 0, by omega, rfl, by rw [e5]; simp [go_sem], by rw [e5]; simp [go_sem], by rw [e5]; simp [go_sem], by rw [e5]; exact Lib.hid (by simp [typ_alloc, otyp_cells]), Lib.hid (own_nil _ _ _ _), by rw [e5]; exact below_alloc (Below.refl _ _)⟩
  case round =>
    obtain ⟨i, v, hi, rfl, p1, p0, pf, pT, hown, hb⟩ := hrel
    obtain ⟨A', c', rfl, hc'⟩ := own_slice hown.out
    have hcnt := termsTo_len l i
    have HLr := HL.out.below (below_then B2.out hb)
    have hgs : w2.heap.size < wr.heap.size := World.block_lt_of_cell? wr _ p0
    have hgs' : ¬ w2.heap.size = wr.heap.size := by omega
    by_cases hlt : i < 48
    · have hts : Hid (termsTo l (i + 1) = termsTo l i ++ (match fget l i with | some f => if f.q.num ≠ 0 then [(i, f.q.num)] else [] | none => [])) := Lib.hid rfl
      have hrun := HLr.look i
      cases hf : fget l i with
      | none =>
        rw [hf] at hrun hts
        simp only [Option.map_none, Option.getD_none, Option.isSome_none, ratV, zMR] at hrun
        clear e5
        go_wp2_with fail
        go_roundw
        case rel => exact ⟨i + 1, _, by omega, by go_num, cell_below (below_alloc (Below.refl _ _)) p1, cell_below (below_alloc (Below.refl _ _)) p0, (Below.frozen (below_alloc (Below.refl _ _)) (p := ⟨w2.heap.size, 1, none⟩) hgs).trans pf, Lib.hid ((typ_below (below_alloc (Below.refl _ _)) hgs).trans pT.out), Lib.hid (own_cast (own_below hown.out (below_alloc (Below.refl _ _))) (by rw [hts.out]; simp) (by rw [hts.out]; simp)), below_alloc hb⟩
        case measure => simp [intOf]; omega
      | some f =>
        rw [hf] at hrun hts
        simp only [Option.map_some, Option.getD_some, Option.isSome_some, ratV] at hrun
        obtain ⟨hq, hden, hlm⟩ := HLr.2 f (List.mem_of_find?_eq_some hf)
        have HS := Lib.hid (fun W (hW : Below wr.heap.size wr W) => rSign_any base f.m f.q W (hq.below hW) (by omega))
        have HN1 := Lib.hid (fun W (hW : Below wr.heap.size wr W) => HN.out W (below_then (below_then B2.out hb) hW) f.m f.q (hq.below hW) (by omega) hden)
        clear e5 HLr hq
        generalize hsg : sgnI f.q.num = sg at HS
        go_wp2_with fail
        refine (HS.out _ (below_alloc (Below.refl _ _))).mono ?_
        rintro e w6 ⟨rfl, hb6⟩
        have t0 := keptc hb6 (wr.heap.size) 0 (.bool f.m.a.p) (by first | with_reducible assumption | (simp [go_sem]; done)); have t1 := keptc hb6 (wr.heap.size) 1 (.slice f.m.a.A f.m.a.n f.m.a.c) (by first | with_reducible assumption | (simp [go_sem]; done)); have t2 := keptc hb6 (wr.heap.size) 2 (.bool f.m.b.p) (by first | with_reducible assumption | (simp [go_sem]; done)); have t3 := keptc hb6 (wr.heap.size) 3 (.slice f.m.b.A f.m.b.n f.m.b.c) (by first | with_reducible assumption | (simp [go_sem]; done)); have ft0 := keptF hb6 (g := wr.heap.size) (o := 0) (v := .bool f.m.a.p) (by first | with_reducible assumption | (simp [go_sem]; done)) (by first | with_reducible assumption | (simp [go_sem]; done)); have ft1 := keptF hb6 (g := wr.heap.size) (o := 1) (v := .slice f.m.a.A f.m.a.n f.m.a.c) (by first | with_reducible assumption | (simp [go_sem]; done)) (by first | with_reducible assumption | (simp [go_sem]; done)); have ft2 := keptF hb6 (g := wr.heap.size) (o := 2) (v := .bool f.m.b.p) (by first | with_reducible assumption | (simp [go_sem]; done)) (by first | with_reducible assumption | (simp [go_sem]; done)); have ft3 := keptF hb6 (g := wr.heap.size) (o := 3) (v := .slice f.m.b.A f.m.b.n f.m.b.c) (by first | with_reducible assumption | (simp [go_sem]; done)) (by first | with_reducible assumption | (simp [go_sem]; done))
        have B6 := below_then (w := wr) (by repeat (first | exact Below.refl _ _ | apply below_alloc | apply below_drewN | apply below_drew)) hb6
        have p0 := cell_below B6 p0
        have p1 := cell_below B6 p1
        have pf := (B6.frozen (p := ⟨w2.heap.size, 1, none⟩) hgs).trans pf
        have pT := Lib.hid ((typ_below B6 hgs).trans pT.out)
        have O6 := Lib.hid (own_below hown.out B6)
        have B := Lib.hid (below_then hb B6)
        have hk5 := fun k hk => And.intro (own_base hown.out k hk) (own_lt hown.out k hk)
        have HN2 := Lib.hid (fun W (hW : Below w6.heap.size w6 W) => HN1.out W (below_then B6 hW))
        clear hb6 hown hb HS HN1 HN B6 hrun
        by_cases hz : f.q.num = 0
        · obtain rfl : sg = 0 := by rw [← hsg, hz]; rfl
          go_wp2_with fail
          go_roundw
          case rel => exact ⟨i + 1, _, by omega, by go_num, p1, p0, pf, pT, Lib.hid (own_cast O6.out (by rw [hts.out]; simp [hz]) (by rw [hts.out]; simp [hz])), B.out⟩
          case measure => simp [intOf]; omega
        · have hsd : (sg != 0) = true := by
            rw [← hsg]
            unfold sgnI
            by_cases hn : f.q.num < 0
            · rw [if_pos hn]; rfl
            · rw [if_neg hn, if_neg hz]; rfl
          go_wp2_with fail
          go_region_law (first
            | (go_simp; go_at_call 65; refine (HN2.out _ (by repeat (first | exact Below.refl _ _ | apply below_alloc | apply below_drewN | apply below_drew))).mono ?_; rintro e w7 ⟨s7, rfl, hs7, hb7⟩; obtain rfl := bs_of hs7; have B67 := below_then (w := w6) (by repeat (first | exact Below.refl _ _ | apply below_alloc | apply below_drewN | apply below_drew)) hb7; have pf := (B67.frozen (p := ⟨w2.heap.size, 1, none⟩) (World.block_lt_of_cell? _ _ p1)).trans pf; have pT := Lib.hid ((typ_below B67 (World.block_lt_of_cell? _ _ p1)).trans pT.out); have p0 := cell_below B67 p0; have p1 := cell_below B67 p1; have t0 := cell_below B67 t0; have t1 := cell_below B67 t1; have t2 := cell_below B67 t2; have t3 := cell_below B67 t3; have O7 := Lib.hid (own_below O6.out B67); have B7 := Lib.hid (below_then (w := w2) B.out B67); have hB7 : w2.heap.size + 1 ≤ w7.heap.size := World.block_lt_of_cell? _ _ p1; have hne7 : ¬ w2.heap.size = w7.heap.size := (by omega); have hlt7 : w2.heap.size < w7.heap.size := hB7; clear hb7 B67)
            | (refine step_append_cells (w2.heap.size + 1) rfl (.tmp 29) (.tmp 34) 49 100 (.agg #[.int .i64 0, .string ByteArray.empty]) 2 24 rfl Tryz.underlying49 info_term rfl (by decide) (by decide) (.slice A' (termsTo l i).length c') (termsTo l i).length (flat encT (termsTo l i)) [.int .i64 (i : Int), .string (bs (Lib.itoa f.q.num))] rfl rfl rfl (by simp [Value.oneCell']) O7.out hB7 (by omega) ?_; intro v8 w8 hown8 hgr8; obtain ⟨A8, c8, rfl, hc8⟩ := own_slice hown8; have pf := (hgr8.frozen_far ⟨w2.heap.size, 1, none⟩ (World.block_lt_of_cell? _ _ p1) (fun e => Nat.not_succ_le_self _ (hk5 _ e.symm).1)).trans pf; have pT := Lib.hid (show typ w8 w2.heap.size = some 51 from by rw [← pT.out]; unfold typ; rw [hgr8.block _ (World.block_lt_of_cell? _ _ p1) (fun e => Nat.not_succ_le_self _ (hk5 _ e.symm).1)]); have p0 := grown_cell hgr8 p0 (fun k hk => by have := hk5 k hk; show k ≠ w2.heap.size; omega); have p1 := grown_cell hgr8 p1 (fun k hk => by have := hk5 k hk; show k ≠ w2.heap.size; omega); have B8 := Lib.hid (below_grownB B7.out B7.out.size hgr8 (fun k hk => by have := hk5 k hk; omega)); have O8 := Lib.hid hown8; clear hown8 hgr8))
          all_goals
            go_wp2_with fail
            go_roundw
            case rel => exact ⟨i + 1, _, by omega, by go_num, World.cell?_setCell_same _ _ _ p1, (World.cell?_setCell_other _ _ _ _ (by simp)).trans p0, (World.frozen?_setCell _ _ _ _).trans pf, Lib.hid ((typ_set _ _ _ _).trans pT.out), Lib.hid (own_cast (own_set O8.out (fun e => Nat.not_succ_le_self _ (own_base O8.out _ e.symm)) _) (by rw [hts.out]; simp [hz]) (by rw [hts.out, if_pos hz, flat_app]; rfl)), below_set B8.out (by simp) _⟩
            case measure => simp [intOf]; omega
    · obtain rfl : i = 48 := by omega
      have r0 := cell_below hb r0
      have r1 := cell_below hb r1
      have fr0 := (hb.frozen (p := ⟨w.heap.size, 0, none⟩) hrw).trans fr0
      have fr1 := (hb.frozen (p := ⟨w.heap.size, 1, none⟩) hrw).trans fr1
      clear e5
      go_wp2_with fail
      have O9 := own_set (own_set hown.out (p := ⟨w.heap.size, 0, none⟩) (fun e => by have := own_base hown.out _ e.symm; simp at this; omega) (.string (bs (Lib.itoa cst)))) (p := ⟨w.heap.size, 1, none⟩) (fun e => by have := own_base hown.out _ e.symm; simp at this; omega) (.slice A' (termsTo l 48).length c')
      refine bodyPost_ret (v := .agg #[.string (bs (Lib.itoa cst)), .slice A' (termsTo l 48).length c']) (by simp [results, Tryz.results39, go_sem, r0, r1]) rfl ⟨A', _, c', rfl, ⟨rfl, hc', Reads.of_own O9⟩, below_set (below_set (below_then B2.out hb) (by simp) _) (by simp) _⟩
end Go.Proofs.YtpifbaiibhaklaaGreatDoor
namespace Go.Proofs.YtpifbaiibhaklaaGreatDoor
open Go.RowKit Big
set_option maxHeartbeats 400000
set_option linter.unusedVariables false
set_option linter.unusedSimpArgs false

section
variable {P : Program} {md : Region.Mode} {ops : Array Oper} {Q : Exit → Act → World → Prop}
theorem mem_ready {l : Array Bool} {i : Nat} : i ∈ Region.ready md ops l ↔ i < ops.size ∧ l.getD i true = false ∧ ((ops[i]?).map (·.after.all fun e => !Region.binds md e || l.getD e.on false)).getD false = true := by
  unfold Region.ready
  simp only [List.mem_filter, List.mem_range, Bool.and_eq_true, Bool.not_eq_true']
theorem count_set {l : Array Bool} {i : Nat} (h : l.getD i true = false) : (l.setIfInBounds i true).toList.count false + 1 = l.toList.count false := by
  obtain ⟨l⟩ := l
  have hlt : i < l.length := by
    rcases Nat.lt_or_ge i l.length with h' | h'
    · exact h'
    · simp [Array.getD, h'] at h
      obtain ⟨hh, _⟩ := h
      exact hh
  have hi : l[i] = false := by simpa [Array.getD, hlt] using h
  simp only [List.setIfInBounds_toArray]
  clear h
  induction l generalizing i with
  | nil => simp at hlt
  | cons x t ih =>
    cases i with
    | zero =>
      simp at hi
      subst hi
      simp
    | succ i =>
      have := ih (i := i) (by simpa using hlt) (by simpa using hi)
      simp only [List.set_cons_succ, List.count_cons] at this ⊢
      omega
theorem getD_set_ne {l : Array Bool} {i k : Nat} {d : Bool} (h : i ≠ k) : (l.setIfInBounds i true).getD k d = l.getD k d := by
  simp [Array.getD_eq_getD_getElem?, Array.getElem?_setIfInBounds, h]
theorem getD_set_self {l : Array Bool} {i : Nat} {d : Bool} (h : i < l.size) : (l.setIfInBounds i true).getD i d = true := by
  simp [Array.getD_eq_getD_getElem?, Array.getElem?_setIfInBounds, h]
theorem wpAny_inv (I : Array Bool → Act → World → Prop)
    (hend : ∀ l a w, I l a w → Region.ready md ops l = [] → Q .normal a w)
    (hstep : ∀ l a w, I l a w → ∀ i, i < ops.size → l.getD i true = false → ((ops[i]?).map (·.after.all fun e => !Region.binds md e || l.getD e.on false)).getD false = true → wpOp P ops Q i (I (l.setIfInBounds i true)) a w) :
    ∀ (f : Nat) (l : Array Bool) (a : Act) (w : World), l.toList.count false ≤ f → I l a w → wpAny P md ops Q f l a w := by
  intro f
  induction f with
  | zero =>
    intro l a w hf hI
    have hr : Region.ready md ops l = [] := by
      rw [List.eq_nil_iff_forall_not_mem]
      intro i hi
      have := count_set (mem_ready.1 hi).2.1
      omega
    exact ⟨hr, hend l a w hI hr⟩
  | succ f ih =>
    intro l a w hf hI
    refine ⟨hend l a w hI, fun i hi => ?_⟩
    obtain ⟨h1, h2, h3⟩ := mem_ready.1 hi
    have := count_set h2
    exact wpOp_mono (fun a' w' h' => ih _ a' w' (by omega) h') (hstep l a w hI i h1 h2 h3)
/-- Where every operation waits for earlier ones alone: if none may come up, all have. -/
theorem all_done {l : Array Bool} (hord : ∀ i, i < ops.size → ((ops[i]?).map (·.after.all fun e => decide (e.on < i))).getD false = true) (hr : Region.ready md ops l = []) : ∀ i, i < ops.size → l.size = ops.size → l.getD i false = true := by
  intro i
  induction i using Nat.strongRecOn with
  | ind i ih =>
    intro hi hs
    have hn : ¬ i ∈ Region.ready md ops l := by rw [hr]; simp
    rw [mem_ready] at hn
    cases h : l.getD i false with
    | true => rfl
    | false =>
      exfalso
      refine hn ⟨hi, ?_, ?_⟩
      · have hlt : i < l.size := by omega
        simp [Array.getD, hlt] at h ⊢
        exact h
      · have h1 := hord i hi
        cases ho : ops[i]? with
        | none => rw [ho] at h1; simp at h1
        | some o =>
          rw [ho] at h1
          simp only [Option.map_some, Option.getD_some, Array.all_eq_true'] at h1 ⊢
          intro e he
          have := h1 e he
          simp only [decide_eq_true_eq] at this
          rw [ih e.on this (by omega) hs]
          simp
end
/-- The operations of a region, by its number. -/
def opsOf (id : Nat) : Code → List Oper
  | .region k ops _ => if k = id then ops.toList else []
  | .seq a b => opsOf id a ++ opsOf id b
  | .cond _ a b => opsOf id a ++ opsOf id b
  | .block _ c => opsOf id c
  | .loop c => opsOf id c
  | .scope c => opsOf id c
  | _ => []
end Go.Proofs.YtpifbaiibhaklaaGreatDoor
namespace Go.Proofs.YtpifbaiibhaklaaGreatDoor
open Go.RowKit Big Go.ChangeMaps
set_option maxHeartbeats 400000
set_option linter.unusedVariables false
set_option linter.unusedSimpArgs false

/-- The terms of a form, by the numerators of its factors. -/
def tm (g : Nat → Int) : Nat → List (Nat × Int)
  | 0 => []
  | i + 1 => tm g i ++ (if g i ≠ 0 then [(i, g i)] else [])
def numAt (l : List Fac) (i : Nat) : Int := ((fget l i).map (·.q.num)).getD 0
theorem termsTo_tm (l : List Fac) (k : Nat) : termsTo l k = tm (numAt l) k := by
  induction k with
  | zero => rfl
  | succ k ih =>
    unfold termsTo tm numAt
    rw [ih]
    congr 1
    cases h : fget l k with
    | none => simp
    | some f => simp
/-- Two factors. -/
def two (p : Int) (x : Int) (q : Int) (y : Int) (i : Nat) : Int := if (i : Int) = p then x else if (i : Int) = q then y else 0
theorem numAt_two (f g : Fac) (h : f.key ≠ g.key) : numAt [f, g] = two f.key f.q.num g.key g.q.num := by
  funext i
  unfold numAt two fget
  by_cases h1 : f.key = i
  · have : (f.key == (i : Int)) = true := by simpa using h1
    simp [List.find?, this, h1]
  · have e1 : (f.key == (i : Int)) = false := by simpa using h1
    by_cases h2 : g.key = i
    · have e2 : (g.key == (i : Int)) = true := by simpa using h2
      have h3 : ¬ (i : Int) = f.key := fun e => h1 e.symm
      simp [List.find?, e1, e2, h2, h3]
    · have e2 : (g.key == (i : Int)) = false := by simpa using h2
      have h3 : ¬ (i : Int) = f.key := fun e => h1 e.symm
      have h4 : ¬ (i : Int) = g.key := fun e => h2 e.symm
      simp [List.find?, e1, e2, h3, h4]
theorem two_comm (p x q y : Int) (h : p ≠ q) : two p x q y = two q y p x := by
  funext i
  unfold two
  by_cases h1 : (i : Int) = p
  · by_cases h2 : (i : Int) = q
    · omega
    · rw [if_pos h1, if_neg h2, if_pos h1]
  · by_cases h2 : (i : Int) = q
    · rw [if_neg h1, if_pos h2, if_pos h2]
    · rw [if_neg h1, if_neg h2, if_neg h2, if_neg h1]
structure Con where
  name : ByteArray
  form : Frm
/-- A constraint as it lies: its terms elsewhere. -/
structure CRow where
  name : ByteArray
  cst : Int
  A : Option Addr
  n : Nat
  c : Nat
def encC (r : CRow) : List Value := [.string r.name, .string (bs (Lib.itoa r.cst)), .slice r.A r.n r.c]
theorem encC_len (r : CRow) : (encC r).length = 3 := rfl
theorem info_con : (Tryz.prog.info? 53).map (fun i => (i.zero, i.size, i.bytes)) = some (some (.agg #[.string ByteArray.empty, .string ByteArray.empty, .slice none 0 0]), 3, 56) := by kernel_rfl
def RowsOk (w : World) : List CRow → List Con → Prop
  | [], [] => True
  | r :: rs, c :: cs => r.name = c.name ∧ r.cst = c.form.cst ∧ IsRow encT 2 0 100 w r.A r.n r.c c.form.terms ∧ RowsOk w rs cs
  | _, _ => False
theorem RowsOk.keeps {w w' : World} (hk : Keeps 0 100 w w') : ∀ {rs : List CRow} {cs : List Con}, RowsOk w rs cs → RowsOk w' rs cs
  | [], [], _ => trivial
  | _ :: _, _ :: _, h => ⟨h.1, h.2.1, h.2.2.1.keeps hk, RowsOk.keeps hk h.2.2.2⟩
  | [], _ :: _, h => h.elim
  | _ :: _, [], h => h.elim
theorem RowsOk.app {w : World} : ∀ {rs : List CRow} {cs : List Con} {rs' : List CRow} {cs' : List Con}, RowsOk w rs cs → RowsOk w rs' cs' → RowsOk w (rs ++ rs') (cs ++ cs')
  | [], [], _, _, _, h' => h'
  | _ :: _, _ :: _, _, _, h, h' => ⟨h.1, h.2.1, h.2.2.1, RowsOk.app h.2.2.2 h'⟩
  | [], _ :: _, _, _, h, _ => h.elim
  | _ :: _, [], _, _, h, _ => h.elim
theorem RowsOk.len {w : World} : ∀ {rs : List CRow} {cs : List Con}, RowsOk w rs cs → rs.length = cs.length
  | [], [], _ => rfl
  | _ :: _, _ :: _, h => by simp [RowsOk.len h.2.2.2]
  | [], _ :: _, h => h.elim
  | _ :: _, [], h => h.elim
theorem Reads.base {base base' : Nat} {e : TypeId} {w : World} {A : Option Addr} {xs : List Value} (h : Reads base e w A xs) (hb : base ≤ base') : Reads base' e w A xs := by
  rcases h with h | ⟨ad, ea, ht, hc⟩
  · exact .inl h
  · exact .inr ⟨ad, ea, ht.imp_left (fun h => Nat.lt_of_lt_of_le h hb), hc⟩
/-- What the bonus zones ask. -/
def consAt (s : Sch) (z : Zon) : List Con :=
  if z.bonus = true then
    let f := s.fs.getD z.feature.toNat fd
    let least := f.wide + ((zoneOf s.zs z.feature 2).getD zd).lower
    let p := indexOf s z.feature 1
    let q := indexOf s z.feature 2
    [⟨f.name ++ ⟨#[46, 97, 98, 111, 118, 101]⟩, ⟨least - f.at_ - z.upper, tm (two p 1 q (-1)) 48⟩⟩,
     ⟨f.name ++ ⟨#[46, 98, 101, 108, 111, 119]⟩, ⟨least + f.at_ + z.lower, tm (two p (-1) q (-1)) 48⟩⟩]
  else []
def consTo (s : Sch) : Nat → List Con
  | 0 => []
  | i + 1 => consTo s i ++ consAt s (s.zs.getD i zd)
def consOf (s : Sch) : List Con := consTo s s.zs.length
end Go.Proofs.YtpifbaiibhaklaaGreatDoor
namespace Go.Proofs.YtpifbaiibhaklaaGreatDoor
open Go.RowKit Big Go.ChangeMaps
set_option maxHeartbeats 4000000
set_option linter.unusedVariables false
set_option linter.unusedSimpArgs false

/-- What the statement finds. -/
structure Par where
  v5 : Value
  n : Nat
  xs : List Value
  ob : Nat
  g7 : Nat
  g8 : Nat
  g14 : Nat
  g15 : Nat
  name : ByteArray
  at_ : Int
  lo : Int
  up : Int
  least : Int
  p : Int
  wi : Int
  m1 : MR
  m2 : MR
/-- What it makes. -/
structure Env where
  b1 : Nat
  b2 : Nat
  A1 : Option Addr
  n1 : Nat
  c1 : Nat
  A2 : Option Addr
  n2 : Nat
  c2 : Nat
  g : Nat
  v : Value
def val (q : Par) (E : Env) : Nat → Value
  | 0 => q.v5
  | 1 => .pointer (some ⟨q.g8, 0, none⟩)
  | 2 => .string q.name
  | 3 => .string (q.name ++ ⟨#[46, 97, 98, 111, 118, 101]⟩)
  | 4 => .int .i64 (q.least)
  | 5 => .pointer (some ⟨q.g8, 4, none⟩)
  | 6 => .int .i64 (q.at_)
  | 7 => .int .i64 (q.least - q.at_)
  | 8 => .pointer (some ⟨q.g7, 3, none⟩)
  | 9 => .int .i64 (q.up)
  | 10 => .int .i64 (q.least - q.at_ - q.up)
  | 11 => .map (some E.b1)
  | 12 => .int .i64 (q.p)
  | 13 => .agg #[.bool q.m1.a.p, .slice q.m1.a.A q.m1.a.n q.m1.a.c, .bool q.m1.b.p, .slice q.m1.b.A q.m1.b.n q.m1.b.c]
  | 15 => .int .i64 (q.wi)
  | 16 => .agg #[.bool q.m2.a.p, .slice q.m2.a.A q.m2.a.n q.m2.a.c, .bool q.m2.b.p, .slice q.m2.b.A q.m2.b.n q.m2.b.c]
  | 18 => .map (some E.b1)
  | 19 => .agg #[.string (bs (Lib.itoa (q.least - q.at_ - q.up))), .slice E.A1 E.n1 E.c1]
  | 20 => .agg #[.string (q.name ++ ⟨#[46, 97, 98, 111, 118, 101]⟩), .string (bs (Lib.itoa (q.least - q.at_ - q.up))), .slice E.A1 E.n1 E.c1]
  | 21 => .pointer (some ⟨q.g8, 0, none⟩)
  | 22 => .string q.name
  | 23 => .string (q.name ++ ⟨#[46, 98, 101, 108, 111, 119]⟩)
  | 24 => .int .i64 (q.least)
  | 25 => .pointer (some ⟨q.g8, 4, none⟩)
  | 26 => .int .i64 (q.at_)
  | 27 => .int .i64 (q.least + q.at_)
  | 28 => .pointer (some ⟨q.g7, 2, none⟩)
  | 29 => .int .i64 (q.lo)
  | 30 => .int .i64 (q.least + q.at_ + q.lo)
  | 31 => .map (some E.b2)
  | 32 => .int .i64 (q.p)
  | 33 => .agg #[.bool q.m2.a.p, .slice q.m2.a.A q.m2.a.n q.m2.a.c, .bool q.m2.b.p, .slice q.m2.b.A q.m2.b.n q.m2.b.c]
  | 35 => .int .i64 (q.wi)
  | 36 => .agg #[.bool q.m2.a.p, .slice q.m2.a.A q.m2.a.n q.m2.a.c, .bool q.m2.b.p, .slice q.m2.b.A q.m2.b.n q.m2.b.c]
  | 38 => .map (some E.b2)
  | 39 => .agg #[.string (bs (Lib.itoa (q.least + q.at_ + q.lo))), .slice E.A2 E.n2 E.c2]
  | 40 => .agg #[.string (q.name ++ ⟨#[46, 98, 101, 108, 111, 119]⟩), .string (bs (Lib.itoa (q.least + q.at_ + q.lo))), .slice E.A2 E.n2 E.c2]
  | 41 => .slice (some ⟨E.g, 0, none⟩) 2 2
  | 42 => E.v
  | 43 => E.v
  | _ => undef
def frame (q : Par) (x y : Nat → Value) : Act := ⟨#[x 0, x 1, x 2, x 3, x 4, y 43, x 6, .pointer (some ⟨q.g7, 0, none⟩), .pointer (some ⟨q.g8, 0, none⟩), x 9, x 10, .int .i64 (q.p), .int .i64 (q.wi), .int .i64 (q.least), .pointer (some ⟨q.g14, 0, none⟩), .pointer (some ⟨q.g15, 0, none⟩), x 16, x 17, x 18, x 19, x 20, x 21, x 22, x 23, x 24, x 25, x 26, x 27, x 28, x 29, x 30, x 31, x 32, x 33, x 34, x 35, x 36, x 37, x 38, x 39, x 40, x 41, x 42, x 43, x 44, x 45, x 46, x 47, x 48, x 49, x 50, x 51, x 52, x 53, x 54, x 55, x 56, x 57, x 58, y 0, y 1, y 2, y 3, y 4, y 5, y 6, y 7, y 8, y 9, y 10, y 11, y 12, y 13, y 15, y 16, y 18, y 19, y 20, y 21, y 22, y 23, y 24, y 25, y 26, y 27, y 28, y 29, y 30, y 31, y 32, y 33, y 35, y 36, y 38, y 39, y 40, y 41, y 42, x 98, x 99], []⟩
def upd (y : Nat → Value) (i : Nat) (v : Value) : Nat → Value := fun j => if j = i then v else y j
def MapIs (w : World) (b : Nat) (lf : List Fac) : Prop := ∃ es c, w.heap[b]? = some (.map es c) ∧ es.toList.map (fun x => (x.key, x.val)) = lf.map (fun f => (Value.int .i64 f.key, ratV f.m))
def LOK (d e : Bool) (f g : Fac) (lf : List Fac) : Prop := (d = false → e = false → lf = []) ∧ (d = true → e = false → lf = [f]) ∧ (d = false → e = true → lf = [g]) ∧ (d = true → e = true → lf = [f, g] ∨ lf = [g, f])
def six (q : Par) (E : Env) : List Value := [.string (q.name ++ ⟨#[46, 97, 98, 111, 118, 101]⟩), .string (bs (Lib.itoa (q.least - q.at_ - q.up))), .slice E.A1 E.n1 E.c1, .string (q.name ++ ⟨#[46, 98, 101, 108, 111, 119]⟩), .string (bs (Lib.itoa (q.least + q.at_ + q.lo))), .slice E.A2 E.n2 E.c2]
structure Fin9 (q : Par) (w0 : World) (E : Env) (w : World) : Prop where
  own : w.ownsRow q.ob 53 3 E.v (q.n + 2) (q.xs ++ six q E)
  grown : w0.grownBy w q.v5.ownBlock
  r1 : IsRow encT 2 0 100 w E.A1 E.n1 E.c1 (tm (two q.p 1 q.wi (-1)) 48)
  r2 : IsRow encT 2 0 100 w E.A2 E.n2 E.c2 (tm (two q.p (-1) q.wi (-1)) 48)
structure Wd (q : Par) (w0 : World) (l : Array Bool) (E : Env) (w : World) : Prop where
  gr : w0.grownBy w q.v5.ownBlock
  low : l.getD 42 false = false → Below w0.heap.size w0 w
  m1 : l.getD 42 false = false → l.getD 11 false = true → w0.heap.size ≤ E.b1 ∧ ∃ lf, MapIs w E.b1 lf ∧ LOK (l.getD 14 false) (l.getD 17 false) ⟨q.p, q.m1, 1⟩ ⟨q.wi, q.m2, -1⟩ lf
  m2 : l.getD 42 false = false → l.getD 31 false = true → w0.heap.size ≤ E.b2 ∧ ∃ lf, MapIs w E.b2 lf ∧ LOK (l.getD 34 false) (l.getD 37 false) ⟨q.p, q.m2, -1⟩ ⟨q.wi, q.m2, -1⟩ lf
  ne : l.getD 42 false = false → l.getD 11 false = true → l.getD 31 false = true → E.b1 ≠ E.b2
  f1 : l.getD 42 false = false → l.getD 19 false = true → IsRow encT 2 0 100 w E.A1 E.n1 E.c1 (tm (two q.p 1 q.wi (-1)) 48)
  f2 : l.getD 42 false = false → l.getD 39 false = true → IsRow encT 2 0 100 w E.A2 E.n2 E.c2 (tm (two q.p (-1) q.wi (-1)) 48)
  g : l.getD 42 false = false → l.getD 41 false = true → w.heap[E.g]? = some (.cells (six q E).toArray 53 (0, 0))
  fin : l.getD 42 false = true → Fin9 q w0 E w
theorem MapIs.lt {w : World} {b : Nat} {lf : List Fac} (h : MapIs w b lf) : b < w.heap.size := by
  obtain ⟨es, c, h, _⟩ := h
  exact (Array.getElem?_eq_some_iff.1 h).1
theorem MapIs.below {w w' : World} {b : Nat} {lf : List Fac} (h : MapIs w b lf) (hb : Below w.heap.size w w') : MapIs w' b lf := by
  have := h.lt
  obtain ⟨es, c, h1, h2⟩ := h
  exact ⟨es, c, (hb.block b this).trans h1, h2⟩
/-- Memory has only grown. -/
theorem Wd.below {q : Par} {w0 w w' : World} {l : Array Bool} {E : Env} (h : Wd q w0 l E w) (h42 : l.getD 42 false = false) (hb : Below w.heap.size w w') : Wd q w0 l E w' where
  gr := World.grownBy.trans h.gr (grown_of_below hb _)
  low := fun e => below_then (h.low e) hb
  m1 := fun e e1 => by obtain ⟨h1, lf, h2, h3⟩ := h.m1 e e1; exact ⟨h1, lf, h2.below hb, h3⟩
  m2 := fun e e1 => by obtain ⟨h1, lf, h2, h3⟩ := h.m2 e e1; exact ⟨h1, lf, h2.below hb, h3⟩
  ne := h.ne
  f1 := fun e e1 => (h.f1 e e1).below hb
  f2 := fun e e1 => (h.f2 e e1).below hb
  g := fun e e1 => (hb.block _ (Array.getElem?_eq_some_iff.1 (h.g e e1)).1).trans (h.g e e1)
  fin := fun e => by rw [h42] at e; exact absurd e (by decide)
/-- Another operation is done. -/
theorem Wd.other {q : Par} {w0 w : World} {l : Array Bool} {E : Env} (h : Wd q w0 l E w) (i : Nat) (hi : i ∉ [11, 14, 17, 19, 31, 34, 37, 39, 41, 42]) : Wd q w0 (l.setIfInBounds i true) E w := by
  simp only [List.mem_cons, List.not_mem_nil, or_false, not_or] at hi
  obtain ⟨k0, k1, k2, k3, k4, k5, k6, k7, k8, k9⟩ := hi
  constructor <;> try simp only [getD_set_ne k0, getD_set_ne k1, getD_set_ne k2, getD_set_ne k3, getD_set_ne k4, getD_set_ne k5, getD_set_ne k6, getD_set_ne k7, getD_set_ne k8, getD_set_ne k9]
  · exact h.gr
  · exact h.low
  · exact h.m1
  · exact h.m2
  · exact h.ne
  · exact h.f1
  · exact h.f2
  · exact h.g
  · exact h.fin
def DCp : List (Nat × Nat) := [(42, 41), (41, 20), (41, 40), (20, 19), (40, 39), (19, 18), (39, 38), (18, 11), (18, 14), (18, 17), (38, 31), (38, 34), (38, 37), (14, 11), (17, 11), (34, 31), (37, 31), (43, 42), (43, 0)]
def DC (l : Array Bool) : Prop := ∀ p ∈ DCp, l.getD p.1 false = true → l.getD p.2 false = true
theorem DC.set {l : Array Bool} (h : DC l) (hs : l.size = 44) (i : Nat) (hi : i < 44) (hp : ∀ p ∈ DCp, p.1 = i → l.getD p.2 false = true) : DC (l.setIfInBounds i true) := by
  intro p hm hd
  by_cases e2 : i = p.2
  · rw [← e2]; exact getD_set_self (by omega)
  · rw [getD_set_ne e2]
    by_cases e1 : i = p.1
    · exact hp p hm e1.symm
    · rw [getD_set_ne e1] at hd
      exact h p hm hd
theorem gd_eq {l : Array Bool} (hs : l.size = 44) {i : Nat} (hi : i < 44) : l.getD i true = l.getD i false := by
  simp [Array.getD, hs, hi]
/-- What must be done before the append is not done: neither is the append. -/
theorem DC.not42 {l : Array Bool} (h : DC l) (hs : l.size = 44) {i : Nat} (hi : i ∈ [11, 14, 17, 19, 31, 34, 37, 39, 41]) (hl : l.getD i true = false) : l.getD 42 false = false := by
  cases h42 : l.getD 42 false with
  | false => rfl
  | true =>
    exfalso
    have k41 := h (42, 41) (by simp [DCp]) h42
    have k20 := h (41, 20) (by simp [DCp]) k41
    have k40 := h (41, 40) (by simp [DCp]) k41
    have k19 := h (20, 19) (by simp [DCp]) k20
    have k39 := h (40, 39) (by simp [DCp]) k40
    have k18 := h (19, 18) (by simp [DCp]) k19
    have k38 := h (39, 38) (by simp [DCp]) k39
    have k11 := h (18, 11) (by simp [DCp]) k18
    have k14 := h (18, 14) (by simp [DCp]) k18
    have k17 := h (18, 17) (by simp [DCp]) k18
    have k31 := h (38, 31) (by simp [DCp]) k38
    have k34 := h (38, 34) (by simp [DCp]) k38
    have k37 := h (38, 37) (by simp [DCp]) k38
    simp only [List.mem_cons, List.not_mem_nil, or_false] at hi
    rcases hi with rfl | rfl | rfl | rfl | rfl | rfl | rfl | rfl | rfl <;> (rw [gd_eq hs (by decide)] at hl; simp_all)
theorem upd_self {y : Nat → Value} {k : Nat} {v : Value} (h : y k = v) : y = upd y k v := by
  funext j
  unfold upd
  by_cases e : j = k
  · rw [if_pos e, e, h]
  · rw [if_neg e]
/-- What holds between two operations. -/
def RInv (q : Par) (x : Nat → Value) (w0 : World) (l : Array Bool) (a : Act) (w : World) : Prop :=
  l.size = 44 ∧ ∃ (y : Nat → Value) (E : Env), a = frame q x y ∧ (∀ j, j < 44 → l.getD j false = true → y j = val q E j) ∧ (l.getD 0 false = false → y 43 = q.v5) ∧ DC l ∧ Wd q w0 l E w
theorem RInv.pure {q : Par} {x : Nat → Value} {w0 w : World} {l : Array Bool} {y : Nat → Value} {E : Env} (hs : l.size = 44) (H : ∀ j, j < 44 → l.getD j false = true → y j = val q E j) (H0 : l.getD 0 false = false → y 43 = q.v5) (hd : DC l) (hw : Wd q w0 l E w)
    (i : Nat) (hi : i < 44) (hp : ∀ p ∈ DCp, p.1 = i → l.getD p.2 false = true) (hn : i ∉ [11, 14, 17, 19, 31, 34, 37, 39, 41, 42]) (h43 : i = 43 → l.getD 0 false = true) : RInv q x w0 (l.setIfInBounds i true) (frame q x (upd y i (val q E i))) w := by
  refine ⟨by simpa using hs, upd y i (val q E i), E, rfl, fun j hj hd' => ?_, fun h0 => ?_, hd.set hs i hi hp, hw.other i hn⟩
  · unfold upd
    by_cases e : j = i
    · rw [if_pos e, e]
    · rw [if_neg e]
      rw [getD_set_ne (fun h => e h.symm)] at hd'
      exact H j hj hd'
  · unfold upd
    by_cases e0 : i = 0
    · subst e0
      rw [getD_set_self (by omega)] at h0
      exact absurd h0 (by decide)
    · rw [getD_set_ne e0] at h0
      by_cases e : 43 = i
      · rw [h43 e.symm] at h0; exact absurd h0 (by decide)
      · rw [if_neg e]; exact H0 h0
/-- An operation that makes something of its own. -/
theorem RInv.made {q : Par} {x : Nat → Value} {w0 w : World} {l : Array Bool} {y : Nat → Value} {E E' : Env} (hs : l.size = 44) (H : ∀ j, j < 44 → l.getD j false = true → y j = val q E j) (H0 : l.getD 0 false = false → y 43 = q.v5)
    (hd : DC l) (i : Nat) (hi : i < 44) (hp : ∀ p ∈ DCp, p.1 = i → l.getD p.2 false = true) (hi0 : i ≠ 0) (hi43 : i ≠ 43) (hE : ∀ j, j < 44 → j ≠ i → l.getD j false = true → val q E' j = val q E j) (hw : Wd q w0 (l.setIfInBounds i true) E' w) :
    RInv q x w0 (l.setIfInBounds i true) (frame q x (upd y i (val q E' i))) w := by
  refine ⟨by simpa using hs, upd y i (val q E' i), E', rfl, fun j hj hd' => ?_, fun h0 => ?_, hd.set hs i hi hp, hw⟩
  · unfold upd
    by_cases e : j = i
    · rw [if_pos e, e]
    · rw [if_neg e]
      rw [getD_set_ne (fun h => e h.symm)] at hd'
      rw [H j hj hd', hE j hj e hd']
  · unfold upd
    rw [getD_set_ne hi0] at h0
    rw [if_neg (fun h => hi43 h.symm)]
    exact H0 h0

theorem val_b1 (q : Par) (E : Env) (b : Nat) (j : Nat) (h1 : j ≠ 11) (h2 : j ≠ 18) : val q { E with b1 := b } j = val q E j := by
  unfold val
  split <;> first | rfl | contradiction
theorem val_b2 (q : Par) (E : Env) (b : Nat) (j : Nat) (h1 : j ≠ 31) (h2 : j ≠ 38) : val q { E with b2 := b } j = val q E j := by
  unfold val
  split <;> first | rfl | contradiction
theorem val_f1 (q : Par) (E : Env) (A : Option Addr) (n c : Nat) (j : Nat) (h1 : j ≠ 19) (h2 : j ≠ 20) : val q { E with A1 := A, n1 := n, c1 := c } j = val q E j := by
  unfold val
  split <;> first | rfl | contradiction
theorem val_f2 (q : Par) (E : Env) (A : Option Addr) (n c : Nat) (j : Nat) (h1 : j ≠ 39) (h2 : j ≠ 40) : val q { E with A2 := A, n2 := n, c2 := c } j = val q E j := by
  unfold val
  split <;> first | rfl | contradiction
theorem val_g (q : Par) (E : Env) (g : Nat) (j : Nat) (h1 : j ≠ 41) : val q { E with g := g } j = val q E j := by
  unfold val
  split <;> first | rfl | contradiction
theorem val_v (q : Par) (E : Env) (v : Value) (j : Nat) (h1 : j ≠ 42) (h2 : j ≠ 43) : val q { E with v := v } j = val q E j := by
  unfold val
  split <;> first | rfl | contradiction
/-- What waits for an operation that is not done is not done. -/
theorem DC.no {l : Array Bool} (h : DC l) (hs : l.size = 44) {i k : Nat} (hi : i < 44) (hm : (k, i) ∈ DCp) (hl : l.getD i true = false) : l.getD k false = false := by
  cases hk : l.getD k false with
  | false => rfl
  | true =>
    have := h (k, i) hm hk
    rw [gd_eq hs hi] at hl
    simp only at this
    rw [hl] at this
    exact absurd this (by decide)
theorem DC.no' {l : Array Bool} (h : DC l) {i k : Nat} (hm : (k, i) ∈ DCp) (hl : l.getD i false = false) : l.getD k false = false := by
  cases hk : l.getD k false with
  | false => rfl
  | true =>
    have := h (k, i) hm hk
    simp only at this
    rw [hl] at this
    exact absurd this (by decide)
theorem below_setBlock {B : Nat} {w w' : World} {b : Nat} {es : Array MapEntry} {c : Nat} (h : Below B w w') (hb : w'.heap[b]? = some (.map es c)) (hB : B ≤ b) (o : Obj) : Below B w (setBlock w' b o) :=
  ⟨h.os, h.tape, h.output, by simpa [setBlock] using h.size, fun i hi => (heap_setBlock_other hb o (by omega)).trans (h.block i hi)⟩
theorem grown_setBlock {w w' : World} {row : Option Nat} {b : Nat} {es : Array MapEntry} {c : Nat} (h : w.grownBy w' row) (hb : w'.heap[b]? = some (.map es c)) (hB : w.heap.size ≤ b) (o : Obj) : w.grownBy (setBlock w' b o) row :=
  ⟨h.os, h.tape, h.output, by simpa [setBlock] using h.size, fun i hi hne => (heap_setBlock_other hb o (by omega)).trans (h.block i hi hne)⟩
theorem keeps_setBlock {w : World} {b : Nat} {es : Array MapEntry} {c : Nat} (hb : w.heap[b]? = some (.map es c)) (o : Obj) (e : TypeId) : Keeps 0 e w (setBlock w b o) :=
  ⟨by simp [setBlock], fun i hi hk => heap_setBlock_other hb o (by
    rintro rfl
    rcases hk with hk | hk
    · omega
    · simp [typ, hb, otyp] at hk)⟩
theorem MapIs.keys {w : World} {es : Array MapEntry} {lf : List Fac} (h : es.toList.map (fun x => (x.key, x.val)) = lf.map (fun f => (Value.int .i64 f.key, ratV f.m))) : ∀ x ∈ es.toList, ∃ j, x.key = .int .i64 j := fun x hx => by
  have : (x.key, x.val) ∈ lf.map (fun f => (Value.int .i64 f.key, ratV f.m)) := by rw [← h]; exact List.mem_map_of_mem hx
  obtain ⟨f, _, hf⟩ := List.mem_map.1 this
  exact ⟨f.key, (Prod.mk.inj hf).1.symm⟩
theorem MapIs.pushed {w : World} {b c : Nat} {es : Array MapEntry} {lf : List Fac} (h1 : w.heap[b]? = some (.map es c)) (h2 : es.toList.map (fun x => (x.key, x.val)) = lf.map (fun f => (Value.int .i64 f.key, ratV f.m))) (f : Fac) :
    MapIs (setBlock w b (.map (es.push { key := .int .i64 f.key, val := ratV f.m, born := c }) (c + 1))) b (lf ++ [f]) :=
  ⟨_, _, heap_setBlock_same h1 _, by simp [h2]⟩
theorem MapIs.other {w : World} {b b' : Nat} {lf : List Fac} {es : Array MapEntry} {c : Nat} (h : MapIs w b lf) (hb : w.heap[b']? = some (.map es c)) (hne : b ≠ b') (o : Obj) : MapIs (setBlock w b' o) b lf := by
  obtain ⟨e1, c1, h1, h2⟩ := h
  exact ⟨e1, c1, (heap_setBlock_other hb o hne).trans h1, h2⟩
theorem Wd.make11 {q : Par} {w0 w : World} {l : Array Bool} {E : Env} (hs : l.size = 44) (hd : DC l) (h : Wd q w0 l E w) (hl : l.getD 11 true = false) : Wd q w0 (l.setIfInBounds 11 true) { E with b1 := w.heap.size } (w.alloc (.map #[] 0)) := by
  have h42 := hd.not42 hs (i := 11) (by simp) hl
  have k1 := hd.no hs (i := 11) (k := 14) (by decide) (by simp [DCp]) hl
  have k2 := hd.no hs (i := 11) (k := 17) (by decide) (by simp [DCp]) hl
  have hb : Below w.heap.size w (w.alloc (.map #[] 0)) := below_alloc (Below.refl _ _)
  have h' := h.below h42 hb
  constructor <;> try simp only [getD_set_self (show 11 < l.size by omega), getD_set_ne (show (11 : Nat) ≠ 14 by decide), getD_set_ne (show (11 : Nat) ≠ 17 by decide), getD_set_ne (show (11 : Nat) ≠ 19 by decide), getD_set_ne (show (11 : Nat) ≠ 31 by decide), getD_set_ne (show (11 : Nat) ≠ 34 by decide), getD_set_ne (show (11 : Nat) ≠ 37 by decide), getD_set_ne (show (11 : Nat) ≠ 39 by decide), getD_set_ne (show (11 : Nat) ≠ 41 by decide), getD_set_ne (show (11 : Nat) ≠ 42 by decide)]
  · exact h'.gr
  · exact h'.low
  · exact fun _ _ => ⟨(h.low h42).size, [], ⟨#[], 0, heap_alloc_new _ _, rfl⟩, fun _ _ => rfl, fun e => by rw [k1] at e; exact absurd e (by decide), fun _ e => by rw [k2] at e; exact absurd e (by decide), fun e => by rw [k1] at e; exact absurd e (by decide)⟩
  · exact h'.m2
  · exact fun _ _ e => by obtain ⟨_, lf, hm, _⟩ := h.m2 h42 e; have := hm.lt; show w.heap.size ≠ E.b2; omega
  · exact h'.f1
  · exact h'.f2
  · exact h'.g
  · exact fun e => by rw [h42] at e; exact absurd e (by decide)
theorem Wd.put14 {q : Par} {w0 w : World} {l : Array Bool} {E : Env} (hs : l.size = 44) (hd : DC l) (hpw : q.p ≠ q.wi) (h : Wd q w0 l E w) (hl : l.getD 14 true = false) (hmk : l.getD 11 false = true) :
    ∃ w', (Instr.mapUpdate 93 (.map (some E.b1)) (.int .i64 q.p) (ratV q.m1)).run Tryz.prog w = .ok () w' ∧ Wd q w0 (l.setIfInBounds 14 true) E w' := by
  have h42 := hd.not42 hs (i := 14) (by simp) hl
  have hlf : l.getD 14 false = false := by rw [← gd_eq hs (by decide)]; exact hl
  obtain ⟨hb1, lf, ⟨es, c, e1, e2⟩, o1, o2, o3, o4⟩ := h.m1 h42 hmk
  have hlk : lf = if l.getD 17 false = true then [⟨q.wi, q.m2, -1⟩] else [] := by
    cases hk : l.getD 17 false with
    | false => simpa using o1 hlf hk
    | true => simpa using o3 hlf hk
  have hn : mget es.toList q.p = none := by
    rw [mget_fget _ _ e2, hlk]
    split
    · unfold fget
      rw [List.find?_cons_of_neg (by simpa using fun e => hpw e.symm)]
      rfl
    · rfl
  refine ⟨_, ins_int un_map un_int e1 (MapIs.keys (w := w) e2) q.p (ratV q.m1) hn, ?_⟩
  have hnew := MapIs.pushed e1 e2 ⟨q.p, q.m1, 1⟩
  constructor <;> try simp only [getD_set_self (show 14 < l.size by omega), getD_set_ne (show (14 : Nat) ≠ 11 by decide), getD_set_ne (show (14 : Nat) ≠ 17 by decide), getD_set_ne (show (14 : Nat) ≠ 19 by decide), getD_set_ne (show (14 : Nat) ≠ 31 by decide), getD_set_ne (show (14 : Nat) ≠ 34 by decide), getD_set_ne (show (14 : Nat) ≠ 37 by decide), getD_set_ne (show (14 : Nat) ≠ 39 by decide), getD_set_ne (show (14 : Nat) ≠ 41 by decide), getD_set_ne (show (14 : Nat) ≠ 42 by decide)]
  · exact grown_setBlock h.gr e1 hb1 _
  · exact fun e => below_setBlock (h.low e) e1 hb1 _
  · exact fun _ _ => ⟨hb1, lf ++ [⟨q.p, q.m1, 1⟩], hnew, fun e => absurd e (by decide), fun _ e => by rw [o1 hlf e]; rfl, fun e => absurd e (by decide), fun _ e => by rw [o3 hlf e]; exact .inr rfl⟩
  · exact fun e k => by obtain ⟨p1, lf2, p2, p3⟩ := h.m2 e k; exact ⟨p1, lf2, p2.other e1 (fun x => h.ne e hmk k x.symm) _, p3⟩
  · exact h.ne
  · exact fun e k => (h.f1 e k).keeps (keeps_setBlock e1 _ _)
  · exact fun e k => (h.f2 e k).keeps (keeps_setBlock e1 _ _)
  · exact fun e k => (heap_setBlock_other e1 _ (fun x => by have := h.g e k; rw [x, e1] at this; simp at this)).trans (h.g e k)
  · exact fun e => by rw [h42] at e; exact absurd e (by decide)
theorem Wd.put17 {q : Par} {w0 w : World} {l : Array Bool} {E : Env} (hs : l.size = 44) (hd : DC l) (hpw : q.p ≠ q.wi) (h : Wd q w0 l E w) (hl : l.getD 17 true = false) (hmk : l.getD 11 false = true) :
    ∃ w', (Instr.mapUpdate 93 (.map (some E.b1)) (.int .i64 q.wi) (ratV q.m2)).run Tryz.prog w = .ok () w' ∧ Wd q w0 (l.setIfInBounds 17 true) E w' := by
  have h42 := hd.not42 hs (i := 17) (by simp) hl
  have hlf : l.getD 17 false = false := by rw [← gd_eq hs (by decide)]; exact hl
  obtain ⟨hb1, lf, ⟨es, c, e1, e2⟩, o1, o2, o3, o4⟩ := h.m1 h42 hmk
  have hlk : lf = if l.getD 14 false = true then [⟨q.p, q.m1, 1⟩] else [] := by
    cases hk : l.getD 14 false with
    | false => simpa using o1 hk hlf
    | true => simpa using o2 hk hlf
  have hn : mget es.toList q.wi = none := by
    rw [mget_fget _ _ e2, hlk]
    split
    · unfold fget
      rw [List.find?_cons_of_neg (by simpa using hpw)]
      rfl
    · rfl
  refine ⟨_, ins_int un_map un_int e1 (MapIs.keys (w := w) e2) q.wi (ratV q.m2) hn, ?_⟩
  have hnew := MapIs.pushed e1 e2 ⟨q.wi, q.m2, -1⟩
  constructor <;> try simp only [getD_set_self (show 17 < l.size by omega), getD_set_ne (show (17 : Nat) ≠ 11 by decide), getD_set_ne (show (17 : Nat) ≠ 14 by decide), getD_set_ne (show (17 : Nat) ≠ 19 by decide), getD_set_ne (show (17 : Nat) ≠ 31 by decide), getD_set_ne (show (17 : Nat) ≠ 34 by decide), getD_set_ne (show (17 : Nat) ≠ 37 by decide), getD_set_ne (show (17 : Nat) ≠ 39 by decide), getD_set_ne (show (17 : Nat) ≠ 41 by decide), getD_set_ne (show (17 : Nat) ≠ 42 by decide)]
  · exact grown_setBlock h.gr e1 hb1 _
  · exact fun e => below_setBlock (h.low e) e1 hb1 _
  · exact fun _ _ => ⟨hb1, lf ++ [⟨q.wi, q.m2, -1⟩], hnew, fun _ e => absurd e (by decide), fun _ e => absurd e (by decide), fun e _ => by rw [o1 e hlf]; rfl, fun e _ => by rw [o2 e hlf]; exact .inl rfl⟩
  · exact fun e k => by obtain ⟨p1, lf2, p2, p3⟩ := h.m2 e k; exact ⟨p1, lf2, p2.other e1 (fun x => h.ne e hmk k x.symm) _, p3⟩
  · exact h.ne
  · exact fun e k => (h.f1 e k).keeps (keeps_setBlock e1 _ _)
  · exact fun e k => (h.f2 e k).keeps (keeps_setBlock e1 _ _)
  · exact fun e k => (heap_setBlock_other e1 _ (fun x => by have := h.g e k; rw [x, e1] at this; simp at this)).trans (h.g e k)
  · exact fun e => by rw [h42] at e; exact absurd e (by decide)
theorem Wd.make31 {q : Par} {w0 w : World} {l : Array Bool} {E : Env} (hs : l.size = 44) (hd : DC l) (h : Wd q w0 l E w) (hl : l.getD 31 true = false) : Wd q w0 (l.setIfInBounds 31 true) { E with b2 := w.heap.size } (w.alloc (.map #[] 0)) := by
  have h42 := hd.not42 hs (i := 31) (by simp) hl
  have k1 := hd.no hs (i := 31) (k := 34) (by decide) (by simp [DCp]) hl
  have k2 := hd.no hs (i := 31) (k := 37) (by decide) (by simp [DCp]) hl
  have hb : Below w.heap.size w (w.alloc (.map #[] 0)) := below_alloc (Below.refl _ _)
  have h' := h.below h42 hb
  constructor <;> try simp only [getD_set_self (show 31 < l.size by omega), getD_set_ne (show (31 : Nat) ≠ 11 by decide), getD_set_ne (show (31 : Nat) ≠ 14 by decide), getD_set_ne (show (31 : Nat) ≠ 17 by decide), getD_set_ne (show (31 : Nat) ≠ 19 by decide), getD_set_ne (show (31 : Nat) ≠ 34 by decide), getD_set_ne (show (31 : Nat) ≠ 37 by decide), getD_set_ne (show (31 : Nat) ≠ 39 by decide), getD_set_ne (show (31 : Nat) ≠ 41 by decide), getD_set_ne (show (31 : Nat) ≠ 42 by decide)]
  · exact h'.gr
  · exact h'.low
  · exact h'.m1
  · exact fun _ _ => ⟨(h.low h42).size, [], ⟨#[], 0, heap_alloc_new _ _, rfl⟩, fun _ _ => rfl, fun e => by rw [k1] at e; exact absurd e (by decide), fun _ e => by rw [k2] at e; exact absurd e (by decide), fun e => by rw [k1] at e; exact absurd e (by decide)⟩
  · exact fun _ e _ => by obtain ⟨_, lf, hm, _⟩ := h.m1 h42 e; have := hm.lt; show E.b1 ≠ w.heap.size; omega
  · exact h'.f1
  · exact h'.f2
  · exact h'.g
  · exact fun e => by rw [h42] at e; exact absurd e (by decide)
theorem Wd.put34 {q : Par} {w0 w : World} {l : Array Bool} {E : Env} (hs : l.size = 44) (hd : DC l) (hpw : q.p ≠ q.wi) (h : Wd q w0 l E w) (hl : l.getD 34 true = false) (hmk : l.getD 31 false = true) :
    ∃ w', (Instr.mapUpdate 93 (.map (some E.b2)) (.int .i64 q.p) (ratV q.m2)).run Tryz.prog w = .ok () w' ∧ Wd q w0 (l.setIfInBounds 34 true) E w' := by
  have h42 := hd.not42 hs (i := 34) (by simp) hl
  have hlf : l.getD 34 false = false := by rw [← gd_eq hs (by decide)]; exact hl
  obtain ⟨hb1, lf, ⟨es, c, e1, e2⟩, o1, o2, o3, o4⟩ := h.m2 h42 hmk
  have hlk : lf = if l.getD 37 false = true then [⟨q.wi, q.m2, -1⟩] else [] := by
    cases hk : l.getD 37 false with
    | false => simpa using o1 hlf hk
    | true => simpa using o3 hlf hk
  have hn : mget es.toList q.p = none := by
    rw [mget_fget _ _ e2, hlk]
    split
    · unfold fget
      rw [List.find?_cons_of_neg (by simpa using fun e => hpw e.symm)]
      rfl
    · rfl
  refine ⟨_, ins_int un_map un_int e1 (MapIs.keys (w := w) e2) q.p (ratV q.m2) hn, ?_⟩
  have hnew := MapIs.pushed e1 e2 ⟨q.p, q.m2, -1⟩
  constructor <;> try simp only [getD_set_self (show 34 < l.size by omega), getD_set_ne (show (34 : Nat) ≠ 11 by decide), getD_set_ne (show (34 : Nat) ≠ 14 by decide), getD_set_ne (show (34 : Nat) ≠ 17 by decide), getD_set_ne (show (34 : Nat) ≠ 19 by decide), getD_set_ne (show (34 : Nat) ≠ 31 by decide), getD_set_ne (show (34 : Nat) ≠ 37 by decide), getD_set_ne (show (34 : Nat) ≠ 39 by decide), getD_set_ne (show (34 : Nat) ≠ 41 by decide), getD_set_ne (show (34 : Nat) ≠ 42 by decide)]
  · exact grown_setBlock h.gr e1 hb1 _
  · exact fun e => below_setBlock (h.low e) e1 hb1 _
  · exact fun e k => by obtain ⟨p1, lf2, p2, p3⟩ := h.m1 e k; exact ⟨p1, lf2, p2.other e1 (fun x => h.ne e k hmk x) _, p3⟩
  · exact fun _ _ => ⟨hb1, lf ++ [⟨q.p, q.m2, -1⟩], hnew, fun e => absurd e (by decide), fun _ e => by rw [o1 hlf e]; rfl, fun e => absurd e (by decide), fun _ e => by rw [o3 hlf e]; exact .inr rfl⟩
  · exact h.ne
  · exact fun e k => (h.f1 e k).keeps (keeps_setBlock e1 _ _)
  · exact fun e k => (h.f2 e k).keeps (keeps_setBlock e1 _ _)
  · exact fun e k => (heap_setBlock_other e1 _ (fun x => by have := h.g e k; rw [x, e1] at this; simp at this)).trans (h.g e k)
  · exact fun e => by rw [h42] at e; exact absurd e (by decide)
theorem Wd.put37 {q : Par} {w0 w : World} {l : Array Bool} {E : Env} (hs : l.size = 44) (hd : DC l) (hpw : q.p ≠ q.wi) (h : Wd q w0 l E w) (hl : l.getD 37 true = false) (hmk : l.getD 31 false = true) :
    ∃ w', (Instr.mapUpdate 93 (.map (some E.b2)) (.int .i64 q.wi) (ratV q.m2)).run Tryz.prog w = .ok () w' ∧ Wd q w0 (l.setIfInBounds 37 true) E w' := by
  have h42 := hd.not42 hs (i := 37) (by simp) hl
  have hlf : l.getD 37 false = false := by rw [← gd_eq hs (by decide)]; exact hl
  obtain ⟨hb1, lf, ⟨es, c, e1, e2⟩, o1, o2, o3, o4⟩ := h.m2 h42 hmk
  have hlk : lf = if l.getD 34 false = true then [⟨q.p, q.m2, -1⟩] else [] := by
    cases hk : l.getD 34 false with
    | false => simpa using o1 hk hlf
    | true => simpa using o2 hk hlf
  have hn : mget es.toList q.wi = none := by
    rw [mget_fget _ _ e2, hlk]
    split
    · unfold fget
      rw [List.find?_cons_of_neg (by simpa using hpw)]
      rfl
    · rfl
  refine ⟨_, ins_int un_map un_int e1 (MapIs.keys (w := w) e2) q.wi (ratV q.m2) hn, ?_⟩
  have hnew := MapIs.pushed e1 e2 ⟨q.wi, q.m2, -1⟩
  constructor <;> try simp only [getD_set_self (show 37 < l.size by omega), getD_set_ne (show (37 : Nat) ≠ 11 by decide), getD_set_ne (show (37 : Nat) ≠ 14 by decide), getD_set_ne (show (37 : Nat) ≠ 17 by decide), getD_set_ne (show (37 : Nat) ≠ 19 by decide), getD_set_ne (show (37 : Nat) ≠ 31 by decide), getD_set_ne (show (37 : Nat) ≠ 34 by decide), getD_set_ne (show (37 : Nat) ≠ 39 by decide), getD_set_ne (show (37 : Nat) ≠ 41 by decide), getD_set_ne (show (37 : Nat) ≠ 42 by decide)]
  · exact grown_setBlock h.gr e1 hb1 _
  · exact fun e => below_setBlock (h.low e) e1 hb1 _
  · exact fun e k => by obtain ⟨p1, lf2, p2, p3⟩ := h.m1 e k; exact ⟨p1, lf2, p2.other e1 (fun x => h.ne e k hmk x) _, p3⟩
  · exact fun _ _ => ⟨hb1, lf ++ [⟨q.wi, q.m2, -1⟩], hnew, fun _ e => absurd e (by decide), fun _ e => absurd e (by decide), fun e _ => by rw [o1 e hlf]; rfl, fun e _ => by rw [o2 e hlf]; exact .inl rfl⟩
  · exact h.ne
  · exact fun e k => (h.f1 e k).keeps (keeps_setBlock e1 _ _)
  · exact fun e k => (h.f2 e k).keeps (keeps_setBlock e1 _ _)
  · exact fun e k => (heap_setBlock_other e1 _ (fun x => by have := h.g e k; rw [x, e1] at this; simp at this)).trans (h.g e k)
  · exact fun e => by rw [h42] at e; exact absurd e (by decide)
theorem Wd.call19 {q : Par} {w0 w w' : World} {l : Array Bool} {E : Env} (hs : l.size = 44) (hd : DC l) (h : Wd q w0 l E w) (hl : l.getD 19 true = false) {A : Option Addr} {n c : Nat} (hr : IsRow encT 2 0 100 w' A n c (tm (two q.p 1 q.wi (-1)) 48)) (hb : Below w.heap.size w w') : Wd q w0 (l.setIfInBounds 19 true) { E with A1 := A, n1 := n, c1 := c } w' := by
  have h42 := hd.not42 hs (i := 19) (by simp) hl
  have k1 := hd.no hs (i := 19) (k := 20) (by decide) (by simp [DCp]) hl
  have k41 := hd.no' (i := 20) (k := 41) (by simp [DCp]) k1
  have h' := h.below h42 hb
  constructor <;> try simp only [getD_set_self (show 19 < l.size by omega), getD_set_ne (show (19 : Nat) ≠ 11 by decide), getD_set_ne (show (19 : Nat) ≠ 14 by decide), getD_set_ne (show (19 : Nat) ≠ 17 by decide), getD_set_ne (show (19 : Nat) ≠ 31 by decide), getD_set_ne (show (19 : Nat) ≠ 34 by decide), getD_set_ne (show (19 : Nat) ≠ 37 by decide), getD_set_ne (show (19 : Nat) ≠ 39 by decide), getD_set_ne (show (19 : Nat) ≠ 41 by decide), getD_set_ne (show (19 : Nat) ≠ 42 by decide)]
  · exact h'.gr
  · exact h'.low
  · exact h'.m1
  · exact h'.m2
  · exact h'.ne
  · exact fun _ _ => hr
  · exact h'.f2
  · exact fun _ e => by rw [k41] at e; exact absurd e (by decide)
  · exact fun e => by rw [h42] at e; exact absurd e (by decide)
theorem Wd.call39 {q : Par} {w0 w w' : World} {l : Array Bool} {E : Env} (hs : l.size = 44) (hd : DC l) (h : Wd q w0 l E w) (hl : l.getD 39 true = false) {A : Option Addr} {n c : Nat} (hr : IsRow encT 2 0 100 w' A n c (tm (two q.p (-1) q.wi (-1)) 48)) (hb : Below w.heap.size w w') : Wd q w0 (l.setIfInBounds 39 true) { E with A2 := A, n2 := n, c2 := c } w' := by
  have h42 := hd.not42 hs (i := 39) (by simp) hl
  have k1 := hd.no hs (i := 39) (k := 40) (by decide) (by simp [DCp]) hl
  have k41 := hd.no' (i := 40) (k := 41) (by simp [DCp]) k1
  have h' := h.below h42 hb
  constructor <;> try simp only [getD_set_self (show 39 < l.size by omega), getD_set_ne (show (39 : Nat) ≠ 11 by decide), getD_set_ne (show (39 : Nat) ≠ 14 by decide), getD_set_ne (show (39 : Nat) ≠ 17 by decide), getD_set_ne (show (39 : Nat) ≠ 19 by decide), getD_set_ne (show (39 : Nat) ≠ 31 by decide), getD_set_ne (show (39 : Nat) ≠ 34 by decide), getD_set_ne (show (39 : Nat) ≠ 37 by decide), getD_set_ne (show (39 : Nat) ≠ 41 by decide), getD_set_ne (show (39 : Nat) ≠ 42 by decide)]
  · exact h'.gr
  · exact h'.low
  · exact h'.m1
  · exact h'.m2
  · exact h'.ne
  · exact h'.f1
  · exact fun _ _ => hr
  · exact fun _ e => by rw [k41] at e; exact absurd e (by decide)
  · exact fun e => by rw [h42] at e; exact absurd e (by decide)
theorem Wd.build41 {q : Par} {w0 w : World} {l : Array Bool} {E : Env} (hs : l.size = 44) (hd : DC l) (h : Wd q w0 l E w) (hl : l.getD 41 true = false) : Wd q w0 (l.setIfInBounds 41 true) { E with g := w.heap.size } (w.alloc (.cells (six q E).toArray 53)) := by
  have h42 := hd.not42 hs (i := 41) (by simp) hl
  have h' := h.below h42 (below_alloc (o := .cells (six q E).toArray 53) (Below.refl _ _))
  constructor <;> try simp only [getD_set_self (show 41 < l.size by omega), getD_set_ne (show (41 : Nat) ≠ 11 by decide), getD_set_ne (show (41 : Nat) ≠ 14 by decide), getD_set_ne (show (41 : Nat) ≠ 17 by decide), getD_set_ne (show (41 : Nat) ≠ 19 by decide), getD_set_ne (show (41 : Nat) ≠ 31 by decide), getD_set_ne (show (41 : Nat) ≠ 34 by decide), getD_set_ne (show (41 : Nat) ≠ 37 by decide), getD_set_ne (show (41 : Nat) ≠ 39 by decide), getD_set_ne (show (41 : Nat) ≠ 42 by decide)]
  · exact h'.gr
  · exact h'.low
  · exact h'.m1
  · exact h'.m2
  · exact h'.ne
  · exact h'.f1
  · exact h'.f2
  · exact fun _ _ => heap_alloc_new _ _
  · exact fun e => by rw [h42] at e; exact absurd e (by decide)
theorem Wd.end42 {q : Par} {w0 w w' : World} {l : Array Bool} {E : Env} {v : Value} (hs : l.size = 44) (h : Wd q w0 l E w) (hf : Fin9 q w0 { E with v := v } w') : Wd q w0 (l.setIfInBounds 42 true) { E with v := v } w' := by
  constructor <;> try simp only [getD_set_self (show 42 < l.size by omega), getD_set_ne (show (42 : Nat) ≠ 11 by decide), getD_set_ne (show (42 : Nat) ≠ 14 by decide), getD_set_ne (show (42 : Nat) ≠ 17 by decide), getD_set_ne (show (42 : Nat) ≠ 19 by decide), getD_set_ne (show (42 : Nat) ≠ 31 by decide), getD_set_ne (show (42 : Nat) ≠ 34 by decide), getD_set_ne (show (42 : Nat) ≠ 37 by decide), getD_set_ne (show (42 : Nat) ≠ 39 by decide), getD_set_ne (show (42 : Nat) ≠ 41 by decide)]
  · exact hf.grown
  · exact fun e => absurd e (by decide)
  · exact fun e => absurd e (by decide)
  · exact fun e => absurd e (by decide)
  · exact fun e => absurd e (by decide)
  · exact fun e => absurd e (by decide)
  · exact fun e => absurd e (by decide)
  · exact fun e => absurd e (by decide)
  · exact fun _ => hf
theorem Wd.both {q : Par} {w0 w : World} {l : Array Bool} {E : Env} (h : Wd q w0 l E w) (hd : DC l) (h42 : l.getD 42 false = false) (k41 : l.getD 41 false = true) :
    IsRow encT 2 0 100 w E.A1 E.n1 E.c1 (tm (two q.p 1 q.wi (-1)) 48) ∧ IsRow encT 2 0 100 w E.A2 E.n2 E.c2 (tm (two q.p (-1) q.wi (-1)) 48) := by
  have k20 := hd (41, 20) (by simp [DCp]) k41
  have k40 := hd (41, 40) (by simp [DCp]) k41
  exact ⟨h.f1 h42 (hd (20, 19) (by simp [DCp]) k20), h.f2 h42 (hd (40, 39) (by simp [DCp]) k40)⟩
end Go.Proofs.YtpifbaiibhaklaaGreatDoor
