/- Package rational, for whole rationals: Compare, Neg, Add, Sub, Number.
  Package rational, for whole rationals: Number.
  Package rational: digits, read.
  Package rational: read of a text without a stroke.
  Package rational: all, Reads.
  Package datum: the words, and what the searches answer. -/
import Derived.Test.YtpifbaiibhaklaaGreatDoorL0
import Derived.Test.YtpifbaiibhaklaaGreatDoorL1
import Derived.BigGuard
import Derived.BigCall
import Derived.Shelf.Strings.SlTrimAscii
import Derived.Deep.RegionHeld3
import Derived.Lib.ItoaNum
import Derived.Lib.Repeat
import Derived.Lib.ParseIntB
import Derived.Lib.Strings
import Derived.Test.YtpifbaiibhaklaaGreatDoorShelf
import Derived.WalkSmall
import Derived.Lib.AppendIntMem
namespace Go.Proofs.YtpifbaiibhaklaaGreatDoor
open Go.RowKit Big
set_option maxHeartbeats 400000
set_option linter.unusedVariables false
set_option linter.unusedSimpArgs false

theorem IsRat.whole (base : Nat) (w : World) (m : MR) (q : Rat) (hB : base ≤ w.heap.size) (h : IsRat base w m q) (hq : limR q ≤ 1099511627776) (hd : q.den = 1) : ∀ W, Below w.heap.size w W →
    Calls Tryz.prog 76 #[.agg #[.bool m.a.p, .slice m.a.A m.a.n m.a.c, .bool m.b.p, .slice m.b.A m.b.n m.b.c]] W fun e w' => e = .returned (.bool true) ∧ Below W.heap.size W w' := by
  intro W hW
  have := whole_any base m q W (Nat.le_trans hB hW.size) (h.below hW) hq
  rwa [decide_eq_true hd] at this

theorem rCompare_w (base : Nat) (m k : MR) (a b : Rat) (w : World) (hB : base ≤ w.heap.size) (ha : IsRat base w m a) (hb : IsRat base w k b) (la : limR a ≤ 1099511627776) (lb : limR b ≤ 1099511627776) (da : a.den = 1) (db : b.den = 1) :
    Calls Tryz.prog 54 #[.agg #[.bool m.a.p, .slice m.a.A m.a.n m.a.c, .bool m.b.p, .slice m.b.A m.b.n m.b.c], .agg #[.bool k.a.p, .slice k.a.A k.a.n k.a.c, .bool k.b.p, .slice k.b.A k.b.n k.b.c]] w
      fun e w' => e = .returned (.int .i64 (cmpI a.num b.num)) ∧ Below w.heap.size w w' := by
  have H1 := Lib.hid (IsRat.whole base w m a hB ha la da)
  have H2 := Lib.hid (IsRat.whole base w k b hB hb lb db)
  have H3 := Lib.hid (fun W (hW : Below w.heap.size w W) => Compare_any m.a.p k.a.p m.a.A k.a.A m.a.n m.a.c k.a.n k.a.c a.num b.num W (ha.1.below hW) (hb.1.below hW) (by unfold limR at la; omega) (by unfold limR at lb; omega))
  clear ha hb
  go_enter Tryz.func54, Tryz.ntmps54
  go_wp2_with fail
  refine (H1.out _ (by repeat (first | exact Below.refl _ _ | with_reducible assumption | apply below_alloc | apply below_drewN | apply below_drew | refine below_set ?_ (by simp; try omega) _ | refine below_then ?_ (by with_reducible assumption)))).mono ?_
  rintro e w1 ⟨rfl, hb⟩
  have x0 := keptc hb (w.heap.size) 0 (.bool m.a.p) (by first | with_reducible assumption | (simp [go_sem]; done)); have x1 := keptc hb (w.heap.size) 1 (.slice m.a.A m.a.n m.a.c) (by first | with_reducible assumption | (simp [go_sem]; done)); have x2 := keptc hb (w.heap.size) 2 (.bool m.b.p) (by first | with_reducible assumption | (simp [go_sem]; done)); have x3 := keptc hb (w.heap.size) 3 (.slice m.b.A m.b.n m.b.c) (by first | with_reducible assumption | (simp [go_sem]; done)); have fx0 := keptF hb (g := w.heap.size) (o := 0) (v := .bool m.a.p) (by first | with_reducible assumption | (simp [go_sem]; done)) (by first | with_reducible assumption | (simp [go_sem]; done)); have fx1 := keptF hb (g := w.heap.size) (o := 1) (v := .slice m.a.A m.a.n m.a.c) (by first | with_reducible assumption | (simp [go_sem]; done)) (by first | with_reducible assumption | (simp [go_sem]; done)); have fx2 := keptF hb (g := w.heap.size) (o := 2) (v := .bool m.b.p) (by first | with_reducible assumption | (simp [go_sem]; done)) (by first | with_reducible assumption | (simp [go_sem]; done)); have fx3 := keptF hb (g := w.heap.size) (o := 3) (v := .slice m.b.A m.b.n m.b.c) (by first | with_reducible assumption | (simp [go_sem]; done)) (by first | with_reducible assumption | (simp [go_sem]; done)); have Tx := Lib.hid (keptT hb (g := w.heap.size) (o := 0) (v := .bool m.a.p) (by first | with_reducible assumption | (simp [go_sem]; done)) (e := 90) (by first | with_reducible assumption | exact Hid.out (by with_reducible assumption) | (simp [typ_alloc, typ_drewN, typ_drew, otyp_cells]; done)))
  have y0 := keptc hb (w.heap.size + 1) 0 (.bool k.a.p) (by first | with_reducible assumption | (simp [go_sem]; done)); have y1 := keptc hb (w.heap.size + 1) 1 (.slice k.a.A k.a.n k.a.c) (by first | with_reducible assumption | (simp [go_sem]; done)); have y2 := keptc hb (w.heap.size + 1) 2 (.bool k.b.p) (by first | with_reducible assumption | (simp [go_sem]; done)); have y3 := keptc hb (w.heap.size + 1) 3 (.slice k.b.A k.b.n k.b.c) (by first | with_reducible assumption | (simp [go_sem]; done)); have fy0 := keptF hb (g := w.heap.size + 1) (o := 0) (v := .bool k.a.p) (by first | with_reducible assumption | (simp [go_sem]; done)) (by first | with_reducible assumption | (simp [go_sem]; done)); have fy1 := keptF hb (g := w.heap.size + 1) (o := 1) (v := .slice k.a.A k.a.n k.a.c) (by first | with_reducible assumption | (simp [go_sem]; done)) (by first | with_reducible assumption | (simp [go_sem]; done)); have fy2 := keptF hb (g := w.heap.size + 1) (o := 2) (v := .bool k.b.p) (by first | with_reducible assumption | (simp [go_sem]; done)) (by first | with_reducible assumption | (simp [go_sem]; done)); have fy3 := keptF hb (g := w.heap.size + 1) (o := 3) (v := .slice k.b.A k.b.n k.b.c) (by first | with_reducible assumption | (simp [go_sem]; done)) (by first | with_reducible assumption | (simp [go_sem]; done)); have Ty := Lib.hid (keptT hb (g := w.heap.size + 1) (o := 0) (v := .bool k.a.p) (by first | with_reducible assumption | (simp [go_sem]; done)) (e := 90) (by first | with_reducible assumption | exact Hid.out (by with_reducible assumption) | (simp [typ_alloc, typ_drewN, typ_drew, otyp_cells]; done)))
  have B1 := Lib.hid (below_then (w := w) (by repeat (first | exact Below.refl _ _ | with_reducible assumption | apply below_alloc | apply below_drewN | apply below_drew | refine below_set ?_ (by simp; try omega) _ | refine below_then ?_ (by with_reducible assumption))) hb)
  clear hb
  go_wp2_with fail
  refine (H2.out _ B1.out).mono ?_
  rintro e w2 ⟨rfl, hb⟩
  have p0 := keptc hb (w.heap.size) 0 (.bool m.a.p) (by first | with_reducible assumption | (simp [go_sem]; done)); have p1 := keptc hb (w.heap.size) 1 (.slice m.a.A m.a.n m.a.c) (by first | with_reducible assumption | (simp [go_sem]; done)); have p2 := keptc hb (w.heap.size) 2 (.bool m.b.p) (by first | with_reducible assumption | (simp [go_sem]; done)); have p3 := keptc hb (w.heap.size) 3 (.slice m.b.A m.b.n m.b.c) (by first | with_reducible assumption | (simp [go_sem]; done)); have fp0 := keptF hb (g := w.heap.size) (o := 0) (v := .bool m.a.p) (by first | with_reducible assumption | (simp [go_sem]; done)) (by first | with_reducible assumption | (simp [go_sem]; done)); have fp1 := keptF hb (g := w.heap.size) (o := 1) (v := .slice m.a.A m.a.n m.a.c) (by first | with_reducible assumption | (simp [go_sem]; done)) (by first | with_reducible assumption | (simp [go_sem]; done)); have fp2 := keptF hb (g := w.heap.size) (o := 2) (v := .bool m.b.p) (by first | with_reducible assumption | (simp [go_sem]; done)) (by first | with_reducible assumption | (simp [go_sem]; done)); have fp3 := keptF hb (g := w.heap.size) (o := 3) (v := .slice m.b.A m.b.n m.b.c) (by first | with_reducible assumption | (simp [go_sem]; done)) (by first | with_reducible assumption | (simp [go_sem]; done)); have Tp := Lib.hid (keptT hb (g := w.heap.size) (o := 0) (v := .bool m.a.p) (by first | with_reducible assumption | (simp [go_sem]; done)) (e := 90) (by first | with_reducible assumption | exact Hid.out (by with_reducible assumption) | (simp [typ_alloc, typ_drewN, typ_drew, otyp_cells]; done)))
  have q0 := keptc hb (w.heap.size + 1) 0 (.bool k.a.p) (by first | with_reducible assumption | (simp [go_sem]; done)); have q1 := keptc hb (w.heap.size + 1) 1 (.slice k.a.A k.a.n k.a.c) (by first | with_reducible assumption | (simp [go_sem]; done)); have q2 := keptc hb (w.heap.size + 1) 2 (.bool k.b.p) (by first | with_reducible assumption | (simp [go_sem]; done)); have q3 := keptc hb (w.heap.size + 1) 3 (.slice k.b.A k.b.n k.b.c) (by first | with_reducible assumption | (simp [go_sem]; done)); have fq0 := keptF hb (g := w.heap.size + 1) (o := 0) (v := .bool k.a.p) (by first | with_reducible assumption | (simp [go_sem]; done)) (by first | with_reducible assumption | (simp [go_sem]; done)); have fq1 := keptF hb (g := w.heap.size + 1) (o := 1) (v := .slice k.a.A k.a.n k.a.c) (by first | with_reducible assumption | (simp [go_sem]; done)) (by first | with_reducible assumption | (simp [go_sem]; done)); have fq2 := keptF hb (g := w.heap.size + 1) (o := 2) (v := .bool k.b.p) (by first | with_reducible assumption | (simp [go_sem]; done)) (by first | with_reducible assumption | (simp [go_sem]; done)); have fq3 := keptF hb (g := w.heap.size + 1) (o := 3) (v := .slice k.b.A k.b.n k.b.c) (by first | with_reducible assumption | (simp [go_sem]; done)) (by first | with_reducible assumption | (simp [go_sem]; done)); have Tq := Lib.hid (keptT hb (g := w.heap.size + 1) (o := 0) (v := .bool k.a.p) (by first | with_reducible assumption | (simp [go_sem]; done)) (e := 90) (by first | with_reducible assumption | exact Hid.out (by with_reducible assumption) | (simp [typ_alloc, typ_drewN, typ_drew, otyp_cells]; done)))
  have B2 := Lib.hid (below_then B1.out hb)
  clear hb
  go_wp2_with fail
  refine (H3.out _ B2.out).mono ?_
  rintro e w3 ⟨rfl, hb⟩
  have B3 := Lib.hid (below_then B2.out hb)
  clear hb
  go_wp2_with fail
  go_ret
  exact ⟨rfl, B3.out⟩

set_option maxHeartbeats 2000000 in
theorem rNeg_any (base : Nat) (m : MR) (q : Rat) (w : World) (hB : base ≤ w.heap.size) (h : IsRat base w m q) (hq : limR q ≤ 1099511627776) :
    Calls Tryz.prog 43 #[.agg #[.bool m.a.p, .slice m.a.A m.a.n m.a.c, .bool m.b.p, .slice m.b.A m.b.n m.b.c]] w (RetRat base w (-q)) := by
  have H := Lib.hid (fun W (hW : Below w.heap.size w W) => Neg_any m.a.p m.a.A m.a.n m.a.c q.num W (h.1.below hW) (by unfold limR at hq; omega))
  have K := Lib.hid h
  clear h
  go_enter Tryz.func43, Tryz.ntmps43
  go_wp2_with fail
  go_region_held3 (fun w' => w'.cell? ⟨w.heap.size, 0, none⟩ = some (.bool m.a.p) ∧ w'.cell? ⟨w.heap.size, 1, none⟩ = some (.slice m.a.A m.a.n m.a.c) ∧ w'.cell? ⟨w.heap.size, 2, none⟩ = some (.bool m.b.p) ∧ w'.cell? ⟨w.heap.size, 3, none⟩ = some (.slice m.b.A m.b.n m.b.c))
    (first
      | exact ⟨c0, c1, c2, c3⟩
      | (refine ⟨?_, ?_, ?_, ?_⟩ <;> (repeat (refine cell_set_far ?_ (by dsimp only; omega) _)) <;> with_reducible assumption)
      | go_keep)
    (first
      | (go_at_call 67; refine (H.out _ (by repeat (first | exact Below.refl _ _ | with_reducible assumption | apply below_alloc | apply below_drewN | apply below_drew | refine below_set ?_ (by simp; try omega) _ | refine below_then ?_ (by with_reducible assumption)))).mono ?_; rintro e w' ⟨p', A', k', c', rfl, hi, hb⟩; have c0 := keptc hb (w.heap.size) 0 (.bool m.a.p) (by first | with_reducible assumption | (simp [go_sem]; done)); have c1 := keptc hb (w.heap.size) 1 (.slice m.a.A m.a.n m.a.c) (by first | with_reducible assumption | (simp [go_sem]; done)); have c2 := keptc hb (w.heap.size) 2 (.bool m.b.p) (by first | with_reducible assumption | (simp [go_sem]; done)); have c3 := keptc hb (w.heap.size) 3 (.slice m.b.A m.b.n m.b.c) (by first | with_reducible assumption | (simp [go_sem]; done)); have fc0 := keptF hb (g := w.heap.size) (o := 0) (v := .bool m.a.p) (by first | with_reducible assumption | (simp [go_sem]; done)) (by first | with_reducible assumption | (simp [go_sem]; done)); have fc1 := keptF hb (g := w.heap.size) (o := 1) (v := .slice m.a.A m.a.n m.a.c) (by first | with_reducible assumption | (simp [go_sem]; done)) (by first | with_reducible assumption | (simp [go_sem]; done)); have fc2 := keptF hb (g := w.heap.size) (o := 2) (v := .bool m.b.p) (by first | with_reducible assumption | (simp [go_sem]; done)) (by first | with_reducible assumption | (simp [go_sem]; done)); have fc3 := keptF hb (g := w.heap.size) (o := 3) (v := .slice m.b.A m.b.n m.b.c) (by first | with_reducible assumption | (simp [go_sem]; done)) (by first | with_reducible assumption | (simp [go_sem]; done)); have r0 := keptc hb (w.heap.size + 1) 0 (.bool false) (by first | with_reducible assumption | (simp [go_sem]; done)); have r1 := keptc hb (w.heap.size + 1) 1 (.slice none 0 0) (by first | with_reducible assumption | (simp [go_sem]; done)); have r2 := keptc hb (w.heap.size + 1) 2 (.bool false) (by first | with_reducible assumption | (simp [go_sem]; done)); have r3 := keptc hb (w.heap.size + 1) 3 (.slice none 0 0) (by first | with_reducible assumption | (simp [go_sem]; done)); have fr0 := keptF hb (g := w.heap.size + 1) (o := 0) (v := .bool false) (by first | with_reducible assumption | (simp [go_sem]; done)) (by first | with_reducible assumption | (simp [go_sem]; done)); have fr1 := keptF hb (g := w.heap.size + 1) (o := 1) (v := .slice none 0 0) (by first | with_reducible assumption | (simp [go_sem]; done)) (by first | with_reducible assumption | (simp [go_sem]; done)); have fr2 := keptF hb (g := w.heap.size + 1) (o := 2) (v := .bool false) (by first | with_reducible assumption | (simp [go_sem]; done)) (by first | with_reducible assumption | (simp [go_sem]; done)); have fr3 := keptF hb (g := w.heap.size + 1) (o := 3) (v := .slice none 0 0) (by first | with_reducible assumption | (simp [go_sem]; done)) (by first | with_reducible assumption | (simp [go_sem]; done)); have Tr := Lib.hid (keptT hb (g := w.heap.size + 1) (o := 0) (v := .bool false) (by first | with_reducible assumption | (simp [go_sem]; done)) (e := 90) (by first | with_reducible assumption | exact Hid.out (by with_reducible assumption) | (simp [typ_alloc, typ_drewN, typ_drew, otyp_cells]; done))); have I1 := Lib.hid hi; have B1 := Lib.hid (below_then (w := w) (by repeat (first | exact Below.refl _ _ | with_reducible assumption | apply below_alloc | apply below_drewN | apply below_drew | refine below_set ?_ (by simp; try omega) _ | refine below_then ?_ (by with_reducible assumption))) hb); clear hi hb))
  go_wp2_with fail
  refine bodyPost_ret (v := .agg #[.bool p', .slice A' k' c', .bool m.b.p, .slice m.b.A m.b.n m.b.c]) (by simp [results, Tryz.results43, go_sem, r0, r1, r2, r3]) rfl ⟨⟨⟨p', A', k', c'⟩, m.b⟩, rfl, ⟨?_, ?_⟩, ?_⟩
  · rw [Rat.neg_num]
    exact I1.out.keeps (by repeat (first | exact Keeps.refl _ _ _ | apply Keeps.alloc | apply Keeps.drewN | apply Keeps.drew | refine Keeps.set ?_ (by simp; try omega) (by first | (simp [T1.out]; done) | (simp [Tr.out]; done)) _))
  · obtain ⟨dz, g1, g2⟩ := (K.out.below B1.out).2
    exact ⟨dz, g1.keeps (by repeat (first | exact Keeps.refl _ _ _ | apply Keeps.alloc | apply Keeps.drewN | apply Keeps.drew | refine Keeps.set ?_ (by simp; try omega) (by first | (simp [T1.out]; done) | (simp [Tr.out]; done)) _)), by rw [Rat.neg_den]; exact g2⟩
  · exact below_set (below_set (below_set (below_set B1.out (by simp) _) (by simp) _) (by simp) _) (by simp) _

theorem rat_whole {q : Rat} (h : q.den = 1) : q = (q.num : Rat) := by
  apply Rat.ext
  · simp
  · simp [h]
theorem add_whole {a b : Rat} (ha : a.den = 1) (hb : b.den = 1) : (a + b).num = a.num + b.num ∧ (a + b).den = 1 := by
  have h : a + b = ((a.num + b.num : Int) : Rat) := by rw [Rat.intCast_add, ← rat_whole ha, ← rat_whole hb]
  rw [h]
  exact ⟨Rat.num_intCast _, Rat.den_intCast _⟩

theorem rAdd_w (base : Nat) (m k : MR) (a b : Rat) (w : World) (hB : base ≤ w.heap.size) (ha : IsRat base w m a) (hb : IsRat base w k b) (la : limR a ≤ 549755813888) (lb : limR b ≤ 549755813888) (da : a.den = 1) (db : b.den = 1) :
    Calls Tryz.prog 70 #[.agg #[.bool m.a.p, .slice m.a.A m.a.n m.a.c, .bool m.b.p, .slice m.b.A m.b.n m.b.c], .agg #[.bool k.a.p, .slice k.a.A k.a.n k.a.c, .bool k.b.p, .slice k.b.A k.b.n k.b.c]] w (RetRat base w (a + b)) := by
  have H1 := Lib.hid (IsRat.whole base w m a hB ha (by omega) da)
  have H2 := Lib.hid (IsRat.whole base w k b hB hb (by omega) db)
  have H3 := Lib.hid (fun W (hW : Below w.heap.size w W) => Add_any base m.a.p k.a.p m.a.A k.a.A m.a.n m.a.c k.a.n k.a.c a.num b.num W (Nat.le_trans hB hW.size) (ha.1.below hW) (hb.1.below hW) (by unfold limR at la; omega) (by unfold limR at lb; omega))
  have K := Lib.hid (add_whole da db)
  clear ha hb da db
  go_enter Tryz.func70, Tryz.ntmps70
  go_wp2_with fail
  refine (H1.out _ (by repeat (first | exact Below.refl _ _ | with_reducible assumption | apply below_alloc | apply below_drewN | apply below_drew | refine below_set ?_ (by simp; try omega) _ | refine below_then ?_ (by with_reducible assumption)))).mono ?_
  rintro e w1 ⟨rfl, hb⟩
  have x0 := keptc hb (w.heap.size) 0 (.bool m.a.p) (by first | with_reducible assumption | (simp [go_sem]; done)); have x1 := keptc hb (w.heap.size) 1 (.slice m.a.A m.a.n m.a.c) (by first | with_reducible assumption | (simp [go_sem]; done)); have x2 := keptc hb (w.heap.size) 2 (.bool m.b.p) (by first | with_reducible assumption | (simp [go_sem]; done)); have x3 := keptc hb (w.heap.size) 3 (.slice m.b.A m.b.n m.b.c) (by first | with_reducible assumption | (simp [go_sem]; done)); have fx0 := keptF hb (g := w.heap.size) (o := 0) (v := .bool m.a.p) (by first | with_reducible assumption | (simp [go_sem]; done)) (by first | with_reducible assumption | (simp [go_sem]; done)); have fx1 := keptF hb (g := w.heap.size) (o := 1) (v := .slice m.a.A m.a.n m.a.c) (by first | with_reducible assumption | (simp [go_sem]; done)) (by first | with_reducible assumption | (simp [go_sem]; done)); have fx2 := keptF hb (g := w.heap.size) (o := 2) (v := .bool m.b.p) (by first | with_reducible assumption | (simp [go_sem]; done)) (by first | with_reducible assumption | (simp [go_sem]; done)); have fx3 := keptF hb (g := w.heap.size) (o := 3) (v := .slice m.b.A m.b.n m.b.c) (by first | with_reducible assumption | (simp [go_sem]; done)) (by first | with_reducible assumption | (simp [go_sem]; done)); have Tx := Lib.hid (keptT hb (g := w.heap.size) (o := 0) (v := .bool m.a.p) (by first | with_reducible assumption | (simp [go_sem]; done)) (e := 90) (by first | with_reducible assumption | exact Hid.out (by with_reducible assumption) | (simp [typ_alloc, typ_drewN, typ_drew, otyp_cells]; done)))
  have y0 := keptc hb (w.heap.size + 1) 0 (.bool k.a.p) (by first | with_reducible assumption | (simp [go_sem]; done)); have y1 := keptc hb (w.heap.size + 1) 1 (.slice k.a.A k.a.n k.a.c) (by first | with_reducible assumption | (simp [go_sem]; done)); have y2 := keptc hb (w.heap.size + 1) 2 (.bool k.b.p) (by first | with_reducible assumption | (simp [go_sem]; done)); have y3 := keptc hb (w.heap.size + 1) 3 (.slice k.b.A k.b.n k.b.c) (by first | with_reducible assumption | (simp [go_sem]; done)); have fy0 := keptF hb (g := w.heap.size + 1) (o := 0) (v := .bool k.a.p) (by first | with_reducible assumption | (simp [go_sem]; done)) (by first | with_reducible assumption | (simp [go_sem]; done)); have fy1 := keptF hb (g := w.heap.size + 1) (o := 1) (v := .slice k.a.A k.a.n k.a.c) (by first | with_reducible assumption | (simp [go_sem]; done)) (by first | with_reducible assumption | (simp [go_sem]; done)); have fy2 := keptF hb (g := w.heap.size + 1) (o := 2) (v := .bool k.b.p) (by first | with_reducible assumption | (simp [go_sem]; done)) (by first | with_reducible assumption | (simp [go_sem]; done)); have fy3 := keptF hb (g := w.heap.size + 1) (o := 3) (v := .slice k.b.A k.b.n k.b.c) (by first | with_reducible assumption | (simp [go_sem]; done)) (by first | with_reducible assumption | (simp [go_sem]; done)); have Ty := Lib.hid (keptT hb (g := w.heap.size + 1) (o := 0) (v := .bool k.a.p) (by first | with_reducible assumption | (simp [go_sem]; done)) (e := 90) (by first | with_reducible assumption | exact Hid.out (by with_reducible assumption) | (simp [typ_alloc, typ_drewN, typ_drew, otyp_cells]; done)))
  have r0 := keptc hb (w.heap.size + 1 + 1) 0 (.bool false) (by first | with_reducible assumption | (simp [go_sem]; done)); have r1 := keptc hb (w.heap.size + 1 + 1) 1 (.slice none 0 0) (by first | with_reducible assumption | (simp [go_sem]; done)); have r2 := keptc hb (w.heap.size + 1 + 1) 2 (.bool false) (by first | with_reducible assumption | (simp [go_sem]; done)); have r3 := keptc hb (w.heap.size + 1 + 1) 3 (.slice none 0 0) (by first | with_reducible assumption | (simp [go_sem]; done)); have fr0 := keptF hb (g := w.heap.size + 1 + 1) (o := 0) (v := .bool false) (by first | with_reducible assumption | (simp [go_sem]; done)) (by first | with_reducible assumption | (simp [go_sem]; done)); have fr1 := keptF hb (g := w.heap.size + 1 + 1) (o := 1) (v := .slice none 0 0) (by first | with_reducible assumption | (simp [go_sem]; done)) (by first | with_reducible assumption | (simp [go_sem]; done)); have fr2 := keptF hb (g := w.heap.size + 1 + 1) (o := 2) (v := .bool false) (by first | with_reducible assumption | (simp [go_sem]; done)) (by first | with_reducible assumption | (simp [go_sem]; done)); have fr3 := keptF hb (g := w.heap.size + 1 + 1) (o := 3) (v := .slice none 0 0) (by first | with_reducible assumption | (simp [go_sem]; done)) (by first | with_reducible assumption | (simp [go_sem]; done)); have Tr := Lib.hid (keptT hb (g := w.heap.size + 1 + 1) (o := 0) (v := .bool false) (by first | with_reducible assumption | (simp [go_sem]; done)) (e := 90) (by first | with_reducible assumption | exact Hid.out (by with_reducible assumption) | (simp [typ_alloc, typ_drewN, typ_drew, otyp_cells]; done)))
  have B1 := Lib.hid (below_then (w := w) (by repeat (first | exact Below.refl _ _ | with_reducible assumption | apply below_alloc | apply below_drewN | apply below_drew | refine below_set ?_ (by simp; try omega) _ | refine below_then ?_ (by with_reducible assumption))) hb)
  clear hb
  go_wp2_with fail
  refine (H2.out _ B1.out).mono ?_
  rintro e w2 ⟨rfl, hb⟩
  have p0 := keptc hb (w.heap.size) 0 (.bool m.a.p) (by first | with_reducible assumption | (simp [go_sem]; done)); have p1 := keptc hb (w.heap.size) 1 (.slice m.a.A m.a.n m.a.c) (by first | with_reducible assumption | (simp [go_sem]; done)); have p2 := keptc hb (w.heap.size) 2 (.bool m.b.p) (by first | with_reducible assumption | (simp [go_sem]; done)); have p3 := keptc hb (w.heap.size) 3 (.slice m.b.A m.b.n m.b.c) (by first | with_reducible assumption | (simp [go_sem]; done)); have fp0 := keptF hb (g := w.heap.size) (o := 0) (v := .bool m.a.p) (by first | with_reducible assumption | (simp [go_sem]; done)) (by first | with_reducible assumption | (simp [go_sem]; done)); have fp1 := keptF hb (g := w.heap.size) (o := 1) (v := .slice m.a.A m.a.n m.a.c) (by first | with_reducible assumption | (simp [go_sem]; done)) (by first | with_reducible assumption | (simp [go_sem]; done)); have fp2 := keptF hb (g := w.heap.size) (o := 2) (v := .bool m.b.p) (by first | with_reducible assumption | (simp [go_sem]; done)) (by first | with_reducible assumption | (simp [go_sem]; done)); have fp3 := keptF hb (g := w.heap.size) (o := 3) (v := .slice m.b.A m.b.n m.b.c) (by first | with_reducible assumption | (simp [go_sem]; done)) (by first | with_reducible assumption | (simp [go_sem]; done)); have Tp := Lib.hid (keptT hb (g := w.heap.size) (o := 0) (v := .bool m.a.p) (by first | with_reducible assumption | (simp [go_sem]; done)) (e := 90) (by first | with_reducible assumption | exact Hid.out (by with_reducible assumption) | (simp [typ_alloc, typ_drewN, typ_drew, otyp_cells]; done)))
  have q0 := keptc hb (w.heap.size + 1) 0 (.bool k.a.p) (by first | with_reducible assumption | (simp [go_sem]; done)); have q1 := keptc hb (w.heap.size + 1) 1 (.slice k.a.A k.a.n k.a.c) (by first | with_reducible assumption | (simp [go_sem]; done)); have q2 := keptc hb (w.heap.size + 1) 2 (.bool k.b.p) (by first | with_reducible assumption | (simp [go_sem]; done)); have q3 := keptc hb (w.heap.size + 1) 3 (.slice k.b.A k.b.n k.b.c) (by first | with_reducible assumption | (simp [go_sem]; done)); have fq0 := keptF hb (g := w.heap.size + 1) (o := 0) (v := .bool k.a.p) (by first | with_reducible assumption | (simp [go_sem]; done)) (by first | with_reducible assumption | (simp [go_sem]; done)); have fq1 := keptF hb (g := w.heap.size + 1) (o := 1) (v := .slice k.a.A k.a.n k.a.c) (by first | with_reducible assumption | (simp [go_sem]; done)) (by first | with_reducible assumption | (simp [go_sem]; done)); have fq2 := keptF hb (g := w.heap.size + 1) (o := 2) (v := .bool k.b.p) (by first | with_reducible assumption | (simp [go_sem]; done)) (by first | with_reducible assumption | (simp [go_sem]; done)); have fq3 := keptF hb (g := w.heap.size + 1) (o := 3) (v := .slice k.b.A k.b.n k.b.c) (by first | with_reducible assumption | (simp [go_sem]; done)) (by first | with_reducible assumption | (simp [go_sem]; done)); have Tq := Lib.hid (keptT hb (g := w.heap.size + 1) (o := 0) (v := .bool k.a.p) (by first | with_reducible assumption | (simp [go_sem]; done)) (e := 90) (by first | with_reducible assumption | exact Hid.out (by with_reducible assumption) | (simp [typ_alloc, typ_drewN, typ_drew, otyp_cells]; done)))
  have s0 := keptc hb (w.heap.size + 1 + 1) 0 (.bool false) (by first | with_reducible assumption | (simp [go_sem]; done)); have s1 := keptc hb (w.heap.size + 1 + 1) 1 (.slice none 0 0) (by first | with_reducible assumption | (simp [go_sem]; done)); have s2 := keptc hb (w.heap.size + 1 + 1) 2 (.bool false) (by first | with_reducible assumption | (simp [go_sem]; done)); have s3 := keptc hb (w.heap.size + 1 + 1) 3 (.slice none 0 0) (by first | with_reducible assumption | (simp [go_sem]; done)); have fs0 := keptF hb (g := w.heap.size + 1 + 1) (o := 0) (v := .bool false) (by first | with_reducible assumption | (simp [go_sem]; done)) (by first | with_reducible assumption | (simp [go_sem]; done)); have fs1 := keptF hb (g := w.heap.size + 1 + 1) (o := 1) (v := .slice none 0 0) (by first | with_reducible assumption | (simp [go_sem]; done)) (by first | with_reducible assumption | (simp [go_sem]; done)); have fs2 := keptF hb (g := w.heap.size + 1 + 1) (o := 2) (v := .bool false) (by first | with_reducible assumption | (simp [go_sem]; done)) (by first | with_reducible assumption | (simp [go_sem]; done)); have fs3 := keptF hb (g := w.heap.size + 1 + 1) (o := 3) (v := .slice none 0 0) (by first | with_reducible assumption | (simp [go_sem]; done)) (by first | with_reducible assumption | (simp [go_sem]; done)); have Ts := Lib.hid (keptT hb (g := w.heap.size + 1 + 1) (o := 0) (v := .bool false) (by first | with_reducible assumption | (simp [go_sem]; done)) (e := 90) (by first | with_reducible assumption | exact Hid.out (by with_reducible assumption) | (simp [typ_alloc, typ_drewN, typ_drew, otyp_cells]; done)))
  have B2 := Lib.hid (below_then B1.out hb)
  clear hb
  go_wp2_with fail
  refine (H3.out _ B2.out).mono ?_
  rintro e w3 ⟨p', A', k', c', rfl, hi, hb⟩
  have t0 := keptc hb (w.heap.size + 1 + 1) 0 (.bool false) (by first | with_reducible assumption | (simp [go_sem]; done)); have t1 := keptc hb (w.heap.size + 1 + 1) 1 (.slice none 0 0) (by first | with_reducible assumption | (simp [go_sem]; done)); have t2 := keptc hb (w.heap.size + 1 + 1) 2 (.bool false) (by first | with_reducible assumption | (simp [go_sem]; done)); have t3 := keptc hb (w.heap.size + 1 + 1) 3 (.slice none 0 0) (by first | with_reducible assumption | (simp [go_sem]; done)); have ft0 := keptF hb (g := w.heap.size + 1 + 1) (o := 0) (v := .bool false) (by first | with_reducible assumption | (simp [go_sem]; done)) (by first | with_reducible assumption | (simp [go_sem]; done)); have ft1 := keptF hb (g := w.heap.size + 1 + 1) (o := 1) (v := .slice none 0 0) (by first | with_reducible assumption | (simp [go_sem]; done)) (by first | with_reducible assumption | (simp [go_sem]; done)); have ft2 := keptF hb (g := w.heap.size + 1 + 1) (o := 2) (v := .bool false) (by first | with_reducible assumption | (simp [go_sem]; done)) (by first | with_reducible assumption | (simp [go_sem]; done)); have ft3 := keptF hb (g := w.heap.size + 1 + 1) (o := 3) (v := .slice none 0 0) (by first | with_reducible assumption | (simp [go_sem]; done)) (by first | with_reducible assumption | (simp [go_sem]; done)); have Tt := Lib.hid (keptT hb (g := w.heap.size + 1 + 1) (o := 0) (v := .bool false) (by first | with_reducible assumption | (simp [go_sem]; done)) (e := 90) (by first | with_reducible assumption | exact Hid.out (by with_reducible assumption) | (simp [typ_alloc, typ_drewN, typ_drew, otyp_cells]; done)))
  have Tr := Tt
  have I3 := Lib.hid hi
  have B3 := Lib.hid (below_then B2.out hb)
  clear hb hi
  go_wp2_with fail
  refine bodyPost_ret (v := .agg #[.bool p', .slice A' k' c', .bool false, .slice none 0 0]) (by simp [results, Tryz.results70, go_sem, t0, t1, t2, t3]) rfl ⟨⟨⟨p', A', k', c'⟩, ⟨false, none, 0, 0⟩⟩, rfl, ⟨?_, 0, IsInt.zero _ _, .inr ⟨rfl, K.out.2⟩⟩, ?_⟩
  · rw [K.out.1]
    exact I3.out.keeps (by repeat (first | exact Keeps.refl _ _ _ | apply Keeps.alloc | apply Keeps.drewN | apply Keeps.drew | refine Keeps.set ?_ (by simp; try omega) (by first | (simp [T1.out]; done) | (simp [Tr.out]; done)) _))
  · exact below_set (below_set (below_set (below_set B3.out (by simp; omega) _) (by simp; omega) _) (by simp; omega) _) (by simp; omega) _

set_option maxHeartbeats 2000000 in
theorem rSub_w (base : Nat) (m k : MR) (a b : Rat) (w : World) (hB : base ≤ w.heap.size) (ha : IsRat base w m a) (hb : IsRat base w k b) (la : limR a ≤ 549755813888) (lb : limR b ≤ 549755813888) (da : a.den = 1) (db : b.den = 1) :
    Calls Tryz.prog 75 #[.agg #[.bool m.a.p, .slice m.a.A m.a.n m.a.c, .bool m.b.p, .slice m.b.A m.b.n m.b.c], .agg #[.bool k.a.p, .slice k.a.A k.a.n k.a.c, .bool k.b.p, .slice k.b.A k.b.n k.b.c]] w (RetRat base w (a - b)) := by
  have H1 := Lib.hid (fun W (hW : Below w.heap.size w W) => rNeg_any base k b W (Nat.le_trans hB hW.size) (hb.below hW) (by omega))
  have H2 := Lib.hid (fun W (hW : Below w.heap.size w W) (n : MR) (hn : IsRat base W n (-b)) => rAdd_w base m n a (-b) W (Nat.le_trans hB hW.size) (ha.below hW) hn la (by unfold limR at lb ⊢; rw [Rat.neg_num, Rat.neg_den, lim_neg]; exact lb) da (by rw [Rat.neg_den]; exact db))
  rw [Rat.sub_eq_add_neg]
  clear ha hb da db
  go_enter Tryz.func75, Tryz.ntmps75
  go_wp2_with fail
  go_region_held3 (fun w' => w'.cell? ⟨w.heap.size, 0, none⟩ = some (.bool m.a.p) ∧ w'.cell? ⟨w.heap.size, 1, none⟩ = some (.slice m.a.A m.a.n m.a.c) ∧ w'.cell? ⟨w.heap.size, 2, none⟩ = some (.bool m.b.p) ∧ w'.cell? ⟨w.heap.size, 3, none⟩ = some (.slice m.b.A m.b.n m.b.c) ∧ w'.cell? ⟨w.heap.size + 1, 0, none⟩ = some (.bool k.a.p) ∧ w'.cell? ⟨w.heap.size + 1, 1, none⟩ = some (.slice k.a.A k.a.n k.a.c) ∧ w'.cell? ⟨w.heap.size + 1, 2, none⟩ = some (.bool k.b.p) ∧ w'.cell? ⟨w.heap.size + 1, 3, none⟩ = some (.slice k.b.A k.b.n k.b.c))
    (first
      | exact ⟨c0, c1, c2, c3, d0, d1, d2, d3⟩
      | exact ⟨x0, x1, x2, x3, y0, y1, y2, y3⟩
      | (refine ⟨?_, ?_, ?_, ?_, ?_, ?_, ?_, ?_⟩ <;> (repeat (refine cell_set_far ?_ (by dsimp only; omega) _)) <;> with_reducible assumption)
      | go_keep)
    (first
      | (go_at_call 43; refine (H1.out _ (by repeat (first | exact Below.refl _ _ | with_reducible assumption | apply below_alloc | apply below_drewN | apply below_drew | refine below_set ?_ (by simp; try omega) _ | refine below_then ?_ (by with_reducible assumption)))).mono ?_; rintro e w' ⟨n, rfl, hi, hb⟩; have c0 := keptc hb (w.heap.size) 0 (.bool m.a.p) (by first | with_reducible assumption | (simp [go_sem]; done)); have c1 := keptc hb (w.heap.size) 1 (.slice m.a.A m.a.n m.a.c) (by first | with_reducible assumption | (simp [go_sem]; done)); have c2 := keptc hb (w.heap.size) 2 (.bool m.b.p) (by first | with_reducible assumption | (simp [go_sem]; done)); have c3 := keptc hb (w.heap.size) 3 (.slice m.b.A m.b.n m.b.c) (by first | with_reducible assumption | (simp [go_sem]; done)); have fc0 := keptF hb (g := w.heap.size) (o := 0) (v := .bool m.a.p) (by first | with_reducible assumption | (simp [go_sem]; done)) (by first | with_reducible assumption | (simp [go_sem]; done)); have fc1 := keptF hb (g := w.heap.size) (o := 1) (v := .slice m.a.A m.a.n m.a.c) (by first | with_reducible assumption | (simp [go_sem]; done)) (by first | with_reducible assumption | (simp [go_sem]; done)); have fc2 := keptF hb (g := w.heap.size) (o := 2) (v := .bool m.b.p) (by first | with_reducible assumption | (simp [go_sem]; done)) (by first | with_reducible assumption | (simp [go_sem]; done)); have fc3 := keptF hb (g := w.heap.size) (o := 3) (v := .slice m.b.A m.b.n m.b.c) (by first | with_reducible assumption | (simp [go_sem]; done)) (by first | with_reducible assumption | (simp [go_sem]; done)); have d0 := keptc hb (w.heap.size + 1) 0 (.bool k.a.p) (by first | with_reducible assumption | (simp [go_sem]; done)); have d1 := keptc hb (w.heap.size + 1) 1 (.slice k.a.A k.a.n k.a.c) (by first | with_reducible assumption | (simp [go_sem]; done)); have d2 := keptc hb (w.heap.size + 1) 2 (.bool k.b.p) (by first | with_reducible assumption | (simp [go_sem]; done)); have d3 := keptc hb (w.heap.size + 1) 3 (.slice k.b.A k.b.n k.b.c) (by first | with_reducible assumption | (simp [go_sem]; done)); have fd0 := keptF hb (g := w.heap.size + 1) (o := 0) (v := .bool k.a.p) (by first | with_reducible assumption | (simp [go_sem]; done)) (by first | with_reducible assumption | (simp [go_sem]; done)); have fd1 := keptF hb (g := w.heap.size + 1) (o := 1) (v := .slice k.a.A k.a.n k.a.c) (by first | with_reducible assumption | (simp [go_sem]; done)) (by first | with_reducible assumption | (simp [go_sem]; done)); have fd2 := keptF hb (g := w.heap.size + 1) (o := 2) (v := .bool k.b.p) (by first | with_reducible assumption | (simp [go_sem]; done)) (by first | with_reducible assumption | (simp [go_sem]; done)); have fd3 := keptF hb (g := w.heap.size + 1) (o := 3) (v := .slice k.b.A k.b.n k.b.c) (by first | with_reducible assumption | (simp [go_sem]; done)) (by first | with_reducible assumption | (simp [go_sem]; done)); have q0 := keptc hb (w.heap.size + 1 + 1) 0 (.bool false) (by first | with_reducible assumption | (simp [go_sem]; done)); have q1 := keptc hb (w.heap.size + 1 + 1) 1 (.slice none 0 0) (by first | with_reducible assumption | (simp [go_sem]; done)); have q2 := keptc hb (w.heap.size + 1 + 1) 2 (.bool false) (by first | with_reducible assumption | (simp [go_sem]; done)); have q3 := keptc hb (w.heap.size + 1 + 1) 3 (.slice none 0 0) (by first | with_reducible assumption | (simp [go_sem]; done)); have fq0 := keptF hb (g := w.heap.size + 1 + 1) (o := 0) (v := .bool false) (by first | with_reducible assumption | (simp [go_sem]; done)) (by first | with_reducible assumption | (simp [go_sem]; done)); have fq1 := keptF hb (g := w.heap.size + 1 + 1) (o := 1) (v := .slice none 0 0) (by first | with_reducible assumption | (simp [go_sem]; done)) (by first | with_reducible assumption | (simp [go_sem]; done)); have fq2 := keptF hb (g := w.heap.size + 1 + 1) (o := 2) (v := .bool false) (by first | with_reducible assumption | (simp [go_sem]; done)) (by first | with_reducible assumption | (simp [go_sem]; done)); have fq3 := keptF hb (g := w.heap.size + 1 + 1) (o := 3) (v := .slice none 0 0) (by first | with_reducible assumption | (simp [go_sem]; done)) (by first | with_reducible assumption | (simp [go_sem]; done)); have Tq := Lib.hid (keptT hb (g := w.heap.size + 1 + 1) (o := 0) (v := .bool false) (by first | with_reducible assumption | (simp [go_sem]; done)) (e := 90) (by first | with_reducible assumption | exact Hid.out (by with_reducible assumption) | (simp [typ_alloc, typ_drewN, typ_drew, otyp_cells]; done))); have I1 := Lib.hid hi; have B1 := Lib.hid (below_then (w := w) (by repeat (first | exact Below.refl _ _ | with_reducible assumption | apply below_alloc | apply below_drewN | apply below_drew | refine below_set ?_ (by simp; try omega) _ | refine below_then ?_ (by with_reducible assumption))) hb); clear hi hb)
      | (go_at_call 70; refine (H2.out _ B1.out _ I1.out).mono ?_; rintro e w' ⟨n', rfl, hi, hb⟩; have x0 := keptc hb (w.heap.size) 0 (.bool m.a.p) (by first | with_reducible assumption | (simp [go_sem]; done)); have x1 := keptc hb (w.heap.size) 1 (.slice m.a.A m.a.n m.a.c) (by first | with_reducible assumption | (simp [go_sem]; done)); have x2 := keptc hb (w.heap.size) 2 (.bool m.b.p) (by first | with_reducible assumption | (simp [go_sem]; done)); have x3 := keptc hb (w.heap.size) 3 (.slice m.b.A m.b.n m.b.c) (by first | with_reducible assumption | (simp [go_sem]; done)); have fx0 := keptF hb (g := w.heap.size) (o := 0) (v := .bool m.a.p) (by first | with_reducible assumption | (simp [go_sem]; done)) (by first | with_reducible assumption | (simp [go_sem]; done)); have fx1 := keptF hb (g := w.heap.size) (o := 1) (v := .slice m.a.A m.a.n m.a.c) (by first | with_reducible assumption | (simp [go_sem]; done)) (by first | with_reducible assumption | (simp [go_sem]; done)); have fx2 := keptF hb (g := w.heap.size) (o := 2) (v := .bool m.b.p) (by first | with_reducible assumption | (simp [go_sem]; done)) (by first | with_reducible assumption | (simp [go_sem]; done)); have fx3 := keptF hb (g := w.heap.size) (o := 3) (v := .slice m.b.A m.b.n m.b.c) (by first | with_reducible assumption | (simp [go_sem]; done)) (by first | with_reducible assumption | (simp [go_sem]; done)); have y0 := keptc hb (w.heap.size + 1) 0 (.bool k.a.p) (by first | with_reducible assumption | (simp [go_sem]; done)); have y1 := keptc hb (w.heap.size + 1) 1 (.slice k.a.A k.a.n k.a.c) (by first | with_reducible assumption | (simp [go_sem]; done)); have y2 := keptc hb (w.heap.size + 1) 2 (.bool k.b.p) (by first | with_reducible assumption | (simp [go_sem]; done)); have y3 := keptc hb (w.heap.size + 1) 3 (.slice k.b.A k.b.n k.b.c) (by first | with_reducible assumption | (simp [go_sem]; done)); have fy0 := keptF hb (g := w.heap.size + 1) (o := 0) (v := .bool k.a.p) (by first | with_reducible assumption | (simp [go_sem]; done)) (by first | with_reducible assumption | (simp [go_sem]; done)); have fy1 := keptF hb (g := w.heap.size + 1) (o := 1) (v := .slice k.a.A k.a.n k.a.c) (by first | with_reducible assumption | (simp [go_sem]; done)) (by first | with_reducible assumption | (simp [go_sem]; done)); have fy2 := keptF hb (g := w.heap.size + 1) (o := 2) (v := .bool k.b.p) (by first | with_reducible assumption | (simp [go_sem]; done)) (by first | with_reducible assumption | (simp [go_sem]; done)); have fy3 := keptF hb (g := w.heap.size + 1) (o := 3) (v := .slice k.b.A k.b.n k.b.c) (by first | with_reducible assumption | (simp [go_sem]; done)) (by first | with_reducible assumption | (simp [go_sem]; done)); have r0 := keptc hb (w.heap.size + 1 + 1) 0 (.bool false) (by first | with_reducible assumption | (simp [go_sem]; done)); have r1 := keptc hb (w.heap.size + 1 + 1) 1 (.slice none 0 0) (by first | with_reducible assumption | (simp [go_sem]; done)); have r2 := keptc hb (w.heap.size + 1 + 1) 2 (.bool false) (by first | with_reducible assumption | (simp [go_sem]; done)); have r3 := keptc hb (w.heap.size + 1 + 1) 3 (.slice none 0 0) (by first | with_reducible assumption | (simp [go_sem]; done)); have fr0 := keptF hb (g := w.heap.size + 1 + 1) (o := 0) (v := .bool false) (by first | with_reducible assumption | (simp [go_sem]; done)) (by first | with_reducible assumption | (simp [go_sem]; done)); have fr1 := keptF hb (g := w.heap.size + 1 + 1) (o := 1) (v := .slice none 0 0) (by first | with_reducible assumption | (simp [go_sem]; done)) (by first | with_reducible assumption | (simp [go_sem]; done)); have fr2 := keptF hb (g := w.heap.size + 1 + 1) (o := 2) (v := .bool false) (by first | with_reducible assumption | (simp [go_sem]; done)) (by first | with_reducible assumption | (simp [go_sem]; done)); have fr3 := keptF hb (g := w.heap.size + 1 + 1) (o := 3) (v := .slice none 0 0) (by first | with_reducible assumption | (simp [go_sem]; done)) (by first | with_reducible assumption | (simp [go_sem]; done)); have Tr := Lib.hid (keptT hb (g := w.heap.size + 1 + 1) (o := 0) (v := .bool false) (by first | with_reducible assumption | (simp [go_sem]; done)) (e := 90) (by first | with_reducible assumption | exact Hid.out (by with_reducible assumption) | (simp [typ_alloc, typ_drewN, typ_drew, otyp_cells]; done))); have I2 := Lib.hid hi; have B2 := Lib.hid (below_then B1.out hb); clear hi hb))
  go_wp2_with fail
  refine bodyPost_ret (v := .agg #[.bool n'.a.p, .slice n'.a.A n'.a.n n'.a.c, .bool n'.b.p, .slice n'.b.A n'.b.n n'.b.c]) (by simp [results, Tryz.results75, go_sem, r0, r1, r2, r3]) rfl ⟨n', rfl, I2.out.keeps (by repeat (first | exact Keeps.refl _ _ _ | apply Keeps.alloc | apply Keeps.drewN | apply Keeps.drew | refine Keeps.set ?_ (by simp; try omega) (by first | (simp [T1.out]; done) | (simp [Tr.out]; done)) _)), ?_⟩
  exact below_set (below_set (below_set (below_set B2.out (by simp; omega) _) (by simp; omega) _) (by simp; omega) _) (by simp; omega) _

end Go.Proofs.YtpifbaiibhaklaaGreatDoor
namespace Go.Proofs.YtpifbaiibhaklaaGreatDoor
open Go.RowKit Big
set_option maxHeartbeats 400000
set_option linter.unusedVariables false
set_option linter.unusedSimpArgs false

theorem rNumber_w (base : Nat) (m : MR) (a : Rat) (w : World) (hB : base ≤ w.heap.size) (hg : Good w) (ha : IsRat base w m a) (la : limR a ≤ 1073741824) (da : a.den = 1) :
    Calls Tryz.prog 65 #[.agg #[.bool m.a.p, .slice m.a.A m.a.n m.a.c, .bool m.b.p, .slice m.b.A m.b.n m.b.c]] w fun e w' => ∃ s : ByteArray, e = .returned (.string s) ∧ s.data.toList = Lib.itoa a.num ∧ Below w.heap.size w w' := by
  have H1 := Lib.hid (IsRat.whole base w m a hB ha (by omega) da)
  have H3 := Lib.hid (fun W (hW : Below w.heap.size w W) => Text_any m.a.p m.a.A m.a.n m.a.c a.num W base (Nat.le_trans hB hW.size) (hg.below hW) (ha.1.below hW) (by unfold limR at la; omega))
  clear ha da
  go_enter Tryz.func65, Tryz.ntmps65
  go_wp2_with fail
  refine (H1.out _ (by repeat (first | exact Below.refl _ _ | with_reducible assumption | apply below_alloc | apply below_drewN | apply below_drew | refine below_set ?_ (by simp; try omega) _ | refine below_then ?_ (by with_reducible assumption)))).mono ?_
  rintro e w1 ⟨rfl, hb⟩
  have x0 := keptc hb (w.heap.size) 0 (.bool m.a.p) (by first | with_reducible assumption | (simp [go_sem]; done)); have x1 := keptc hb (w.heap.size) 1 (.slice m.a.A m.a.n m.a.c) (by first | with_reducible assumption | (simp [go_sem]; done)); have x2 := keptc hb (w.heap.size) 2 (.bool m.b.p) (by first | with_reducible assumption | (simp [go_sem]; done)); have x3 := keptc hb (w.heap.size) 3 (.slice m.b.A m.b.n m.b.c) (by first | with_reducible assumption | (simp [go_sem]; done)); have fx0 := keptF hb (g := w.heap.size) (o := 0) (v := .bool m.a.p) (by first | with_reducible assumption | (simp [go_sem]; done)) (by first | with_reducible assumption | (simp [go_sem]; done)); have fx1 := keptF hb (g := w.heap.size) (o := 1) (v := .slice m.a.A m.a.n m.a.c) (by first | with_reducible assumption | (simp [go_sem]; done)) (by first | with_reducible assumption | (simp [go_sem]; done)); have fx2 := keptF hb (g := w.heap.size) (o := 2) (v := .bool m.b.p) (by first | with_reducible assumption | (simp [go_sem]; done)) (by first | with_reducible assumption | (simp [go_sem]; done)); have fx3 := keptF hb (g := w.heap.size) (o := 3) (v := .slice m.b.A m.b.n m.b.c) (by first | with_reducible assumption | (simp [go_sem]; done)) (by first | with_reducible assumption | (simp [go_sem]; done)); have Tx := Lib.hid (keptT hb (g := w.heap.size) (o := 0) (v := .bool m.a.p) (by first | with_reducible assumption | (simp [go_sem]; done)) (e := 90) (by first | with_reducible assumption | exact Hid.out (by with_reducible assumption) | (simp [typ_alloc, typ_drewN, typ_drew, otyp_cells]; done)))
  have B1 := Lib.hid (below_then (w := w) (by repeat (first | exact Below.refl _ _ | with_reducible assumption | apply below_alloc | apply below_drewN | apply below_drew | refine below_set ?_ (by simp; try omega) _ | refine below_then ?_ (by with_reducible assumption))) hb)
  clear hb
  go_wp2_with fail
  refine (H3.out _ B1.out).mono ?_
  rintro e w3 ⟨s, rfl, hs, hb⟩
  have B3 := Lib.hid (below_then B1.out hb)
  clear hb
  go_wp2_with fail
  go_ret
  exact ⟨s, rfl, hs, B3.out⟩
end Go.Proofs.YtpifbaiibhaklaaGreatDoor
namespace Go.Proofs.YtpifbaiibhaklaaGreatDoor
open Go.RowKit Big
set_option maxHeartbeats 400000
set_option linter.unusedVariables false
set_option linter.unusedSimpArgs false

def cs10 : List UInt8 := [48, 49, 50, 51, 52, 53, 54, 55, 56, 57]
set_option maxRecDepth 10000 in
theorem cs10_dig (c : UInt8) : cs10.contains c = isDig c := by
  have h : ∀ n : Fin 256, cs10.contains (UInt8.ofNat n.val) = isDig (UInt8.ofNat n.val) := by decide
  have := h ⟨c.toNat, c.toNat_lt⟩
  rwa [UInt8.ofNat_toNat] at this
theorem dropWhile_nil {α : Type} (p : α → Bool) (l : List α) : l.dropWhile p = [] ↔ l.all p = true := by
  induction l with
  | nil => simp
  | cons a t ih => by_cases h : p a = true <;> simp [List.dropWhile, h, ih]
theorem trimS_nil (l cs : List UInt8) : Lib.trimS l cs = [] ↔ l.all (cs.contains ·) = true := by
  unfold Lib.trimS Lib.trimLeftS Lib.trimRightS
  rw [dropWhile_nil]
  constructor
  · intro h
    by_cases h0 : l.all (cs.contains ·) = true
    · exact h0
    · exfalso
      have h1 : (l.reverse.dropWhile (cs.contains ·)) ≠ [] := fun e => h0 (by rw [dropWhile_nil] at e; rwa [List.all_reverse] at e)
      obtain ⟨a, t, ht⟩ := List.exists_cons_of_ne_nil h1
      have h2 := List.head_dropWhile_not (cs.contains ·) (l := l.reverse) h1
      rw [List.all_reverse] at h
      have h3 : cs.contains ((l.reverse.dropWhile (cs.contains ·)).head h1) = true := List.all_eq_true.1 h _ (List.head_mem h1)
      rw [h3] at h2
      cases h2
  · intro h
    rw [(dropWhile_nil _ _).2 (by rw [List.all_reverse]; exact h)]
    rfl

theorem Trim_any (s cutset : ByteArray) (w : World) (hs : s.size ≤ 9223372036854775807) (hcs : cutset.size < 4294967281) (hascii : cutset.data.toList.all (fun b => decide (b.toNat < 128)) = true) :
    Calls Tryz.prog 106 #[.string s, .string cutset] w fun e w' => ∃ D : ByteArray, e = .returned (.string D) ∧ D.data.toList = Lib.trimS s.data.toList cutset.data.toList ∧ Below w.heap.size w w' :=
  (Any.strings_Trim_laid Tryz.lays160 (by kernel_rfl) s cutset w hs hcs (ascii_of_all hascii)).mono fun e w' ⟨he, hb⟩ => ⟨_, he, by simp, hb⟩
theorem bytes_nil {D : ByteArray} (h : D.data.toList = []) : D = ⟨#[]⟩ := by
  cases D with
  | mk a => simp at h; subst h; rfl

/-- One or more digits. -/
def digs (l : List UInt8) : Bool := !l.isEmpty && l.all isDig
theorem digits_any (s : ByteArray) (w : World) (hs : s.size ≤ 9223372036854775807) :
    Calls Tryz.prog 104 #[.string s] w fun e w' => e = .returned (.bool (digs s.data.toList)) ∧ Below w.heap.size w w' := by
  by_cases h0 : s.data.toList = []
  · obtain rfl := bytes_nil h0
    go_enter Tryz.func104, Tryz.ntmps104
    go_wp2_with fail
    go_ret
    exact ⟨rfl, (by repeat (first | exact Below.refl _ _ | with_reducible assumption | apply below_alloc | apply below_drewN | apply below_drew | refine below_set ?_ (by simp; try omega) _ | refine below_then ?_ (by with_reducible assumption)))⟩
  · have hne := toList_ne h0
    have H := Lib.hid (fun W => Trim_any s ⟨#[48, 49, 50, 51, 52, 53, 54, 55, 56, 57]⟩ W hs (by decide) (by decide))
    have hd : ∀ D : ByteArray, D.data.toList = Lib.trimS s.data.toList cs10 → D.toList.isEmpty = digs s.data.toList := by
      intro D hD
      have : digs s.data.toList = s.data.toList.all isDig := by
        generalize s.data.toList = l at h0
        unfold digs
        cases l with
        | nil => exact absurd rfl h0
        | cons a t => simp
      rw [this, ← (List.all_congr (p := (cs10.contains ·)) (q := isDig) rfl (fun a => cs10_dig a)), ByteArray.toList_eq, hD]
      rw [Bool.eq_iff_iff, ← trimS_nil, List.isEmpty_iff]
    have Hd := Lib.hid hd
    have hE : s.toList.isEmpty = false := by rw [ByteArray.toList_eq]; cases h : s.data.toList with
      | nil => exact absurd h h0
      | cons a t => rfl
    clear hd
    generalize digs s.data.toList = r at Hd
    go_enter Tryz.func104, Tryz.ntmps104
    go_wp2_with fail
    refine (H.out _).mono ?_
    rintro e w1 ⟨D, rfl, hD, hb⟩
    have B1 := Lib.hid (below_then (w := w) (by repeat (first | exact Below.refl _ _ | with_reducible assumption | apply below_alloc | apply below_drewN | apply below_drew | refine below_set ?_ (by simp; try omega) _ | refine below_then ?_ (by with_reducible assumption))) hb)
    have hD := Hd.out D hD
    clear hb Hd H
    go_wp2_with fail
    go_ret
    exact ⟨rfl, B1.out⟩
end Go.Proofs.YtpifbaiibhaklaaGreatDoor
namespace Go.Proofs.YtpifbaiibhaklaaGreatDoor
open Go.RowKit Big
set_option maxHeartbeats 400000
set_option linter.unusedVariables false
set_option linter.unusedSimpArgs false

/-- What reading a text answers: the rational and the error. -/
def readR (most : Nat) (l : List UInt8) : Rat × Int :=
  if most < l.length then (0, 5)
  else if digs (Lib.trimPrefix (Lib.cut l [47]).1 [45]) = false ∨ ((Lib.cut l [47]).2.2 = true ∧ digs (Lib.cut l [47]).2.1 = false) then (0, 14)
  else if (Lib.cut l [47]).2.2 = true ∧ Lib.trimB (Lib.cut l [47]).2.1 48 = [] then (0, 19)
  else if (parseZ (Lib.cut l [47]).1).2 ≠ 0 then (0, 3)
  else if (Lib.cut l [47]).2.2 = false then (((parseZ (Lib.cut l [47]).1).1 : Rat), 0)
  else if (parseZ (Lib.cut l [47]).2.1).2 ≠ 0 ∨ (parseZ (Lib.cut l [47]).2.1).1 = 1 ∨ Int.gcd (parseZ (Lib.cut l [47]).1).1 (parseZ (Lib.cut l [47]).2.1).1 ≠ 1 then (0, 3)
  else (Rat.divInt (parseZ (Lib.cut l [47]).1).1 (parseZ (Lib.cut l [47]).2.1).1, 0)
/-- The call hands back a rational and an error. -/
def RetRat2 (base : Nat) (w : World) (q : Rat) (er : Int) (e : Ending) (w' : World) : Prop := ∃ m : MR, e = .returned (.tuple #[.agg #[.bool m.a.p, .slice m.a.A m.a.n m.a.c, .bool m.b.p, .slice m.b.A m.b.n m.b.c], .int .i64 er]) ∧ IsRat base w' m q ∧ Below w.heap.size w w'
theorem IsRat.zero (base : Nat) (w : World) : IsRat base w ⟨⟨false, none, 0, 0⟩, ⟨false, none, 0, 0⟩⟩ 0 := ⟨IsInt.zero _ _, 0, IsInt.zero _ _, .inr ⟨rfl, rfl⟩⟩
def noSlash (l : List UInt8) : Prop := Lib.index l [47] < 0
theorem cut_noSlash {l : List UInt8} (h : noSlash l) : Lib.cut l [47] = (l, [], false) := by
  unfold Lib.cut
  rw [if_neg (by unfold noSlash at h; omega)]
theorem Cut_w (s : ByteArray) (w : World) (hg : Good w) (hs : s.size ≤ 4000000000) (h : noSlash s.data.toList) :
    Calls Tryz.prog 103 #[.string s, .string ⟨#[47]⟩] w fun e w' => e = .returned (.tuple #[.string s, .string ⟨#[]⟩, .bool false]) ∧ Below w.heap.size w w' := by
  obtain ⟨m, hm⟩ := hg.maxLen
  refine (Tryz.strings_Cut s ⟨#[47]⟩ m w (by omega) hm).mono fun e w' ⟨he, n, hw⟩ => ?_
  rw [show (⟨#[47]⟩ : ByteArray).data.toList = [47] from rfl, cut_noSlash h] at he
  exact ⟨he, by rw [hw]; exact below_drewN (Below.refl _ _) n⟩
theorem TrimMinus_any (s : ByteArray) (w : World) :
    Calls Tryz.prog 105 #[.string s, .string ⟨#[45]⟩] w fun e w' => ∃ D : ByteArray, e = .returned (.string D) ∧ D.data.toList = Lib.trimPrefix s.data.toList [45] ∧ w' = w :=
  (Tryz.strings_TrimPrefix s ⟨#[45]⟩ w).mono fun e w' ⟨he, hw⟩ => ⟨_, he, by simp, hw⟩
theorem trimPrefix_le (l p : List UInt8) : (Lib.trimPrefix l p).length ≤ l.length := by
  unfold Lib.trimPrefix
  split
  · rw [List.length_drop]; omega
  · exact Nat.le_refl _

theorem read_w (base most : Nat) (s : ByteArray) (w : World) (hB : base ≤ w.heap.size) (hg : Good w) (hs : s.size ≤ 4000000000) (hm : most ≤ 65536) (hn : noSlash s.data.toList) :
    Calls Tryz.prog 88 #[.string s, .int .i64 most] w (RetRat2 base w (readR most s.data.toList).1 (readR most s.data.toList).2) := by
  have H1 := Lib.hid (fun W (hW : Below w.heap.size w W) => Cut_w s W (hg.below hW) hs hn)
  have hl : s.data.toList.length = s.size := by rw [Lib.size_eq]
  unfold readR
  rw [cut_noSlash hn, hl]
  dsimp only
  clear hn
  by_cases hlen : most < s.size
  · rw [if_pos hlen]
    have hd : decide (most < s.size) = true := decide_eq_true hlen
    clear hl
    go_enter Tryz.func88, Tryz.ntmps88
    go_wp2_with fail
    refine (H1.out _ (by repeat (first | exact Below.refl _ _ | with_reducible assumption | apply below_alloc | apply below_drewN | apply below_drew | refine below_set ?_ (by simp; try omega) _ | refine below_then ?_ (by with_reducible assumption)))).mono ?_
    rintro e w1 ⟨rfl, hb⟩
    have r0 := keptc hb (w.heap.size) 0 (.bool false) (by first | with_reducible assumption | (simp [go_sem]; done)); have r1 := keptc hb (w.heap.size) 1 (.slice none 0 0) (by first | with_reducible assumption | (simp [go_sem]; done)); have r2 := keptc hb (w.heap.size) 2 (.bool false) (by first | with_reducible assumption | (simp [go_sem]; done)); have r3 := keptc hb (w.heap.size) 3 (.slice none 0 0) (by first | with_reducible assumption | (simp [go_sem]; done)); have fr0 := keptF hb (g := w.heap.size) (o := 0) (v := .bool false) (by first | with_reducible assumption | (simp [go_sem]; done)) (by first | with_reducible assumption | (simp [go_sem]; done)); have fr1 := keptF hb (g := w.heap.size) (o := 1) (v := .slice none 0 0) (by first | with_reducible assumption | (simp [go_sem]; done)) (by first | with_reducible assumption | (simp [go_sem]; done)); have fr2 := keptF hb (g := w.heap.size) (o := 2) (v := .bool false) (by first | with_reducible assumption | (simp [go_sem]; done)) (by first | with_reducible assumption | (simp [go_sem]; done)); have fr3 := keptF hb (g := w.heap.size) (o := 3) (v := .slice none 0 0) (by first | with_reducible assumption | (simp [go_sem]; done)) (by first | with_reducible assumption | (simp [go_sem]; done)); have Tr := Lib.hid (keptT hb (g := w.heap.size) (o := 0) (v := .bool false) (by first | with_reducible assumption | (simp [go_sem]; done)) (e := 90) (by first | with_reducible assumption | exact Hid.out (by with_reducible assumption) | (simp [typ_alloc, typ_drewN, typ_drew, otyp_cells]; done)))
    have B1 := Lib.hid (below_then (w := w) (by repeat (first | exact Below.refl _ _ | with_reducible assumption | apply below_alloc | apply below_drewN | apply below_drew | refine below_set ?_ (by simp; try omega) _ | refine below_then ?_ (by with_reducible assumption))) hb)
    clear hb
    go_wp2_with fail
    refine bodyPost_ret (v := .tuple #[.agg #[.bool false, .slice none 0 0, .bool false, .slice none 0 0], .int .i64 5]) (by simp [results, Tryz.results88, go_sem, r0, r1, r2, r3]) rfl ⟨⟨⟨false, none, 0, 0⟩, ⟨false, none, 0, 0⟩⟩, rfl, IsRat.zero _ _, ?_⟩
    exact below_set (below_set (below_set (below_set B1.out (by simp; try omega) _) (by simp; try omega) _) (by simp; try omega) _) (by simp; try omega) _
  · rw [if_neg hlen]
    have hd : decide (most < s.size) = false := decide_eq_false hlen
    have H2 := Lib.hid (fun W => TrimMinus_any s W)
    have H3 := Lib.hid (fun W (D : ByteArray) (hD : D.data.toList = Lib.trimPrefix s.data.toList [45]) => digits_any D W (by
      have := trimPrefix_le s.data.toList [45]
      rw [Lib.size_eq, hD]
      omega))
    have H4 := Lib.hid (fun W (hW : Below w.heap.size w W) => Parse_any base s W (Nat.le_trans hB hW.size) (by omega))
    clear hl hlen
    simp only [Bool.false_eq_true, false_and, or_false, if_false]
    generalize parseZ s.data.toList = pz at H4
    obtain ⟨z, er⟩ := pz
    dsimp only at H4 ⊢
    by_cases hdg : digs (Lib.trimPrefix s.data.toList [45]) = false
    · rw [if_pos hdg]
      have Hd := Lib.hid hdg
      clear hdg H4
      go_enter Tryz.func88, Tryz.ntmps88
      go_wp2_with fail
      refine (H1.out _ (by repeat (first | exact Below.refl _ _ | with_reducible assumption | apply below_alloc | apply below_drewN | apply below_drew | refine below_set ?_ (by simp; try omega) _ | refine below_then ?_ (by with_reducible assumption)))).mono ?_
      rintro e w1 ⟨rfl, hb⟩
      have r0 := keptc hb (w.heap.size) 0 (.bool false) (by first | with_reducible assumption | (simp [go_sem]; done)); have r1 := keptc hb (w.heap.size) 1 (.slice none 0 0) (by first | with_reducible assumption | (simp [go_sem]; done)); have r2 := keptc hb (w.heap.size) 2 (.bool false) (by first | with_reducible assumption | (simp [go_sem]; done)); have r3 := keptc hb (w.heap.size) 3 (.slice none 0 0) (by first | with_reducible assumption | (simp [go_sem]; done)); have fr0 := keptF hb (g := w.heap.size) (o := 0) (v := .bool false) (by first | with_reducible assumption | (simp [go_sem]; done)) (by first | with_reducible assumption | (simp [go_sem]; done)); have fr1 := keptF hb (g := w.heap.size) (o := 1) (v := .slice none 0 0) (by first | with_reducible assumption | (simp [go_sem]; done)) (by first | with_reducible assumption | (simp [go_sem]; done)); have fr2 := keptF hb (g := w.heap.size) (o := 2) (v := .bool false) (by first | with_reducible assumption | (simp [go_sem]; done)) (by first | with_reducible assumption | (simp [go_sem]; done)); have fr3 := keptF hb (g := w.heap.size) (o := 3) (v := .slice none 0 0) (by first | with_reducible assumption | (simp [go_sem]; done)) (by first | with_reducible assumption | (simp [go_sem]; done)); have Tr := Lib.hid (keptT hb (g := w.heap.size) (o := 0) (v := .bool false) (by first | with_reducible assumption | (simp [go_sem]; done)) (e := 90) (by first | with_reducible assumption | exact Hid.out (by with_reducible assumption) | (simp [typ_alloc, typ_drewN, typ_drew, otyp_cells]; done)))
      have B1 := Lib.hid (below_then (w := w) (by repeat (first | exact Below.refl _ _ | with_reducible assumption | apply below_alloc | apply below_drewN | apply below_drew | refine below_set ?_ (by simp; try omega) _ | refine below_then ?_ (by with_reducible assumption))) hb)
      clear hb
      go_wp2_with fail
      refine (H2.out _).mono ?_
      rintro e w2 ⟨D, rfl, hD, rfl⟩
      go_wp2_with fail
      have h3 := fun W => H3.out W D hD
      rw [hD, Hd.out] at h3
      clear hD
      refine (h3 _).mono ?_
      rintro e w3 ⟨rfl, hb⟩
      have q0 := keptc hb (w.heap.size) 0 (.bool false) (by first | with_reducible assumption | (simp [go_sem]; done)); have q1 := keptc hb (w.heap.size) 1 (.slice none 0 0) (by first | with_reducible assumption | (simp [go_sem]; done)); have q2 := keptc hb (w.heap.size) 2 (.bool false) (by first | with_reducible assumption | (simp [go_sem]; done)); have q3 := keptc hb (w.heap.size) 3 (.slice none 0 0) (by first | with_reducible assumption | (simp [go_sem]; done)); have fq0 := keptF hb (g := w.heap.size) (o := 0) (v := .bool false) (by first | with_reducible assumption | (simp [go_sem]; done)) (by first | with_reducible assumption | (simp [go_sem]; done)); have fq1 := keptF hb (g := w.heap.size) (o := 1) (v := .slice none 0 0) (by first | with_reducible assumption | (simp [go_sem]; done)) (by first | with_reducible assumption | (simp [go_sem]; done)); have fq2 := keptF hb (g := w.heap.size) (o := 2) (v := .bool false) (by first | with_reducible assumption | (simp [go_sem]; done)) (by first | with_reducible assumption | (simp [go_sem]; done)); have fq3 := keptF hb (g := w.heap.size) (o := 3) (v := .slice none 0 0) (by first | with_reducible assumption | (simp [go_sem]; done)) (by first | with_reducible assumption | (simp [go_sem]; done)); have Tq := Lib.hid (keptT hb (g := w.heap.size) (o := 0) (v := .bool false) (by first | with_reducible assumption | (simp [go_sem]; done)) (e := 90) (by first | with_reducible assumption | exact Hid.out (by with_reducible assumption) | (simp [typ_alloc, typ_drewN, typ_drew, otyp_cells]; done)))
      have B3 := Lib.hid (below_then B1.out hb)
      clear hb h3
      go_wp2_with fail
      refine bodyPost_ret (v := .tuple #[.agg #[.bool false, .slice none 0 0, .bool false, .slice none 0 0], .int .i64 14]) (by simp [results, Tryz.results88, go_sem, q0, q1, q2, q3]) rfl ⟨⟨⟨false, none, 0, 0⟩, ⟨false, none, 0, 0⟩⟩, rfl, IsRat.zero _ _, ?_⟩
      exact below_set (below_set (below_set (below_set B3.out (by simp; try omega) _) (by simp; try omega) _) (by simp; try omega) _) (by simp; try omega) _
    · rw [if_neg hdg]
      have hdg : digs (Lib.trimPrefix s.data.toList [45]) = true := by simpa using hdg
      have Hd := Lib.hid hdg
      clear hdg
      by_cases her : er = 0
      · rw [if_neg (by simp [her])]
        subst her
        go_enter Tryz.func88, Tryz.ntmps88
        go_wp2_with fail
        refine (H1.out _ (by repeat (first | exact Below.refl _ _ | with_reducible assumption | apply below_alloc | apply below_drewN | apply below_drew | refine below_set ?_ (by simp; try omega) _ | refine below_then ?_ (by with_reducible assumption)))).mono ?_
        rintro e w1 ⟨rfl, hb⟩
        have r0 := keptc hb (w.heap.size) 0 (.bool false) (by first | with_reducible assumption | (simp [go_sem]; done)); have r1 := keptc hb (w.heap.size) 1 (.slice none 0 0) (by first | with_reducible assumption | (simp [go_sem]; done)); have r2 := keptc hb (w.heap.size) 2 (.bool false) (by first | with_reducible assumption | (simp [go_sem]; done)); have r3 := keptc hb (w.heap.size) 3 (.slice none 0 0) (by first | with_reducible assumption | (simp [go_sem]; done)); have fr0 := keptF hb (g := w.heap.size) (o := 0) (v := .bool false) (by first | with_reducible assumption | (simp [go_sem]; done)) (by first | with_reducible assumption | (simp [go_sem]; done)); have fr1 := keptF hb (g := w.heap.size) (o := 1) (v := .slice none 0 0) (by first | with_reducible assumption | (simp [go_sem]; done)) (by first | with_reducible assumption | (simp [go_sem]; done)); have fr2 := keptF hb (g := w.heap.size) (o := 2) (v := .bool false) (by first | with_reducible assumption | (simp [go_sem]; done)) (by first | with_reducible assumption | (simp [go_sem]; done)); have fr3 := keptF hb (g := w.heap.size) (o := 3) (v := .slice none 0 0) (by first | with_reducible assumption | (simp [go_sem]; done)) (by first | with_reducible assumption | (simp [go_sem]; done)); have Tr := Lib.hid (keptT hb (g := w.heap.size) (o := 0) (v := .bool false) (by first | with_reducible assumption | (simp [go_sem]; done)) (e := 90) (by first | with_reducible assumption | exact Hid.out (by with_reducible assumption) | (simp [typ_alloc, typ_drewN, typ_drew, otyp_cells]; done)))
        have B1 := Lib.hid (below_then (w := w) (by repeat (first | exact Below.refl _ _ | with_reducible assumption | apply below_alloc | apply below_drewN | apply below_drew | refine below_set ?_ (by simp; try omega) _ | refine below_then ?_ (by with_reducible assumption))) hb)
        clear hb
        go_wp2_with fail
        refine (H2.out _).mono ?_
        rintro e w2 ⟨D, rfl, hD, rfl⟩
        go_wp2_with fail
        have h3 := fun W => H3.out W D hD
        rw [hD, Hd.out] at h3
        clear hD
        refine (h3 _).mono ?_
        rintro e w3 ⟨rfl, hb⟩
        have q0 := keptc hb (w.heap.size) 0 (.bool false) (by first | with_reducible assumption | (simp [go_sem]; done)); have q1 := keptc hb (w.heap.size) 1 (.slice none 0 0) (by first | with_reducible assumption | (simp [go_sem]; done)); have q2 := keptc hb (w.heap.size) 2 (.bool false) (by first | with_reducible assumption | (simp [go_sem]; done)); have q3 := keptc hb (w.heap.size) 3 (.slice none 0 0) (by first | with_reducible assumption | (simp [go_sem]; done)); have fq0 := keptF hb (g := w.heap.size) (o := 0) (v := .bool false) (by first | with_reducible assumption | (simp [go_sem]; done)) (by first | with_reducible assumption | (simp [go_sem]; done)); have fq1 := keptF hb (g := w.heap.size) (o := 1) (v := .slice none 0 0) (by first | with_reducible assumption | (simp [go_sem]; done)) (by first | with_reducible assumption | (simp [go_sem]; done)); have fq2 := keptF hb (g := w.heap.size) (o := 2) (v := .bool false) (by first | with_reducible assumption | (simp [go_sem]; done)) (by first | with_reducible assumption | (simp [go_sem]; done)); have fq3 := keptF hb (g := w.heap.size) (o := 3) (v := .slice none 0 0) (by first | with_reducible assumption | (simp [go_sem]; done)) (by first | with_reducible assumption | (simp [go_sem]; done)); have Tq := Lib.hid (keptT hb (g := w.heap.size) (o := 0) (v := .bool false) (by first | with_reducible assumption | (simp [go_sem]; done)) (e := 90) (by first | with_reducible assumption | exact Hid.out (by with_reducible assumption) | (simp [typ_alloc, typ_drewN, typ_drew, otyp_cells]; done)))
        have B3 := Lib.hid (below_then B1.out hb)
        clear hb h3
        go_wp2_with fail
        refine (H4.out _ B3.out).mono ?_
        rintro e w4 ⟨p', A', k', c', rfl, hi, hb⟩
        have t0 := keptc hb (w.heap.size) 0 (.bool false) (by first | with_reducible assumption | (simp [go_sem]; done)); have t1 := keptc hb (w.heap.size) 1 (.slice none 0 0) (by first | with_reducible assumption | (simp [go_sem]; done)); have t2 := keptc hb (w.heap.size) 2 (.bool false) (by first | with_reducible assumption | (simp [go_sem]; done)); have t3 := keptc hb (w.heap.size) 3 (.slice none 0 0) (by first | with_reducible assumption | (simp [go_sem]; done)); have ft0 := keptF hb (g := w.heap.size) (o := 0) (v := .bool false) (by first | with_reducible assumption | (simp [go_sem]; done)) (by first | with_reducible assumption | (simp [go_sem]; done)); have ft1 := keptF hb (g := w.heap.size) (o := 1) (v := .slice none 0 0) (by first | with_reducible assumption | (simp [go_sem]; done)) (by first | with_reducible assumption | (simp [go_sem]; done)); have ft2 := keptF hb (g := w.heap.size) (o := 2) (v := .bool false) (by first | with_reducible assumption | (simp [go_sem]; done)) (by first | with_reducible assumption | (simp [go_sem]; done)); have ft3 := keptF hb (g := w.heap.size) (o := 3) (v := .slice none 0 0) (by first | with_reducible assumption | (simp [go_sem]; done)) (by first | with_reducible assumption | (simp [go_sem]; done)); have Tt := Lib.hid (keptT hb (g := w.heap.size) (o := 0) (v := .bool false) (by first | with_reducible assumption | (simp [go_sem]; done)) (e := 90) (by first | with_reducible assumption | exact Hid.out (by with_reducible assumption) | (simp [typ_alloc, typ_drewN, typ_drew, otyp_cells]; done)))
        have Tr := Tt
        have B4 := Lib.hid (below_then B3.out hb)
        have I4 := Lib.hid hi
        have n4 : w.heap.size < w4.heap.size := World.block_lt_of_cell? w4 _ t0
        have n5 : ¬ w.heap.size = w4.heap.size := Nat.ne_of_lt n4
        have n6 : ¬ w4.heap.size = w.heap.size := Nat.ne_of_gt n4
        clear hb hi
        go_wp2_with fail
        refine bodyPost_ret (v := .tuple #[.agg #[.bool p', .slice A' k' c', .bool false, .slice none 0 0], .int .i64 0]) (by simp [results, Tryz.results88, go_sem, t0, t1, t2, t3, n4, n5, n6]) rfl ⟨⟨⟨p', A', k', c'⟩, ⟨false, none, 0, 0⟩⟩, rfl, ⟨?_, 0, IsInt.zero _ _, .inr ⟨rfl, Rat.den_intCast _⟩⟩, ?_⟩
        · rw [Rat.num_intCast]
          exact I4.out.keeps (by repeat (first | exact Keeps.refl _ _ _ | apply Keeps.alloc | apply Keeps.drewN | apply Keeps.drew | refine Keeps.set ?_ (by simp; try omega) (by first | (simp [T1.out]; done) | (simp [Tr.out]; done)) _))
        · exact below_alloc (below_set (below_set (below_set (below_set B4.out (by simp; try omega) _) (by simp; try omega) _) (by simp; try omega) _) (by simp; try omega) _)
      · rw [if_pos (by simpa using her)]
        have hne : (er == 0) = false := by simpa using her
        have hne2 : ¬ er = 0 := her
        go_enter Tryz.func88, Tryz.ntmps88
        go_wp2_with fail
        refine (H1.out _ (by repeat (first | exact Below.refl _ _ | with_reducible assumption | apply below_alloc | apply below_drewN | apply below_drew | refine below_set ?_ (by simp; try omega) _ | refine below_then ?_ (by with_reducible assumption)))).mono ?_
        rintro e w1 ⟨rfl, hb⟩
        have r0 := keptc hb (w.heap.size) 0 (.bool false) (by first | with_reducible assumption | (simp [go_sem]; done)); have r1 := keptc hb (w.heap.size) 1 (.slice none 0 0) (by first | with_reducible assumption | (simp [go_sem]; done)); have r2 := keptc hb (w.heap.size) 2 (.bool false) (by first | with_reducible assumption | (simp [go_sem]; done)); have r3 := keptc hb (w.heap.size) 3 (.slice none 0 0) (by first | with_reducible assumption | (simp [go_sem]; done)); have fr0 := keptF hb (g := w.heap.size) (o := 0) (v := .bool false) (by first | with_reducible assumption | (simp [go_sem]; done)) (by first | with_reducible assumption | (simp [go_sem]; done)); have fr1 := keptF hb (g := w.heap.size) (o := 1) (v := .slice none 0 0) (by first | with_reducible assumption | (simp [go_sem]; done)) (by first | with_reducible assumption | (simp [go_sem]; done)); have fr2 := keptF hb (g := w.heap.size) (o := 2) (v := .bool false) (by first | with_reducible assumption | (simp [go_sem]; done)) (by first | with_reducible assumption | (simp [go_sem]; done)); have fr3 := keptF hb (g := w.heap.size) (o := 3) (v := .slice none 0 0) (by first | with_reducible assumption | (simp [go_sem]; done)) (by first | with_reducible assumption | (simp [go_sem]; done)); have Tr := Lib.hid (keptT hb (g := w.heap.size) (o := 0) (v := .bool false) (by first | with_reducible assumption | (simp [go_sem]; done)) (e := 90) (by first | with_reducible assumption | exact Hid.out (by with_reducible assumption) | (simp [typ_alloc, typ_drewN, typ_drew, otyp_cells]; done)))
        have B1 := Lib.hid (below_then (w := w) (by repeat (first | exact Below.refl _ _ | with_reducible assumption | apply below_alloc | apply below_drewN | apply below_drew | refine below_set ?_ (by simp; try omega) _ | refine below_then ?_ (by with_reducible assumption))) hb)
        clear hb
        go_wp2_with fail
        refine (H2.out _).mono ?_
        rintro e w2 ⟨D, rfl, hD, rfl⟩
        go_wp2_with fail
        have h3 := fun W => H3.out W D hD
        rw [hD, Hd.out] at h3
        clear hD
        refine (h3 _).mono ?_
        rintro e w3 ⟨rfl, hb⟩
        have q0 := keptc hb (w.heap.size) 0 (.bool false) (by first | with_reducible assumption | (simp [go_sem]; done)); have q1 := keptc hb (w.heap.size) 1 (.slice none 0 0) (by first | with_reducible assumption | (simp [go_sem]; done)); have q2 := keptc hb (w.heap.size) 2 (.bool false) (by first | with_reducible assumption | (simp [go_sem]; done)); have q3 := keptc hb (w.heap.size) 3 (.slice none 0 0) (by first | with_reducible assumption | (simp [go_sem]; done)); have fq0 := keptF hb (g := w.heap.size) (o := 0) (v := .bool false) (by first | with_reducible assumption | (simp [go_sem]; done)) (by first | with_reducible assumption | (simp [go_sem]; done)); have fq1 := keptF hb (g := w.heap.size) (o := 1) (v := .slice none 0 0) (by first | with_reducible assumption | (simp [go_sem]; done)) (by first | with_reducible assumption | (simp [go_sem]; done)); have fq2 := keptF hb (g := w.heap.size) (o := 2) (v := .bool false) (by first | with_reducible assumption | (simp [go_sem]; done)) (by first | with_reducible assumption | (simp [go_sem]; done)); have fq3 := keptF hb (g := w.heap.size) (o := 3) (v := .slice none 0 0) (by first | with_reducible assumption | (simp [go_sem]; done)) (by first | with_reducible assumption | (simp [go_sem]; done)); have Tq := Lib.hid (keptT hb (g := w.heap.size) (o := 0) (v := .bool false) (by first | with_reducible assumption | (simp [go_sem]; done)) (e := 90) (by first | with_reducible assumption | exact Hid.out (by with_reducible assumption) | (simp [typ_alloc, typ_drewN, typ_drew, otyp_cells]; done)))
        have B3 := Lib.hid (below_then B1.out hb)
        clear hb h3
        go_wp2_with fail
        refine (H4.out _ B3.out).mono ?_
        rintro e w4 ⟨p', A', k', c', rfl, hi, hb⟩
        have t0 := keptc hb (w.heap.size) 0 (.bool false) (by first | with_reducible assumption | (simp [go_sem]; done)); have t1 := keptc hb (w.heap.size) 1 (.slice none 0 0) (by first | with_reducible assumption | (simp [go_sem]; done)); have t2 := keptc hb (w.heap.size) 2 (.bool false) (by first | with_reducible assumption | (simp [go_sem]; done)); have t3 := keptc hb (w.heap.size) 3 (.slice none 0 0) (by first | with_reducible assumption | (simp [go_sem]; done)); have ft0 := keptF hb (g := w.heap.size) (o := 0) (v := .bool false) (by first | with_reducible assumption | (simp [go_sem]; done)) (by first | with_reducible assumption | (simp [go_sem]; done)); have ft1 := keptF hb (g := w.heap.size) (o := 1) (v := .slice none 0 0) (by first | with_reducible assumption | (simp [go_sem]; done)) (by first | with_reducible assumption | (simp [go_sem]; done)); have ft2 := keptF hb (g := w.heap.size) (o := 2) (v := .bool false) (by first | with_reducible assumption | (simp [go_sem]; done)) (by first | with_reducible assumption | (simp [go_sem]; done)); have ft3 := keptF hb (g := w.heap.size) (o := 3) (v := .slice none 0 0) (by first | with_reducible assumption | (simp [go_sem]; done)) (by first | with_reducible assumption | (simp [go_sem]; done)); have Tt := Lib.hid (keptT hb (g := w.heap.size) (o := 0) (v := .bool false) (by first | with_reducible assumption | (simp [go_sem]; done)) (e := 90) (by first | with_reducible assumption | exact Hid.out (by with_reducible assumption) | (simp [typ_alloc, typ_drewN, typ_drew, otyp_cells]; done)))
        have B4 := Lib.hid (below_then B3.out hb)
        have I4 := Lib.hid hi
        have n4 : w.heap.size < w4.heap.size := World.block_lt_of_cell? w4 _ t0
        have n5 : ¬ w.heap.size = w4.heap.size := Nat.ne_of_lt n4
        have n6 : ¬ w4.heap.size = w.heap.size := Nat.ne_of_gt n4
        clear hb hi
        go_wp2_with fail
        refine bodyPost_ret (v := .tuple #[.agg #[.bool false, .slice none 0 0, .bool false, .slice none 0 0], .int .i64 3]) (by simp [results, Tryz.results88, go_sem, t0, t1, t2, t3, n4, n5, n6]) rfl ⟨⟨⟨false, none, 0, 0⟩, ⟨false, none, 0, 0⟩⟩, rfl, IsRat.zero _ _, ?_⟩
        exact below_alloc (below_set (below_set (below_set (below_set B4.out (by simp; try omega) _) (by simp; try omega) _) (by simp; try omega) _) (by simp; try omega) _)

theorem Read_w (base : Nat) (s : ByteArray) (w : World) (hB : base ≤ w.heap.size) (hg : Good w) (hs : s.size ≤ 4000000000) (hn : noSlash s.data.toList) :
    Calls Tryz.prog 74 #[.string s] w (RetRat2 base w (readR 65536 s.data.toList).1 (readR 65536 s.data.toList).2) := by
  have H := Lib.hid (fun W (hW : Below w.heap.size w W) => read_w base 65536 s W (Nat.le_trans hB hW.size) (hg.below hW) hs (by decide) hn)
  generalize readR 65536 s.data.toList = r at H
  obtain ⟨q, er⟩ := r
  dsimp only at H ⊢
  go_enter Tryz.func74, Tryz.ntmps74
  go_wp2_with fail
  refine (H.out _ (by repeat (first | exact Below.refl _ _ | with_reducible assumption | apply below_alloc | apply below_drewN | apply below_drew | refine below_set ?_ (by simp; try omega) _ | refine below_then ?_ (by with_reducible assumption)))).mono ?_
  rintro e w1 ⟨m, rfl, hi, hb⟩
  have r0 := keptc hb (w.heap.size) 0 (.bool false) (by first | with_reducible assumption | (simp [go_sem]; done)); have r1 := keptc hb (w.heap.size) 1 (.slice none 0 0) (by first | with_reducible assumption | (simp [go_sem]; done)); have r2 := keptc hb (w.heap.size) 2 (.bool false) (by first | with_reducible assumption | (simp [go_sem]; done)); have r3 := keptc hb (w.heap.size) 3 (.slice none 0 0) (by first | with_reducible assumption | (simp [go_sem]; done)); have fr0 := keptF hb (g := w.heap.size) (o := 0) (v := .bool false) (by first | with_reducible assumption | (simp [go_sem]; done)) (by first | with_reducible assumption | (simp [go_sem]; done)); have fr1 := keptF hb (g := w.heap.size) (o := 1) (v := .slice none 0 0) (by first | with_reducible assumption | (simp [go_sem]; done)) (by first | with_reducible assumption | (simp [go_sem]; done)); have fr2 := keptF hb (g := w.heap.size) (o := 2) (v := .bool false) (by first | with_reducible assumption | (simp [go_sem]; done)) (by first | with_reducible assumption | (simp [go_sem]; done)); have fr3 := keptF hb (g := w.heap.size) (o := 3) (v := .slice none 0 0) (by first | with_reducible assumption | (simp [go_sem]; done)) (by first | with_reducible assumption | (simp [go_sem]; done)); have Tr := Lib.hid (keptT hb (g := w.heap.size) (o := 0) (v := .bool false) (by first | with_reducible assumption | (simp [go_sem]; done)) (e := 90) (by first | with_reducible assumption | exact Hid.out (by with_reducible assumption) | (simp [typ_alloc, typ_drewN, typ_drew, otyp_cells]; done)))
  have B1 := Lib.hid (below_then (w := w) (by repeat (first | exact Below.refl _ _ | with_reducible assumption | apply below_alloc | apply below_drewN | apply below_drew | refine below_set ?_ (by simp; try omega) _ | refine below_then ?_ (by with_reducible assumption))) hb)
  have I1 := Lib.hid hi
  clear hb hi
  go_wp2_with fail
  refine bodyPost_ret (v := .tuple #[.agg #[.bool m.a.p, .slice m.a.A m.a.n m.a.c, .bool m.b.p, .slice m.b.A m.b.n m.b.c], .int .i64 er]) (by simp [results, Tryz.results74, go_sem, r0, r1, r2, r3]) rfl ⟨m, rfl, I1.out.keeps (by repeat (first | exact Keeps.refl _ _ _ | apply Keeps.alloc | apply Keeps.drewN | apply Keeps.drew | refine Keeps.set ?_ (by simp; try omega) (by first | (simp [T1.out]; done) | (simp [Tr.out]; done)) _)), ?_⟩
  exact below_set (below_set (below_set (below_set B1.out (by simp; try omega) _) (by simp; try omega) _) (by simp; try omega) _) (by simp; try omega) _
end Go.Proofs.YtpifbaiibhaklaaGreatDoor
namespace Go.Proofs.YtpifbaiibhaklaaGreatDoor
open Go.RowKit Big
set_option maxHeartbeats 400000
set_option linter.unusedVariables false
set_option linter.unusedSimpArgs false

def cells4 (m : MR) : List Value := [.bool m.a.p, .slice m.a.A m.a.n m.a.c, .bool m.b.p, .slice m.b.A m.b.n m.b.c]
def zMR : MR := ⟨⟨false, none, 0, 0⟩, ⟨false, none, 0, 0⟩⟩
def rowR (ms : List MR) : List Value := ms.flatMap cells4
theorem rowR_length (ms : List MR) : (rowR ms).length = 4 * ms.length := by
  induction ms with
  | nil => rfl
  | cons m t ih => simp [rowR, cells4] at ih ⊢; omega
theorem rowR_at (ms : List MR) (i j : Nat) (hi : i < ms.length) (hj : j < 4) : (rowR ms)[4 * i + j]? = (cells4 ms[i])[j]? := by
  induction ms generalizing i with
  | nil => simp at hi
  | cons m t ih =>
    cases i with
    | zero =>
      rw [show rowR (m :: t) = cells4 m ++ rowR t from rfl, List.getElem?_append_left (by simp [cells4]; omega)]
      simp
    | succ i =>
      rw [show rowR (m :: t) = cells4 m ++ rowR t from rfl, List.getElem?_append_right (by simp [cells4]; omega)]
      rw [show 4 * (i + 1) + j - (cells4 m).length = 4 * i + j by simp [cells4]; omega]
      simpa using ih i (by simpa using hi)
theorem rowR_set (ms : List MR) (i : Nat) (m : MR) (hi : i < ms.length) :
    ((((rowR ms).set (4 * i) (.bool m.a.p)).set (4 * i + 1) (.slice m.a.A m.a.n m.a.c)).set (4 * i + 2) (.bool m.b.p)).set (4 * i + 3) (.slice m.b.A m.b.n m.b.c) = rowR (ms.set i m) := by
  induction ms generalizing i with
  | nil => simp at hi
  | cons k t ih =>
    cases i with
    | zero => rfl
    | succ i =>
      have := ih i (by simpa using hi)
      rw [show 4 * (i + 1) = 4 * i + 1 + 1 + 1 + 1 by omega]
      simp only [show rowR (k :: t) = .bool k.a.p :: .slice k.a.A k.a.n k.a.c :: .bool k.b.p :: .slice k.b.A k.b.n k.b.c :: rowR t from rfl, List.set_cons_succ]
      rw [show rowR (k :: t.set i m) = .bool k.a.p :: .slice k.a.A k.a.n k.a.c :: .bool k.b.p :: .slice k.b.A k.b.n k.b.c :: rowR (t.set i m) from rfl, ← this]
theorem rowR_at' (ms : List MR) (i j : Nat) (hi : i < ms.length) (hj : j < 4) : (rowR ms)[i * 4 + j]? = (cells4 ms[i])[j]? := by rw [Nat.mul_comm]; exact rowR_at ms i j hi hj
theorem rowR_set' (ms : List MR) (i : Nat) (m : MR) (hi : i < ms.length) :
    ((((rowR ms).set (i * 4) (.bool m.a.p)).set (i * 4 + 1) (.slice m.a.A m.a.n m.a.c)).set (i * 4 + 2) (.bool m.b.p)).set (i * 4 + 3) (.slice m.b.A m.b.n m.b.c) = rowR (ms.set i m) := by rw [Nat.mul_comm]; exact rowR_set ms i m hi
theorem info65 : (Tryz.prog.info? 90).map (fun i => (i.zero, i.size, i.bytes)) = some (some (.agg #[.bool false, .slice none 0 0, .bool false, .slice none 0 0]), 4, 64) := by kernel_rfl
theorem made_rat (n : Nat) : madeCells #[.bool false, .slice none 0 0, .bool false, .slice none 0 0] (n * 4) = (rowR (List.replicate n zMR)).toArray := by
  apply Array.ext'
  apply List.ext_getElem?
  intro k
  rcases Nat.lt_or_ge k (4 * n) with hk | hk
  · obtain ⟨i, j, rfl, hj⟩ : ∃ i j, k = 4 * i + j ∧ j < 4 := ⟨k / 4, k % 4, by omega, by omega⟩
    rw [rowR_at _ i j (by simp; omega) hj]
    rw [List.getElem_replicate]
    have : (4 * i + j) % 4 = j := by omega
    simp [madeCells, this]
    have : j = 0 ∨ j = 1 ∨ j = 2 ∨ j = 3 := by omega
    rw [List.getElem?_range (by omega)]
    rcases this with rfl | rfl | rfl | rfl <;> simp [cells4, zMR] <;> omega
  · rw [List.getElem?_eq_none (by simp [madeCells]; omega), List.getElem?_eq_none (by rw [rowR_length]; simp; omega)]
theorem make_rat (n : Nat) (hn : n ≤ 1000000) (W : World) :
    (Instr.makeSlice 106 (.int .i64 (n : Int)) (.int .i64 (n : Int))).run Tryz.prog W = .ok (.slice (some ⟨W.heap.size, 0, none⟩) n n) (W.alloc (.cells (rowR (List.replicate n zMR)).toArray 90)) := by
  obtain ⟨i0, hi, hzz⟩ := Option.map_eq_some_iff.1 info65
  simp only [Prod.mk.injEq] at hzz
  obtain ⟨hz0, hz1, hz2⟩ := hzz
  have h := run_make W 106 90 i0 _ Tryz.underlying106 hi hz0 .i64 .i64 n n (by omega) (by omega) (by rw [hz2]; omega) (by omega)
  rw [hz1] at h
  rw [h, ← made_rat]
  rfl

/-- A block of the call's own that holds cells. -/
def RowB (t : TypeId) (w : World) (g : Nat) (cs : List Value) : Prop := w.heap[g]? = some (.cells cs.toArray t (0, 0))
section
variable {t : TypeId} {w w' : World} {g : Nat} {cs : List Value}
theorem RowB.cell (h : RowB t w g cs) {k : Nat} {v : Value} (hk : cs[k]? = some v) : w.cell? ⟨g, k, none⟩ = some v := by
  unfold RowB at h
  simpa [World.cell?, h] using hk
theorem RowB.frozen (h : RowB t w g cs) (i : Nat) : w.frozen? ⟨g, i, none⟩ = false := by
  unfold RowB at h
  simp [World.frozen?, h]
theorem RowB.set (h : RowB t w g cs) (i : Nat) (v : Value) : RowB t (w.setCell ⟨g, i, none⟩ v) g (cs.set i v) := by
  unfold RowB at h ⊢
  simp [World.setCell, Array.getElem?_modify, h]
theorem RowB.lt (h : RowB t w g cs) : g < w.heap.size := (Array.getElem?_eq_some_iff.1 h).1
theorem RowB.typ (h : RowB t w g cs) : Go.Proofs.YtpifbaiibhaklaaGreatDoor.typ w g = some t := by unfold RowB at h; simp [Go.Proofs.YtpifbaiibhaklaaGreatDoor.typ, h, otyp]
theorem RowB.below (h : RowB t w g cs) (hb : Below w.heap.size w w') : RowB t w' g cs := (hb.block g h.lt).trans h
theorem RowB.reads (h : RowB t w g cs) (base : Nat) : Go.Proofs.YtpifbaiibhaklaaGreatDoor.Reads base t w (some ⟨g, 0, none⟩) cs :=
  .inr ⟨_, rfl, .inr h.typ, fun j u hu => by rw [add_plain]; exact h.cell hu⟩
theorem RowB.new (t : TypeId) (W : World) (cs : List Value) : RowB t (W.alloc (.cells cs.toArray t)) W.heap.size cs := heap_alloc_new W _
end
/-- Reading a list of texts. -/
def readsR (most : Nat) (ls : List (List UInt8)) : List Rat × Int :=
  match ls.find? (fun l => (readR most l).2 != 0) with
  | some l => ([], (readR most l).2)
  | none => (ls.map (fun l => (readR most l).1), 0)
/-- A slice of rationals. -/
def IsRats (base : Nat) (w : World) (A : Option Addr) (n : Nat) (qs : List Rat) : Prop :=
  ∃ ms : List MR, ms.length = n ∧ qs.length = n ∧ Reads base 90 w A (rowR ms) ∧ ∀ i, i < n → IsRat base w (ms.getD i zMR) (qs.getD i 0)
theorem IsRats.below {base : Nat} {w w' : World} {A : Option Addr} {n : Nat} {qs : List Rat} (h : IsRats base w A n qs) (hb : Below w.heap.size w w') : IsRats base w' A n qs := by
  obtain ⟨ms, h1, h2, h3, h4⟩ := h
  exact ⟨ms, h1, h2, h3.below hb, fun i hi => (h4 i hi).below hb⟩
/-- A slice of strings. -/
structure IsStrs (base : Nat) (t : TypeId) (w : World) (A : Option Addr) (n c : Nat) (ss : List ByteArray) : Prop where
  len : ss.length = n
  cap : n ≤ c
  reads : Reads base t w A (strs ss)
theorem IsStrs.below {base : Nat} {t : TypeId} {w w' : World} {A : Option Addr} {n c : Nat} {ss : List ByteArray} (h : IsStrs base t w A n c ss) (hb : Below w.heap.size w w') : IsStrs base t w' A n c ss := ⟨h.len, h.cap, h.reads.below hb⟩
theorem IsStrs.at_ {base : Nat} {t : TypeId} {w : World} {A : Option Addr} {n c : Nat} {ss : List ByteArray} (h : IsStrs base t w A n c ss) (i : Nat) (hi : i < n) : ∃ ad, A = some ad ∧ w.cell? (ad.add i) = some (.string (ss.getD i ⟨#[]⟩)) := by
  have hl : i < ss.length := by have := h.len; omega
  obtain ⟨ad, e, hc⟩ := h.reads.at_ i (by simp [strs]; exact hl)
  exact ⟨ad, e, by rw [hc]; simp [strs, List.getD_eq_getElem?_getD, List.getElem?_eq_getElem hl]⟩
def RetRats (base : Nat) (w : World) (r : List Rat × Int) (e : Ending) (w' : World) : Prop := ∃ A n c, e = .returned (.tuple #[.slice A n c, .int .i64 r.2]) ∧ IsRats base w' A n r.1 ∧ n ≤ c ∧ Below w.heap.size w w'

theorem find_none_of {α : Type} (p : α → Bool) (l : List α) (d : α) (h : ∀ k, k < l.length → p (l.getD k d) = false) : l.find? p = none := by
  rw [List.find?_eq_none]
  intro x hx
  obtain ⟨k, hk, rfl⟩ := List.getElem_of_mem hx
  have := h k hk
  rw [List.getD_eq_getElem?_getD, List.getElem?_eq_getElem hk] at this
  simpa using this
theorem find_first {α : Type} (p : α → Bool) (l : List α) (d : α) (i : Nat) (hi : i < l.length) (h : ∀ k, k < i → p (l.getD k d) = false) (hp : p (l.getD i d) = true) : l.find? p = some (l.getD i d) := by
  induction l generalizing i with
  | nil => simp at hi
  | cons a t ih =>
    cases i with
    | zero => simp at hp ⊢; exact .inl hp
    | succ i =>
      have h0 : p a = false := by simpa using h 0 (by omega)
      rw [List.find?_cons_of_neg (by simp [h0])]
      simpa using ih i (by simpa using hi) (fun k hk => by simpa using h (k + 1) (by omega)) (by simpa using hp)

theorem all_w (base b2 : Nat) (A : Option Addr) (n c : Nat) (ss : List ByteArray) (w : World) (hB : base ≤ w.heap.size) (hg : Good w) (hn : n ≤ 1000000) (h : IsStrs b2 48 w A n c ss)
    (hs : ∀ i, i < n → (ss.getD i ⟨#[]⟩).size ≤ 4000000000 ∧ noSlash (ss.getD i ⟨#[]⟩).data.toList) :
    Calls Tryz.prog 73 #[.slice A n c, .func (.func 74) #[] #[]] w (RetRats base w (readsR 65536 (ss.map (·.data.toList)))) := by
  have hmk := make_rat n hn
  have HS := Lib.hid (fun i (hi : i < n) W (hW : Below w.heap.size w W) => Read_w base (ss.getD i ⟨#[]⟩) W (Nat.le_trans hB hW.size) (hg.below hW) (hs i hi).1 (hs i hi).2)
  have hlen := Lib.hid h.len
  clear hs hg
  go_enter Tryz.func73, Tryz.ntmps73
  go_wp2_with fail
  clear hmk
  go_loopw [15] (fun q wr => ∃ (i : Nat) (qs : List Rat) (ms : List MR), i ≤ n ∧ q = .int .i64 (i : Int) ∧ Hid (qs.length = i) ∧ Hid (ms.length = i) ∧ RowB 90 wr w.heap.size (rowR (ms ++ List.replicate (n - i) zMR)) ∧
      Hid (∀ k, k < i → IsRat base wr (ms.getD k zMR) (qs.getD k 0) ∧ readR 65536 (ss.getD k ⟨#[]⟩).data.toList = (qs.getD k 0, 0)) ∧ Below w.heap.size w wr) (fun q _ => n - (intOf q).toNat)
  case atStart => exact ⟨0, [], [], Nat.zero_le _, rfl, Lib.hid rfl, Lib.hid rfl, by simpa using RowB.new 90 w _, Lib.hid (fun k hk => absurd hk (Nat.not_lt_zero _)), (by repeat (first | exact Below.refl _ _ | with_reducible assumption | apply below_alloc | apply below_drewN | apply below_drew | refine below_set ?_ (by simp; try omega) _ | refine below_then ?_ (by with_reducible assumption)))⟩
  case round =>
    obtain ⟨i, qs, ms, hi, rfl, hq, hm, hr, hk, hb⟩ := hrel
    have Hb := Lib.hid hb
    by_cases hlt : i < n
    · obtain ⟨a, ea, ha⟩ := (h.below hb).at_ i hlt
      subst ea
      have H1 := Lib.hid (HS.out i hlt)
      have Hr := Lib.hid hr
      clear hb hr HS
      go_wp2_with fail
      refine (H1.out _ Hb.out).mono ?_
      rintro e w1 ⟨m, rfl, hi1, hb1⟩
      have Hr1 := Lib.hid (Hr.out.below hb1)
      have hz : (ms ++ List.replicate (n - i) zMR)[i]? = some zMR := by
        rw [List.getElem?_append_right (by rw [hm.out]; exact Nat.le_refl _), hm.out, Nat.sub_self, List.getElem?_replicate, if_pos (by omega)]
      have hcl : ∀ j v, j < 4 → (cells4 zMR)[j]? = some v → w1.cell? ⟨w.heap.size, i * 4 + j, none⟩ = some v := fun j v hj hv => Hr1.out.cell (by
        obtain ⟨h1, h2⟩ := List.getElem?_eq_some_iff.1 hz
        rw [rowR_at' _ _ _ h1 hj, h2]; exact hv)
      have c0 : w1.cell? ⟨w.heap.size, i * 4, none⟩ = some (.bool false) := hcl 0 _ (by decide) rfl
      have c1 : w1.cell? ⟨w.heap.size, i * 4 + 1, none⟩ = some (.slice none 0 0) := hcl 1 _ (by decide) rfl
      have c2 : w1.cell? ⟨w.heap.size, i * 4 + 2, none⟩ = some (.bool false) := hcl 2 _ (by decide) rfl
      have c3 : w1.cell? ⟨w.heap.size, i * 4 + 3, none⟩ = some (.slice none 0 0) := hcl 3 _ (by decide) rfl
      have f0 := fun k => Hr1.out.frozen k
      clear hcl hz
      have I1 := Lib.hid hi1
      have Hb1 := Lib.hid (below_then Hb.out hb1)
      have Hk := Lib.hid (fun k hk' => (hk.out k hk').1.below hb1)
      clear hi1 hb1
      generalize hrd : readR 65536 (ss.getD i ⟨#[]⟩).data.toList = rd at H1 I1
      obtain ⟨q, er⟩ := rd
      have Hrd := Lib.hid hrd
      clear hrd
      dsimp only at H1 I1
      by_cases her : er = 0
      · subst her
        go_wp2_with fail
        go_roundw
        case rel =>
          refine ⟨i + 1, qs ++ [q], ms ++ [m], by omega, by go_num, Lib.hid (by simp [hq.out]), Lib.hid (by simp [hm.out]), ?_, Lib.hid (fun k hk' => ?_), below_set (below_set (below_set (below_set Hb1.out (by simp) _) (by simp) _) (by simp) _) (by simp) _⟩
          · have := (((Hr1.out.set (i * 4) (.bool m.a.p)).set (i * 4 + 1) (.slice m.a.A m.a.n m.a.c)).set (i * 4 + 2) (.bool m.b.p)).set (i * 4 + 3) (.slice m.b.A m.b.n m.b.c)
            rw [rowR_set' _ _ _ (by simp [hm.out]; omega)] at this
            rw [show (ms ++ List.replicate (n - i) zMR).set i m = (ms ++ [m]) ++ List.replicate (n - (i + 1)) zMR by
              rw [List.set_append_right _ _ (by rw [hm.out]; exact Nat.le_refl _), hm.out, Nat.sub_self, show n - i = (n - (i + 1)) + 1 by omega, List.replicate_succ, List.append_assoc]
              rfl] at this
            exact this
          · have hkeep : ∀ {z : MR} {p : Rat}, IsRat base w1 z p → IsRat base ((((w1.setCell ⟨w.heap.size, i * 4, none⟩ (.bool m.a.p)).setCell ⟨w.heap.size, i * 4 + 1, none⟩ (.slice m.a.A m.a.n m.a.c)).setCell ⟨w.heap.size, i * 4 + 2, none⟩ (.bool m.b.p)).setCell ⟨w.heap.size, i * 4 + 3, none⟩ (.slice m.b.A m.b.n m.b.c)) z p := fun hz => by
              have Tr := Lib.hid Hr1.out.typ
              exact hz.keeps (by repeat (first | exact Keeps.refl _ _ _ | apply Keeps.alloc | apply Keeps.drewN | apply Keeps.drew | refine Keeps.set ?_ (by simp; try omega) (by first | (simp [T1.out]; done) | (simp [Tr.out]; done)) _))
            rcases Nat.lt_or_ge k i with h' | h'
            · have e1 : (ms ++ [m]).getD k zMR = ms.getD k zMR := by simp [List.getD_eq_getElem?_getD, List.getElem?_append_left, hm.out, h']
              have e2 : (qs ++ [q]).getD k 0 = qs.getD k 0 := by simp [List.getD_eq_getElem?_getD, List.getElem?_append_left, hq.out, h']
              rw [e1, e2]
              exact ⟨hkeep (Hk.out k h'), (hk.out k h').2⟩
            · obtain rfl : k = i := by omega
              have e1 : (ms ++ [m]).getD k zMR = m := by simp [List.getD_eq_getElem?_getD, ← hm.out]
              have e2 : (qs ++ [q]).getD k 0 = q := by simp [List.getD_eq_getElem?_getD, ← hq.out]
              rw [e1, e2]
              exact ⟨hkeep I1.out, Hrd.out⟩
        case measure => simp [intOf]; omega
      · have hne : (er == 0) = false := by simpa using her
        have hne2 : ¬ er = 0 := her
        go_wp2_with fail
        go_ret2
        have hf := find_first (fun l => (readR 65536 l).2 != 0) (ss.map (·.data.toList)) [] i (by simp [hlen.out]; omega) (fun k hk' => by
          have := (hk.out k hk').2
          rw [List.getD_eq_getElem?_getD, List.getElem?_map]
          rw [List.getD_eq_getElem?_getD, List.getElem?_eq_getElem (by rw [hlen.out]; omega)] at this
          rw [List.getElem?_eq_getElem (by rw [hlen.out]; omega)]
          simp at this ⊢
          rw [this]) (by
          have := Hrd.out
          rw [List.getD_eq_getElem?_getD, List.getElem?_map]
          rw [List.getD_eq_getElem?_getD, List.getElem?_eq_getElem (by rw [hlen.out]; omega)] at this
          rw [List.getElem?_eq_getElem (by rw [hlen.out]; omega)]
          simp at this ⊢
          rw [this]; exact hne2)
        refine ⟨none, 0, 0, ?_, ⟨[], rfl, ?_, .inl rfl, fun i hi => absurd hi (Nat.not_lt_zero _)⟩, Nat.le_refl _, below_set (below_set (below_set (below_set Hb1.out (by simp) _) (by simp) _) (by simp) _) (by simp) _⟩
        · unfold readsR
          rw [hf]
          have e1 : (ss.map (·.data.toList)).getD i [] = (ss.getD i ⟨#[]⟩).data.toList := by
            rw [List.getD_eq_getElem?_getD, List.getElem?_map, List.getD_eq_getElem?_getD, List.getElem?_eq_getElem (by rw [hlen.out]; omega)]
            rfl
          dsimp only
          rw [e1, Hrd.out]
          rfl
        · unfold readsR
          rw [hf]
          rfl
    · obtain rfl : i = n := by omega
      have Hr := Lib.hid hr
      clear hb hr HS
      go_wp2_with fail
      go_ret2
      have hf := find_none_of (fun l => (readR 65536 l).2 != 0) (ss.map (·.data.toList)) [] (fun k hk' => by
        rw [List.length_map, hlen.out] at hk'
        have := (hk.out k hk').2
        rw [List.getD_eq_getElem?_getD, List.getElem?_map]
        rw [List.getD_eq_getElem?_getD, List.getElem?_eq_getElem (by rw [hlen.out]; omega)] at this
        rw [List.getElem?_eq_getElem (by rw [hlen.out]; omega)]
        simp at this ⊢
        rw [this])
      have e2 : readsR 65536 (ss.map (·.data.toList)) = (qs, 0) := by
        unfold readsR
        rw [hf]
        dsimp only
        congr 1
        apply List.ext_getElem (by simp [hlen.out, hq.out])
        intro k h1 h2
        have hq2 := hq.out
        rw [hq2] at h2
        have h2' : k < qs.length := by rw [hq2]; exact h2
        have h3 : k < ss.length := by rw [hlen.out]; exact h2
        have := (hk.out k h2).2
        rw [List.getD_eq_getElem?_getD, List.getD_eq_getElem?_getD, List.getElem?_eq_getElem h3, List.getElem?_eq_getElem h2'] at this
        simp at this ⊢
        rw [this]
      rw [e2]
      refine ⟨some ⟨w.heap.size, 0, none⟩, i, i, rfl, ⟨ms, hm.out, hq.out, ?_, fun k hk' => (hk.out k hk').1⟩, Nat.le_refl _, Hb.out⟩
      have := Hr.out.reads base
      simpa using this

theorem Reads_w (base b2 : Nat) (A : Option Addr) (n c : Nat) (ss : List ByteArray) (w : World) (hB : base ≤ w.heap.size) (hg : Good w) (hn : n ≤ 1000000) (h : IsStrs b2 48 w A n c ss)
    (hs : ∀ i, i < n → (ss.getD i ⟨#[]⟩).size ≤ 4000000000 ∧ noSlash (ss.getD i ⟨#[]⟩).data.toList) :
    Calls Tryz.prog 52 #[.slice A n c] w (RetRats base w (readsR 65536 (ss.map (·.data.toList)))) := by
  have H := Lib.hid (fun W (hW : Below w.heap.size w W) => all_w base b2 A n c ss W (Nat.le_trans hB hW.size) (hg.below hW) hn (h.below hW) hs)
  clear hg h hs
  generalize readsR 65536 (ss.map (·.data.toList)) = r at H
  obtain ⟨qs, er⟩ := r
  go_enter Tryz.func52, Tryz.ntmps52
  go_wp2_with fail
  refine (H.out _ (by repeat (first | exact Below.refl _ _ | with_reducible assumption | apply below_alloc | apply below_drewN | apply below_drew | refine below_set ?_ (by simp; try omega) _ | refine below_then ?_ (by with_reducible assumption)))).mono ?_
  rintro e w1 ⟨A', k', c', rfl, hi, hc, hb⟩
  have B1 := Lib.hid (below_then (w := w) (by repeat (first | exact Below.refl _ _ | with_reducible assumption | apply below_alloc | apply below_drewN | apply below_drew | refine below_set ?_ (by simp; try omega) _ | refine below_then ?_ (by with_reducible assumption))) hb)
  have I1 := Lib.hid hi
  clear hb hi
  go_wp2_with fail
  go_ret2
  exact ⟨A', k', c', rfl, I1.out, hc, B1.out⟩
end Go.Proofs.YtpifbaiibhaklaaGreatDoor
namespace Go.Proofs.YtpifbaiibhaklaaGreatDoor
open Go.RowKit Big
set_option maxHeartbeats 400000
set_option linter.unusedVariables false
set_option linter.unusedSimpArgs false

/-! ### Rows of structs -/
section
variable {α : Type}
def flat (enc : α → List Value) (l : List α) : List Value := l.flatMap enc
theorem flat_length (enc : α → List Value) (k : Nat) (hk : ∀ a, (enc a).length = k) (l : List α) : (flat enc l).length = l.length * k := by
  induction l with
  | nil => simp [flat]
  | cons a t ih => simp only [flat, List.flatMap_cons, List.length_append, hk, List.length_cons] at ih ⊢; rw [ih, Nat.add_mul]; omega
theorem flat_at (enc : α → List Value) (k : Nat) (hk : ∀ a, (enc a).length = k) (l : List α) (i j : Nat) (hi : i < l.length) (hj : j < k) : (flat enc l)[i * k + j]? = (enc l[i])[j]? := by
  induction l generalizing i with
  | nil => simp at hi
  | cons a t ih =>
    cases i with
    | zero =>
      rw [show flat enc (a :: t) = enc a ++ flat enc t from rfl, List.getElem?_append_left (by rw [hk]; omega)]
      simp
    | succ i =>
      rw [show flat enc (a :: t) = enc a ++ flat enc t from rfl, List.getElem?_append_right (by rw [hk, Nat.add_mul]; omega)]
      rw [show (i + 1) * k + j - (enc a).length = i * k + j by rw [hk, Nat.add_mul]; omega]
      simpa using ih i (by simpa using hi)
/-- A slice whose elements are written as k cells each. -/
structure IsRow (enc : α → List Value) (k : Nat) (base : Nat) (t : TypeId) (w : World) (A : Option Addr) (n c : Nat) (l : List α) : Prop where
  len : l.length = n
  cap : n ≤ c
  reads : Reads base t w A (flat enc l)
variable {enc : α → List Value} {k base : Nat} {t : TypeId} {w w' : World} {A : Option Addr} {n c : Nat} {l : List α}
theorem IsRow.keeps (h : IsRow enc k base t w A n c l) (hk : Keeps base t w w') : IsRow enc k base t w' A n c l := ⟨h.len, h.cap, h.reads.keeps hk⟩
theorem IsRow.below (h : IsRow enc k base t w A n c l) (hb : Below w.heap.size w w') : IsRow enc k base t w' A n c l := h.keeps (.of_below hb)
theorem IsRow.at_ (h : IsRow enc k base t w A n c l) (hk : ∀ a, (enc a).length = k) (hk0 : 0 < k) (d : α) (i : Nat) (hi : i < n) : ∃ ad, A = some ad ∧ ∀ j u, (enc (l.getD i d))[j]? = some u → w.cell? (ad.add (i * k + j)) = some u := by
  have hl : i < l.length := by have := h.len; omega
  rcases h.reads with h0 | ⟨ad, ea, _, hc⟩
  · have := flat_length enc k hk l
    rw [h0] at this
    have h1 : 0 < l.length * k := Nat.mul_pos (by omega) hk0
    simp at this
    omega
  · refine ⟨ad, ea, fun j u hu => hc _ _ ?_⟩
    have hj : j < k := by have := (List.getElem?_eq_some_iff.1 hu).1; rwa [hk] at this
    rw [flat_at enc k hk l i j hl hj, ← hu, List.getD_eq_getElem?_getD, List.getElem?_eq_getElem hl]
    rfl
end

structure Feat where
  name : ByteArray
  kind : Int
  axis : Int
  datum : Int
  at_ : Int
  wide : Int
structure Zon where
  kind : Int
  feature : Int
  lower : Int
  upper : Int
  bonus : Bool
structure Sch where
  fs : List Feat
  zs : List Zon
def encF (f : Feat) : List Value := [.string f.name, .int .i64 f.kind, .int .i64 f.axis, .int .i64 f.datum, .int .i64 f.at_, .int .i64 f.wide]
def encZ (z : Zon) : List Value := [.int .i64 z.kind, .int .i64 z.feature, .int .i64 z.lower, .int .i64 z.upper, .bool z.bonus]
theorem encF_len (f : Feat) : (encF f).length = 6 := rfl
theorem encZ_len (z : Zon) : (encZ z).length = 5 := rfl
def fd : Feat := ⟨⟨#[]⟩, 0, 0, 0, 0, 0⟩
def zd : Zon := ⟨0, 0, 0, 0, false⟩
abbrev IsFs := IsRow encF 6
abbrev IsZs := IsRow encZ 5
/-- The first index at which something holds, or -1. -/
def idxI {α : Type} (p : α → Bool) (l : List α) : Int := if l.any p then (l.findIdx p : Int) else -1

theorem add_mid (ad : Addr) (m j : Nat) (hj : 0 < j) : ad.add (m + j) = ⟨(ad.add m).block, (ad.add m).off + j, none⟩ := by
  unfold Addr.add
  rw [if_neg (by omega)]
  split
  · subst m; simp
  · simp [Nat.add_assoc]
theorem IsFs.cells {base : Nat} {t : TypeId} {w : World} {A : Option Addr} {n c : Nat} {l : List Feat} (h : IsFs base t w A n c l) (i : Nat) (hi : i < n) : ∃ ad : Addr, A = some ad ∧
    w.cell? (ad.add (i * 6)) = some (.string (l.getD i fd).name) ∧ w.cell? ⟨(ad.add (i * 6)).block, (ad.add (i * 6)).off + 1, none⟩ = some (.int .i64 (l.getD i fd).kind) ∧ w.cell? ⟨(ad.add (i * 6)).block, (ad.add (i * 6)).off + 2, none⟩ = some (.int .i64 (l.getD i fd).axis) ∧
    w.cell? ⟨(ad.add (i * 6)).block, (ad.add (i * 6)).off + 3, none⟩ = some (.int .i64 (l.getD i fd).datum) ∧ w.cell? ⟨(ad.add (i * 6)).block, (ad.add (i * 6)).off + 4, none⟩ = some (.int .i64 (l.getD i fd).at_) ∧ w.cell? ⟨(ad.add (i * 6)).block, (ad.add (i * 6)).off + 5, none⟩ = some (.int .i64 (l.getD i fd).wide) := by
  obtain ⟨ad, e, hc⟩ := h.at_ encF_len (by decide) fd i hi
  exact ⟨ad, e, hc 0 _ rfl, add_mid ad _ 1 (by decide) ▸ hc 1 _ rfl, add_mid ad _ 2 (by decide) ▸ hc 2 _ rfl, add_mid ad _ 3 (by decide) ▸ hc 3 _ rfl, add_mid ad _ 4 (by decide) ▸ hc 4 _ rfl, add_mid ad _ 5 (by decide) ▸ hc 5 _ rfl⟩
theorem IsZs.cells {base : Nat} {t : TypeId} {w : World} {A : Option Addr} {n c : Nat} {l : List Zon} (h : IsZs base t w A n c l) (i : Nat) (hi : i < n) : ∃ ad : Addr, A = some ad ∧
    w.cell? (ad.add (i * 5)) = some (.int .i64 (l.getD i zd).kind) ∧ w.cell? ⟨(ad.add (i * 5)).block, (ad.add (i * 5)).off + 1, none⟩ = some (.int .i64 (l.getD i zd).feature) ∧ w.cell? ⟨(ad.add (i * 5)).block, (ad.add (i * 5)).off + 2, none⟩ = some (.int .i64 (l.getD i zd).lower) ∧
    w.cell? ⟨(ad.add (i * 5)).block, (ad.add (i * 5)).off + 3, none⟩ = some (.int .i64 (l.getD i zd).upper) ∧ w.cell? ⟨(ad.add (i * 5)).block, (ad.add (i * 5)).off + 4, none⟩ = some (.bool (l.getD i zd).bonus) := by
  obtain ⟨ad, e, hc⟩ := h.at_ encZ_len (by decide) zd i hi
  exact ⟨ad, e, hc 0 _ rfl, add_mid ad _ 1 (by decide) ▸ hc 1 _ rfl, add_mid ad _ 2 (by decide) ▸ hc 2 _ rfl, add_mid ad _ 3 (by decide) ▸ hc 3 _ rfl, add_mid ad _ 4 (by decide) ▸ hc 4 _ rfl⟩

/-- The closure of checkFeature: does a feature have this name? -/
theorem same_name (f : Feat) (D : ByteArray) (b : Nat) (w : World) (hD : w.cell? ⟨b, 0, none⟩ = some (.string D)) :
    Calls Tryz.prog 59 #[.agg #[.string f.name, .int .i64 f.kind, .int .i64 f.axis, .int .i64 f.datum, .int .i64 f.at_, .int .i64 f.wide], .pointer (some ⟨b, 0, none⟩)] w fun e w' => e = .returned (.bool (f.name.toList == D.toList)) ∧ Below w.heap.size w w' := by
  have hlt : b < w.heap.size := World.block_lt_of_cell? w _ hD
  have hne : ¬ b = w.heap.size := Nat.ne_of_lt hlt
  go_enter Tryz.func59, Tryz.ntmps59
  go_wp2_with fail
  go_ret
  exact ⟨rfl, (by repeat (first | exact Below.refl _ _ | with_reducible assumption | apply below_alloc | apply below_drewN | apply below_drew | refine below_set ?_ (by simp; try omega) _ | refine below_then ?_ (by with_reducible assumption)))⟩

theorem any_take_succ {α : Type} (p : α → Bool) (l : List α) (d : α) (i : Nat) (hi : i < l.length) : (l.take (i + 1)).any p = ((l.take i).any p || p (l.getD i d)) := by
  rw [List.take_succ_eq_append_getElem hi, List.any_append]
  simp [List.getD_eq_getElem?_getD, List.getElem?_eq_getElem hi]
theorem idxI_found {α : Type} (p : α → Bool) (l : List α) (d : α) (i : Nat) (hi : i < l.length) (h : (l.take i).any p = false) (hp : p (l.getD i d) = true) : idxI p l = i := by
  have hp' : p l[i] = true := by simpa [List.getD_eq_getElem?_getD, List.getElem?_eq_getElem hi] using hp
  have h1 : l.any p = true := List.any_eq_true.2 ⟨_, List.getElem_mem hi, hp'⟩
  unfold idxI
  rw [if_pos h1]
  congr 1
  rw [List.findIdx_eq hi]
  refine ⟨hp', fun j hj => ?_⟩
  have hjl : j < l.length := Nat.lt_trans hj hi
  have := List.any_eq_false.1 h (l[j]) (by rw [List.mem_iff_getElem]; exact ⟨j, by simp; omega, by simp⟩)
  simpa using this
theorem idxI_none {α : Type} (p : α → Bool) (l : List α) (h : l.any p = false) : idxI p l = -1 := by unfold idxI; rw [h]; rfl

theorem IndexF_any (base b : Nat) (A : Option Addr) (n c : Nat) (fs : List Feat) (p : Feat → Bool) (w : World) (h : IsFs base 28 w A n c fs) (hn : n ≤ 1000000)
    (hp : ∀ f W, Below w.heap.size w W → Calls Tryz.prog 59 #[.agg #[.string f.name, .int .i64 f.kind, .int .i64 f.axis, .int .i64 f.datum, .int .i64 f.at_, .int .i64 f.wide], .pointer (some ⟨b, 0, none⟩)] W fun e w' => e = .returned (.bool (p f)) ∧ Below W.heap.size W w') :
    Calls Tryz.prog 68 #[.slice A n c, .func (.func 59) #[] #[.pointer (some ⟨b, 0, none⟩)]] w fun e w' => e = .returned (.int .i64 (idxI p fs)) ∧ Below w.heap.size w w' := by
  have HP := Lib.hid hp
  have hlen := Lib.hid h.len
  clear hp
  go_enter Tryz.func68, Tryz.ntmps68
  go_wp2_with fail
  go_loopw [8] (fun q wr => ∃ (i : Nat), i ≤ n ∧ q = .int .i64 (i : Int) ∧ Hid ((fs.take i).any p = false) ∧ Below w.heap.size w wr) (fun q _ => n - (intOf q).toNat)
  case atStart => exact ⟨0, Nat.zero_le _, rfl, Lib.hid rfl, (by repeat (first | exact Below.refl _ _ | with_reducible assumption | apply below_alloc | apply below_drewN | apply below_drew | refine below_set ?_ (by simp; try omega) _ | refine below_then ?_ (by with_reducible assumption)))⟩
  case round =>
    obtain ⟨i, hi, rfl, ha, hb⟩ := hrel
    have Hb := Lib.hid hb
    by_cases hlt : i < n
    · obtain ⟨ad, ea, x0, x1, x2, x3, x4, x5⟩ := IsFs.cells (h.below hb) i hlt
      subst ea
      have H1 := Lib.hid (HP.out (fs.getD i fd) wr hb)
      have Hs := Lib.hid (any_take_succ p fs fd i (by rw [hlen.out]; exact hlt))
      have Hf := Lib.hid (idxI_found p fs fd i (by rw [hlen.out]; exact hlt) ha.out)
      clear hb HP
      generalize fs.getD i fd = f at x0 x1 x2 x3 x4 x5 H1 Hs Hf
      go_wp2_with fail
      refine H1.out.mono ?_
      rintro e w1 ⟨rfl, hb⟩
      have B1 := Lib.hid (below_then Hb.out hb)
      clear hb
      cases hpf : p f
      · go_wp2_with fail
        go_roundw
        case rel => exact ⟨i + 1, by omega, by go_num, Lib.hid (by rw [Hs.out, ha.out, hpf]; rfl), B1.out⟩
        case measure => simp [intOf]; omega
      · go_wp2_with fail
        go_ret
        exact ⟨by rw [Hf.out hpf]; rfl, B1.out⟩
    · obtain rfl : i = n := by omega
      have e1 := idxI_none p fs (by have := ha.out; rwa [← hlen.out, List.take_length] at this)
      clear hb HP
      go_wp2_with fail
      go_ret
      exact ⟨by rw [e1]; rfl, Hb.out⟩
theorem ContainsF_any (base b : Nat) (A : Option Addr) (n c : Nat) (fs : List Feat) (p : Feat → Bool) (w : World) (h : IsFs base 28 w A n c fs) (hn : n ≤ 1000000)
    (hp : ∀ f W, Below w.heap.size w W → Calls Tryz.prog 59 #[.agg #[.string f.name, .int .i64 f.kind, .int .i64 f.axis, .int .i64 f.datum, .int .i64 f.at_, .int .i64 f.wide], .pointer (some ⟨b, 0, none⟩)] W fun e w' => e = .returned (.bool (p f)) ∧ Below W.heap.size W w') :
    Calls Tryz.prog 48 #[.slice A n c, .func (.func 59) #[] #[.pointer (some ⟨b, 0, none⟩)]] w fun e w' => e = .returned (.bool (fs.any p)) ∧ Below w.heap.size w w' := by
  have H := Lib.hid (fun W (hW : Below w.heap.size w W) => IndexF_any base b A n c fs p W (h.below hW) hn (fun f W' hW' => hp f W' (below_then hW hW')))
  have e1 : decide (0 ≤ idxI p fs) = fs.any p := by
    unfold idxI
    cases fs.any p <;> simp
  clear hp h
  generalize idxI p fs = r at H e1
  go_enter Tryz.func48, Tryz.ntmps48
  go_wp2_with fail
  refine (H.out _ (by repeat (first | exact Below.refl _ _ | with_reducible assumption | apply below_alloc | apply below_drewN | apply below_drew | refine below_set ?_ (by simp; try omega) _ | refine below_then ?_ (by with_reducible assumption)))).mono ?_
  rintro e w1 ⟨rfl, hb⟩
  have B1 := Lib.hid (below_then (w := w) (by repeat (first | exact Below.refl _ _ | with_reducible assumption | apply below_alloc | apply below_drewN | apply below_drew | refine below_set ?_ (by simp; try omega) _ | refine below_then ?_ (by with_reducible assumption))) hb)
  clear hb
  go_wp2_with fail
  go_ret
  exact ⟨by rw [← e1]; rfl, B1.out⟩
end Go.Proofs.YtpifbaiibhaklaaGreatDoor
