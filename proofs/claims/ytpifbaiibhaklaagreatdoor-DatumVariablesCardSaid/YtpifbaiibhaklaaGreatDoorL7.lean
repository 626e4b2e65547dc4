/- Package datum: the statement of Constraints that draws its order: step by step. (Printed by gencon.py.)
  Package datum: the statement of Constraints that draws its order, as a whole. (Printed by gencon.py.)
  Package datum: Constraints. -/
import Derived.Test.YtpifbaiibhaklaaGreatDoorL6
namespace Go.Proofs.YtpifbaiibhaklaaGreatDoor
open Go.RowKit Big Go.ChangeMaps
set_option maxHeartbeats 40000000
set_option linter.unusedVariables false
set_option linter.unusedSimpArgs false

theorem binds_data (k : Nat) : Region.binds .any ⟨k, .data⟩ = true := rfl
theorem binds_chain (k : Nat) : Region.binds .any ⟨k, .chain⟩ = true := rfl
theorem binds_phase (k : Nat) : Region.binds .any ⟨k, .phase⟩ = true := rfl
theorem gDe {l : Array Bool} {k : Nat} (h : l[k]?.getD false = true) : l.getD k false = true := by rw [Array.getD_eq_getD_getElem?]; exact h
/-- What is asked of the world and the numbers. -/
structure Asks (q : Par) (w0 : World) : Prop where
  name : w0.cell? ⟨q.g8, 0, none⟩ = some (.string q.name)
  at_ : w0.cell? ⟨q.g8, 4, none⟩ = some (.int .i64 q.at_)
  up : w0.cell? ⟨q.g7, 3, none⟩ = some (.int .i64 q.up)
  lo : w0.cell? ⟨q.g7, 2, none⟩ = some (.int .i64 q.lo)
  a0 : w0.cell? ⟨q.g14, 0, none⟩ = some (.bool q.m1.a.p)
  a1 : w0.cell? ⟨q.g14, 1, none⟩ = some (.slice q.m1.a.A q.m1.a.n q.m1.a.c)
  a2 : w0.cell? ⟨q.g14, 2, none⟩ = some (.bool q.m1.b.p)
  a3 : w0.cell? ⟨q.g14, 3, none⟩ = some (.slice q.m1.b.A q.m1.b.n q.m1.b.c)
  b0 : w0.cell? ⟨q.g15, 0, none⟩ = some (.bool q.m2.a.p)
  b1 : w0.cell? ⟨q.g15, 1, none⟩ = some (.slice q.m2.a.A q.m2.a.n q.m2.a.c)
  b2 : w0.cell? ⟨q.g15, 2, none⟩ = some (.bool q.m2.b.p)
  b3 : w0.cell? ⟨q.g15, 3, none⟩ = some (.slice q.m2.b.A q.m2.b.n q.m2.b.c)
  own : ∀ k, q.v5.ownBlock = some k → k ≠ q.g7 ∧ k ≠ q.g8 ∧ k ≠ q.g14 ∧ k ≠ q.g15
  size : q.name.size ≤ 30
  n1 : -1000000000 ≤ q.at_ ∧ q.at_ ≤ 1000000000
  n2 : -1000000000 ≤ q.lo ∧ q.lo ≤ 1000000000
  n3 : -1000000000 ≤ q.up ∧ q.up ≤ 1000000000
  n4 : -1000000000 ≤ q.least ∧ q.least ≤ 1000000000
  pw : q.p ≠ q.wi
  base : q.ob ≤ w0.heap.size
  own0 : w0.ownsRow q.ob 53 3 q.v5 q.n q.xs
  nn : q.n ≤ 1000
  q1 : IsRat 0 w0 q.m1 1
  q2 : IsRat 0 w0 q.m2 (-1)
  good : Good w0
set_option maxRecDepth 100000 in
theorem con_step {Q : Exit → Act → World → Prop} (ops : Array Oper) (hops : ops = (opsOf 14 ((Tryz.f12.body).getD .skip)).toArray) (q : Par) (x : Nat → Value) (w0 : World) (hA : Asks q w0) (l : Array Bool) (a : Act) (w : World) (hI : RInv q x w0 l a w)
    (i : Nat) (hi : i < ops.size) (hl : l.getD i true = false) (hp : ((ops[i]?).map (·.after.all fun e => !Region.binds .any e || l.getD e.on false)).getD false = true) :
    wpOp Tryz.prog ops Q i (RInv q x w0 (l.setIfInBounds i true)) a w := by
  have hsz : ops.size = 44 := by rw [hops]; kernel_rfl
  rw [hsz] at hi
  clear hsz
  simp only [opsOf, Tryz.f12, Option.getD_some, List.append_nil, List.nil_append, if_true, if_false, reduceIte, Nat.reduceEqDiff] at hops
  obtain ⟨hs, y, E, rfl, H, H0, hd, hw⟩ := hI
  obtain ⟨n1, n1'⟩ := hA.n1
  obtain ⟨n2, n2'⟩ := hA.n2
  obtain ⟨n3, n3'⟩ := hA.n3
  obtain ⟨n4, n4'⟩ := hA.n4
  have hsize : ¬ (9223372036854775807 < q.name.size + 6) := by have := hA.size; omega
  rcases (show i = 0 ∨ i = 1 ∨ i = 2 ∨ i = 3 ∨ i = 4 ∨ i = 5 ∨ i = 6 ∨ i = 7 ∨ i = 8 ∨ i = 9 ∨ i = 10 ∨ i = 11 ∨ i = 12 ∨ i = 13 ∨ i = 14 ∨ i = 15 ∨ i = 16 ∨ i = 17 ∨ i = 18 ∨ i = 19 ∨ i = 20 ∨ i = 21 ∨ i = 22 ∨ i = 23 ∨ i = 24 ∨ i = 25 ∨ i = 26 ∨ i = 27 ∨ i = 28 ∨ i = 29 ∨ i = 30 ∨ i = 31 ∨ i = 32 ∨ i = 33 ∨ i = 34 ∨ i = 35 ∨ i = 36 ∨ i = 37 ∨ i = 38 ∨ i = 39 ∨ i = 40 ∨ i = 41 ∨ i = 42 ∨ i = 43 by omega) with rfl | rfl | rfl | rfl | rfl | rfl | rfl | rfl | rfl | rfl | rfl | rfl | rfl | rfl | rfl | rfl | rfl | rfl | rfl | rfl | rfl | rfl | rfl | rfl | rfl | rfl | rfl | rfl | rfl | rfl | rfl | rfl | rfl | rfl | rfl | rfl | rfl | rfl | rfl | rfl | rfl | rfl | rfl | rfl
  · have ho := congrArg (fun (z : Array Oper) => z[0]?) hops
    simp only [List.getElem?_toArray, List.getElem?_cons_zero, List.getElem?_cons_succ] at ho
    clear hops
    have Hf := RInv.pure (x := x) hs H H0 hd hw 0 (by decide) (by intro p hm h1; simp only [DCp, List.mem_cons, List.not_mem_nil, or_false] at hm; rcases hm with rfl | rfl | rfl | rfl | rfl | rfl | rfl | rfl | rfl | rfl | rfl | rfl | rfl | rfl | rfl | rfl | rfl | rfl | rfl <;> exact absurd h1 (by simp)) (by decide) (fun e => absurd e (by decide))
    have e0 := H0 (by rw [← gd_eq hs (by decide)]; exact hl)
    rw [upd_self e0] at Hf ⊢
    clear H H0 hw hp
    refine wpOp_step ho (fun K hK => ?_)
    simp only [frame, upd, Nat.reduceEqDiff, reduceIte, val]
    go_simp
    exact hK _ _ Hf
  · have ho := congrArg (fun (z : Array Oper) => z[1]?) hops
    simp only [List.getElem?_toArray, List.getElem?_cons_zero, List.getElem?_cons_succ] at ho
    clear hops
    have Hf := RInv.pure (x := x) hs H H0 hd hw 1 (by decide) (by intro p hm h1; simp only [DCp, List.mem_cons, List.not_mem_nil, or_false] at hm; rcases hm with rfl | rfl | rfl | rfl | rfl | rfl | rfl | rfl | rfl | rfl | rfl | rfl | rfl | rfl | rfl | rfl | rfl | rfl | rfl <;> exact absurd h1 (by simp)) (by decide) (fun e => absurd e (by decide))
    clear H H0 hw hp
    refine wpOp_step ho (fun K hK => ?_)
    simp only [frame, upd, Nat.reduceEqDiff, reduceIte, val]
    go_simp
    exact hK _ _ Hf
  · have ho := congrArg (fun (z : Array Oper) => z[2]?) hops
    simp only [List.getElem?_toArray, List.getElem?_cons_zero, List.getElem?_cons_succ] at ho
    clear hops
    rw [ho] at hp
    simp [binds_data, binds_chain, binds_phase] at hp
    have d := hp
    have e1 := H 1 (by decide) (gDe d)
    have Hf := RInv.pure (x := x) hs H H0 hd hw 2 (by decide) (by intro p hm h1; simp only [DCp, List.mem_cons, List.not_mem_nil, or_false] at hm; rcases hm with rfl | rfl | rfl | rfl | rfl | rfl | rfl | rfl | rfl | rfl | rfl | rfl | rfl | rfl | rfl | rfl | rfl | rfl | rfl <;> exact absurd h1 (by simp)) (by decide) (fun e => absurd e (by decide))
    rw [upd_self e1] at Hf ⊢
    have c0 := grown_cell hw.gr hA.name (fun k hk => (hA.own k hk).2.1)
    clear H H0 hw hp
    refine wpOp_step ho (fun K hK => ?_)
    simp only [frame, upd, Nat.reduceEqDiff, reduceIte, val]
    go_simp
    exact hK _ _ Hf
  · have ho := congrArg (fun (z : Array Oper) => z[3]?) hops
    simp only [List.getElem?_toArray, List.getElem?_cons_zero, List.getElem?_cons_succ] at ho
    clear hops
    rw [ho] at hp
    simp [binds_data, binds_chain, binds_phase] at hp
    have d := hp
    have e2 := H 2 (by decide) (gDe d)
    have Hf := RInv.pure (x := x) hs H H0 hd hw 3 (by decide) (by intro p hm h1; simp only [DCp, List.mem_cons, List.not_mem_nil, or_false] at hm; rcases hm with rfl | rfl | rfl | rfl | rfl | rfl | rfl | rfl | rfl | rfl | rfl | rfl | rfl | rfl | rfl | rfl | rfl | rfl | rfl <;> exact absurd h1 (by simp)) (by decide) (fun e => absurd e (by decide))
    rw [upd_self e2] at Hf ⊢
    clear H H0 hw hp
    refine wpOp_step ho (fun K hK => ?_)
    simp only [frame, upd, Nat.reduceEqDiff, reduceIte, val]
    go_simp
    exact hK _ _ Hf
  · have ho := congrArg (fun (z : Array Oper) => z[4]?) hops
    simp only [List.getElem?_toArray, List.getElem?_cons_zero, List.getElem?_cons_succ] at ho
    clear hops
    have Hf := RInv.pure (x := x) hs H H0 hd hw 4 (by decide) (by intro p hm h1; simp only [DCp, List.mem_cons, List.not_mem_nil, or_false] at hm; rcases hm with rfl | rfl | rfl | rfl | rfl | rfl | rfl | rfl | rfl | rfl | rfl | rfl | rfl | rfl | rfl | rfl | rfl | rfl | rfl <;> exact absurd h1 (by simp)) (by decide) (fun e => absurd e (by decide))
    clear H H0 hw hp
    refine wpOp_step ho (fun K hK => ?_)
    simp only [frame, upd, Nat.reduceEqDiff, reduceIte, val]
    go_simp
    exact hK _ _ Hf
  · have ho := congrArg (fun (z : Array Oper) => z[5]?) hops
    simp only [List.getElem?_toArray, List.getElem?_cons_zero, List.getElem?_cons_succ] at ho
    clear hops
    have Hf := RInv.pure (x := x) hs H H0 hd hw 5 (by decide) (by intro p hm h1; simp only [DCp, List.mem_cons, List.not_mem_nil, or_false] at hm; rcases hm with rfl | rfl | rfl | rfl | rfl | rfl | rfl | rfl | rfl | rfl | rfl | rfl | rfl | rfl | rfl | rfl | rfl | rfl | rfl <;> exact absurd h1 (by simp)) (by decide) (fun e => absurd e (by decide))
    clear H H0 hw hp
    refine wpOp_step ho (fun K hK => ?_)
    simp only [frame, upd, Nat.reduceEqDiff, reduceIte, val]
    go_simp
    exact hK _ _ Hf
  · have ho := congrArg (fun (z : Array Oper) => z[6]?) hops
    simp only [List.getElem?_toArray, List.getElem?_cons_zero, List.getElem?_cons_succ] at ho
    clear hops
    rw [ho] at hp
    simp [binds_data, binds_chain, binds_phase] at hp
    have d := hp
    have e5 := H 5 (by decide) (gDe d)
    have Hf := RInv.pure (x := x) hs H H0 hd hw 6 (by decide) (by intro p hm h1; simp only [DCp, List.mem_cons, List.not_mem_nil, or_false] at hm; rcases hm with rfl | rfl | rfl | rfl | rfl | rfl | rfl | rfl | rfl | rfl | rfl | rfl | rfl | rfl | rfl | rfl | rfl | rfl | rfl <;> exact absurd h1 (by simp)) (by decide) (fun e => absurd e (by decide))
    rw [upd_self e5] at Hf ⊢
    have c0 := grown_cell hw.gr hA.at_ (fun k hk => (hA.own k hk).2.1)
    clear H H0 hw hp
    refine wpOp_step ho (fun K hK => ?_)
    simp only [frame, upd, Nat.reduceEqDiff, reduceIte, val]
    go_simp
    exact hK _ _ Hf
  · have ho := congrArg (fun (z : Array Oper) => z[7]?) hops
    simp only [List.getElem?_toArray, List.getElem?_cons_zero, List.getElem?_cons_succ] at ho
    clear hops
    rw [ho] at hp
    simp [binds_data, binds_chain, binds_phase] at hp
    have d := hp
    have e4 := H 4 (by decide) (gDe d.1)
    have e6 := H 6 (by decide) (gDe d.2)
    have Hf := RInv.pure (x := x) hs H H0 hd hw 7 (by decide) (by intro p hm h1; simp only [DCp, List.mem_cons, List.not_mem_nil, or_false] at hm; rcases hm with rfl | rfl | rfl | rfl | rfl | rfl | rfl | rfl | rfl | rfl | rfl | rfl | rfl | rfl | rfl | rfl | rfl | rfl | rfl <;> exact absurd h1 (by simp)) (by decide) (fun e => absurd e (by decide))
    rw [upd_self e4] at Hf ⊢
    rw [upd_self e6] at Hf ⊢
    have hwr : IntKind.i64.wrap (q.least - q.at_) = q.least - q.at_ := by rw [IntKind.wrap_i64]; omega
    clear H H0 hw hp
    refine wpOp_step ho (fun K hK => ?_)
    simp only [frame, upd, Nat.reduceEqDiff, reduceIte, val]
    go_simp
    exact hK _ _ Hf
  · have ho := congrArg (fun (z : Array Oper) => z[8]?) hops
    simp only [List.getElem?_toArray, List.getElem?_cons_zero, List.getElem?_cons_succ] at ho
    clear hops
    have Hf := RInv.pure (x := x) hs H H0 hd hw 8 (by decide) (by intro p hm h1; simp only [DCp, List.mem_cons, List.not_mem_nil, or_false] at hm; rcases hm with rfl | rfl | rfl | rfl | rfl | rfl | rfl | rfl | rfl | rfl | rfl | rfl | rfl | rfl | rfl | rfl | rfl | rfl | rfl <;> exact absurd h1 (by simp)) (by decide) (fun e => absurd e (by decide))
    clear H H0 hw hp
    refine wpOp_step ho (fun K hK => ?_)
    simp only [frame, upd, Nat.reduceEqDiff, reduceIte, val]
    go_simp
    exact hK _ _ Hf
  · have ho := congrArg (fun (z : Array Oper) => z[9]?) hops
    simp only [List.getElem?_toArray, List.getElem?_cons_zero, List.getElem?_cons_succ] at ho
    clear hops
    rw [ho] at hp
    simp [binds_data, binds_chain, binds_phase] at hp
    have d := hp
    have e8 := H 8 (by decide) (gDe d)
    have Hf := RInv.pure (x := x) hs H H0 hd hw 9 (by decide) (by intro p hm h1; simp only [DCp, List.mem_cons, List.not_mem_nil, or_false] at hm; rcases hm with rfl | rfl | rfl | rfl | rfl | rfl | rfl | rfl | rfl | rfl | rfl | rfl | rfl | rfl | rfl | rfl | rfl | rfl | rfl <;> exact absurd h1 (by simp)) (by decide) (fun e => absurd e (by decide))
    rw [upd_self e8] at Hf ⊢
    have c0 := grown_cell hw.gr hA.up (fun k hk => (hA.own k hk).1)
    clear H H0 hw hp
    refine wpOp_step ho (fun K hK => ?_)
    simp only [frame, upd, Nat.reduceEqDiff, reduceIte, val]
    go_simp
    exact hK _ _ Hf
  · have ho := congrArg (fun (z : Array Oper) => z[10]?) hops
    simp only [List.getElem?_toArray, List.getElem?_cons_zero, List.getElem?_cons_succ] at ho
    clear hops
    rw [ho] at hp
    simp [binds_data, binds_chain, binds_phase] at hp
    have d := hp
    have e7 := H 7 (by decide) (gDe d.1)
    have e9 := H 9 (by decide) (gDe d.2)
    have Hf := RInv.pure (x := x) hs H H0 hd hw 10 (by decide) (by intro p hm h1; simp only [DCp, List.mem_cons, List.not_mem_nil, or_false] at hm; rcases hm with rfl | rfl | rfl | rfl | rfl | rfl | rfl | rfl | rfl | rfl | rfl | rfl | rfl | rfl | rfl | rfl | rfl | rfl | rfl <;> exact absurd h1 (by simp)) (by decide) (fun e => absurd e (by decide))
    rw [upd_self e7] at Hf ⊢
    rw [upd_self e9] at Hf ⊢
    have hwr : IntKind.i64.wrap (q.least - q.at_ - q.up) = q.least - q.at_ - q.up := by rw [IntKind.wrap_i64]; omega
    clear H H0 hw hp
    refine wpOp_step ho (fun K hK => ?_)
    simp only [frame, upd, Nat.reduceEqDiff, reduceIte, val]
    go_simp
    exact hK _ _ Hf
  · have ho := congrArg (fun (z : Array Oper) => z[11]?) hops
    simp only [List.getElem?_toArray, List.getElem?_cons_zero, List.getElem?_cons_succ] at ho
    clear hops
    have Hf := RInv.made (x := x) (E' := { E with b1 := w.heap.size }) hs H H0 hd 11 (by decide) (by intro p hm h1; simp only [DCp, List.mem_cons, List.not_mem_nil, or_false] at hm; rcases hm with rfl | rfl | rfl | rfl | rfl | rfl | rfl | rfl | rfl | rfl | rfl | rfl | rfl | rfl | rfl | rfl | rfl | rfl | rfl <;> first | (simp at h1; done) | exact gDe (by simp_all)) (by decide) (by decide) (fun j _ hne hj => val_b1 q E _ j hne (fun e => by subst e; have := hd.no hs (i := 11) (k := 18) (by decide) (by simp [DCp]) hl; rw [this] at hj; exact absurd hj (by decide))) (hw.make11 hs hd hl)
    clear H H0 hw hp
    refine wpOp_step ho (fun K hK => ?_)
    simp only [frame, upd, Nat.reduceEqDiff, reduceIte, val]
    go_simp
    exact hK _ _ Hf
  · have ho := congrArg (fun (z : Array Oper) => z[12]?) hops
    simp only [List.getElem?_toArray, List.getElem?_cons_zero, List.getElem?_cons_succ] at ho
    clear hops
    have Hf := RInv.pure (x := x) hs H H0 hd hw 12 (by decide) (by intro p hm h1; simp only [DCp, List.mem_cons, List.not_mem_nil, or_false] at hm; rcases hm with rfl | rfl | rfl | rfl | rfl | rfl | rfl | rfl | rfl | rfl | rfl | rfl | rfl | rfl | rfl | rfl | rfl | rfl | rfl <;> exact absurd h1 (by simp)) (by decide) (fun e => absurd e (by decide))
    clear H H0 hw hp
    refine wpOp_step ho (fun K hK => ?_)
    simp only [frame, upd, Nat.reduceEqDiff, reduceIte, val]
    go_simp
    exact hK _ _ Hf
  · have ho := congrArg (fun (z : Array Oper) => z[13]?) hops
    simp only [List.getElem?_toArray, List.getElem?_cons_zero, List.getElem?_cons_succ] at ho
    clear hops
    have Hf := RInv.pure (x := x) hs H H0 hd hw 13 (by decide) (by intro p hm h1; simp only [DCp, List.mem_cons, List.not_mem_nil, or_false] at hm; rcases hm with rfl | rfl | rfl | rfl | rfl | rfl | rfl | rfl | rfl | rfl | rfl | rfl | rfl | rfl | rfl | rfl | rfl | rfl | rfl <;> exact absurd h1 (by simp)) (by decide) (fun e => absurd e (by decide))
    have c0 := grown_cell hw.gr hA.a0 (fun k hk => (hA.own k hk).2.2.1)
    have c1 := grown_cell hw.gr hA.a1 (fun k hk => (hA.own k hk).2.2.1)
    have c2 := grown_cell hw.gr hA.a2 (fun k hk => (hA.own k hk).2.2.1)
    have c3 := grown_cell hw.gr hA.a3 (fun k hk => (hA.own k hk).2.2.1)
    clear H H0 hw hp
    refine wpOp_step ho (fun K hK => ?_)
    simp only [frame, upd, Nat.reduceEqDiff, reduceIte, val]
    go_simp
    exact hK _ _ Hf
  · have ho := congrArg (fun (z : Array Oper) => z[14]?) hops
    simp only [List.getElem?_toArray, List.getElem?_cons_zero, List.getElem?_cons_succ] at ho
    clear hops
    rw [ho] at hp
    simp [binds_data, binds_chain, binds_phase] at hp
    have d := hp
    have e11 := H 11 (by decide) (gDe d.1)
    have e12 := H 12 (by decide) (gDe d.2.1)
    have e13 := H 13 (by decide) (gDe d.2.2)
    obtain ⟨w9, hrun, hw9⟩ := hw.put14 hs hd hA.pw hl (gDe d.1)
    simp only [ratV] at hrun
    have Hf := RInv.made (x := x) (E' := E) hs H H0 hd 14 (by decide) (by intro p hm h1; simp only [DCp, List.mem_cons, List.not_mem_nil, or_false] at hm; rcases hm with rfl | rfl | rfl | rfl | rfl | rfl | rfl | rfl | rfl | rfl | rfl | rfl | rfl | rfl | rfl | rfl | rfl | rfl | rfl <;> first | (simp at h1; done) | exact gDe (by simp_all)) (by decide) (by decide) (fun j _ _ _ => rfl) hw9
    rw [upd_self e11] at Hf ⊢
    rw [upd_self e12] at Hf ⊢
    rw [upd_self e13] at Hf ⊢
    clear H H0 hw hp
    refine wpOp_step ho (fun K hK => ?_)
    simp only [frame, upd, Nat.reduceEqDiff, reduceIte, val]
    go_simp
    exact hK _ _ Hf
  · have ho := congrArg (fun (z : Array Oper) => z[15]?) hops
    simp only [List.getElem?_toArray, List.getElem?_cons_zero, List.getElem?_cons_succ] at ho
    clear hops
    have Hf := RInv.pure (x := x) hs H H0 hd hw 15 (by decide) (by intro p hm h1; simp only [DCp, List.mem_cons, List.not_mem_nil, or_false] at hm; rcases hm with rfl | rfl | rfl | rfl | rfl | rfl | rfl | rfl | rfl | rfl | rfl | rfl | rfl | rfl | rfl | rfl | rfl | rfl | rfl <;> exact absurd h1 (by simp)) (by decide) (fun e => absurd e (by decide))
    clear H H0 hw hp
    refine wpOp_step ho (fun K hK => ?_)
    simp only [frame, upd, Nat.reduceEqDiff, reduceIte, val]
    go_simp
    exact hK _ _ Hf
  · have ho := congrArg (fun (z : Array Oper) => z[16]?) hops
    simp only [List.getElem?_toArray, List.getElem?_cons_zero, List.getElem?_cons_succ] at ho
    clear hops
    have Hf := RInv.pure (x := x) hs H H0 hd hw 16 (by decide) (by intro p hm h1; simp only [DCp, List.mem_cons, List.not_mem_nil, or_false] at hm; rcases hm with rfl | rfl | rfl | rfl | rfl | rfl | rfl | rfl | rfl | rfl | rfl | rfl | rfl | rfl | rfl | rfl | rfl | rfl | rfl <;> exact absurd h1 (by simp)) (by decide) (fun e => absurd e (by decide))
    have c0 := grown_cell hw.gr hA.b0 (fun k hk => (hA.own k hk).2.2.2)
    have c1 := grown_cell hw.gr hA.b1 (fun k hk => (hA.own k hk).2.2.2)
    have c2 := grown_cell hw.gr hA.b2 (fun k hk => (hA.own k hk).2.2.2)
    have c3 := grown_cell hw.gr hA.b3 (fun k hk => (hA.own k hk).2.2.2)
    clear H H0 hw hp
    refine wpOp_step ho (fun K hK => ?_)
    simp only [frame, upd, Nat.reduceEqDiff, reduceIte, val]
    go_simp
    exact hK _ _ Hf
  · have ho := congrArg (fun (z : Array Oper) => z[17]?) hops
    simp only [List.getElem?_toArray, List.getElem?_cons_zero, List.getElem?_cons_succ] at ho
    clear hops
    rw [ho] at hp
    simp [binds_data, binds_chain, binds_phase] at hp
    have d := hp
    have e11 := H 11 (by decide) (gDe d.1)
    have e15 := H 15 (by decide) (gDe d.2.1)
    have e16 := H 16 (by decide) (gDe d.2.2)
    obtain ⟨w9, hrun, hw9⟩ := hw.put17 hs hd hA.pw hl (gDe d.1)
    simp only [ratV] at hrun
    have Hf := RInv.made (x := x) (E' := E) hs H H0 hd 17 (by decide) (by intro p hm h1; simp only [DCp, List.mem_cons, List.not_mem_nil, or_false] at hm; rcases hm with rfl | rfl | rfl | rfl | rfl | rfl | rfl | rfl | rfl | rfl | rfl | rfl | rfl | rfl | rfl | rfl | rfl | rfl | rfl <;> first | (simp at h1; done) | exact gDe (by simp_all)) (by decide) (by decide) (fun j _ _ _ => rfl) hw9
    rw [upd_self e11] at Hf ⊢
    rw [upd_self e15] at Hf ⊢
    rw [upd_self e16] at Hf ⊢
    clear H H0 hw hp
    refine wpOp_step ho (fun K hK => ?_)
    simp only [frame, upd, Nat.reduceEqDiff, reduceIte, val]
    go_simp
    exact hK _ _ Hf
  · have ho := congrArg (fun (z : Array Oper) => z[18]?) hops
    simp only [List.getElem?_toArray, List.getElem?_cons_zero, List.getElem?_cons_succ] at ho
    clear hops
    rw [ho] at hp
    simp [binds_data, binds_chain, binds_phase] at hp
    have d := hp
    have e11 := H 11 (by decide) (gDe d.1)
    have Hf := RInv.pure (x := x) hs H H0 hd hw 18 (by decide) (by intro p hm h1; simp only [DCp, List.mem_cons, List.not_mem_nil, or_false] at hm; rcases hm with rfl | rfl | rfl | rfl | rfl | rfl | rfl | rfl | rfl | rfl | rfl | rfl | rfl | rfl | rfl | rfl | rfl | rfl | rfl <;> first | (simp at h1; done) | exact gDe (by simp_all)) (by decide) (fun e => absurd e (by decide))
    rw [upd_self e11] at Hf ⊢
    clear H H0 hw hp
    refine wpOp_step ho (fun K hK => ?_)
    simp only [frame, upd, Nat.reduceEqDiff, reduceIte, val]
    go_simp
    exact hK _ _ Hf
  · have ho := congrArg (fun (z : Array Oper) => z[19]?) hops
    simp only [List.getElem?_toArray, List.getElem?_cons_zero, List.getElem?_cons_succ] at ho
    clear hops
    rw [ho] at hp
    simp [binds_data, binds_chain, binds_phase] at hp
    have d := hp
    have e10 := H 10 (by decide) (gDe d.1)
    have e18 := H 18 (by decide) (gDe d.2)
    have kal := gDe d.2
    have k1 := hd (18, 11) (by simp [DCp]) kal
    have k2 := hd (18, 14) (by simp [DCp]) kal
    have k3 := hd (18, 17) (by simp [DCp]) kal
    have h42 := hd.not42 hs (i := 19) (by simp) hl
    obtain ⟨_, lf, hm, _, _, _, o4⟩ := hw.m1 h42 k1
    have hlow := hw.low h42
    have hlf := o4 k2 k3
    have hfac : IsFac 0 w E.b1 lf := ⟨hm, fun f hf => by rcases hlf with e | e <;> (subst e; simp only [List.mem_cons, List.not_mem_nil, or_false] at hf; rcases hf with rfl | rfl <;> exact ⟨by first | exact hA.q1.below hlow | exact hA.q2.below hlow, rfl, by have := lim_one; unfold limR; simp [lim_neg, this]⟩)⟩
    have htm : termsTo lf 48 = tm (two q.p 1 q.wi (-1)) 48 := by
      rw [termsTo_tm]
      rcases hlf with e | e
      · subst e
        rw [numAt_two _ _ hA.pw]
        rfl
      · subst e
        rw [numAt_two _ _ (fun e => hA.pw e.symm)]
        exact congrArg (fun g => tm g 48) (two_comm _ _ _ _ (fun e => hA.pw e.symm))
    have hsum := sum_any 0 E.b1 (q.least - q.at_ - q.up) lf w (Nat.zero_le _) (hA.good.below hlow) hfac (by omega) (by omega)
    rw [htm] at hsum
    have HfA := fun (A : Option Addr) (n c : Nat) (w9 : World) (hr : IsRow encT 2 0 100 w9 A n c (tm (two q.p 1 q.wi (-1)) 48)) (hb : Below w.heap.size w w9) => RInv.made (x := x) (E' := { E with A1 := A, n1 := n, c1 := c }) hs H H0 hd 19 (by decide) (by intro p hm h1; simp only [DCp, List.mem_cons, List.not_mem_nil, or_false] at hm; rcases hm with rfl | rfl | rfl | rfl | rfl | rfl | rfl | rfl | rfl | rfl | rfl | rfl | rfl | rfl | rfl | rfl | rfl | rfl | rfl <;> first | (simp at h1; done) | exact gDe (by simp_all)) (by decide) (by decide) (fun j _ hne hj => val_f1 q E _ _ _ j hne (fun e => by subst e; have := hd.no hs (i := 19) (k := 20) (by decide) (by simp [DCp]) hl; rw [this] at hj; exact absurd hj (by decide))) (hw.call19 hs hd hl hr hb)
    rw [upd_self e10] at HfA ⊢
    rw [upd_self e18] at HfA ⊢
    clear H H0 hw hp
    refine wpOp_step ho (fun K hK => ?_)
    simp only [frame, upd, Nat.reduceEqDiff, reduceIte, val]
    go_simp
    go_at_call 39
    refine hsum.mono ?_
    rintro e w9 ⟨A, n9, c9, rfl, hr, hb⟩
    exact hK _ _ (HfA A n9 c9 w9 hr hb)
  · have ho := congrArg (fun (z : Array Oper) => z[20]?) hops
    simp only [List.getElem?_toArray, List.getElem?_cons_zero, List.getElem?_cons_succ] at ho
    clear hops
    rw [ho] at hp
    simp [binds_data, binds_chain, binds_phase] at hp
    have d := hp
    have e3 := H 3 (by decide) (gDe d.1)
    have e19 := H 19 (by decide) (gDe d.2)
    have Hf := RInv.pure (x := x) hs H H0 hd hw 20 (by decide) (by intro p hm h1; simp only [DCp, List.mem_cons, List.not_mem_nil, or_false] at hm; rcases hm with rfl | rfl | rfl | rfl | rfl | rfl | rfl | rfl | rfl | rfl | rfl | rfl | rfl | rfl | rfl | rfl | rfl | rfl | rfl <;> first | (simp at h1; done) | exact gDe (by simp_all)) (by decide) (fun e => absurd e (by decide))
    rw [upd_self e3] at Hf ⊢
    rw [upd_self e19] at Hf ⊢
    clear H H0 hw hp
    refine wpOp_step ho (fun K hK => ?_)
    simp only [frame, upd, Nat.reduceEqDiff, reduceIte, val]
    go_simp
    exact hK _ _ Hf
  · have ho := congrArg (fun (z : Array Oper) => z[21]?) hops
    simp only [List.getElem?_toArray, List.getElem?_cons_zero, List.getElem?_cons_succ] at ho
    clear hops
    have Hf := RInv.pure (x := x) hs H H0 hd hw 21 (by decide) (by intro p hm h1; simp only [DCp, List.mem_cons, List.not_mem_nil, or_false] at hm; rcases hm with rfl | rfl | rfl | rfl | rfl | rfl | rfl | rfl | rfl | rfl | rfl | rfl | rfl | rfl | rfl | rfl | rfl | rfl | rfl <;> exact absurd h1 (by simp)) (by decide) (fun e => absurd e (by decide))
    clear H H0 hw hp
    refine wpOp_step ho (fun K hK => ?_)
    simp only [frame, upd, Nat.reduceEqDiff, reduceIte, val]
    go_simp
    exact hK _ _ Hf
  · have ho := congrArg (fun (z : Array Oper) => z[22]?) hops
    simp only [List.getElem?_toArray, List.getElem?_cons_zero, List.getElem?_cons_succ] at ho
    clear hops
    rw [ho] at hp
    simp [binds_data, binds_chain, binds_phase] at hp
    have d := hp
    have e21 := H 21 (by decide) (gDe d)
    have Hf := RInv.pure (x := x) hs H H0 hd hw 22 (by decide) (by intro p hm h1; simp only [DCp, List.mem_cons, List.not_mem_nil, or_false] at hm; rcases hm with rfl | rfl | rfl | rfl | rfl | rfl | rfl | rfl | rfl | rfl | rfl | rfl | rfl | rfl | rfl | rfl | rfl | rfl | rfl <;> exact absurd h1 (by simp)) (by decide) (fun e => absurd e (by decide))
    rw [upd_self e21] at Hf ⊢
    have c0 := grown_cell hw.gr hA.name (fun k hk => (hA.own k hk).2.1)
    clear H H0 hw hp
    refine wpOp_step ho (fun K hK => ?_)
    simp only [frame, upd, Nat.reduceEqDiff, reduceIte, val]
    go_simp
    exact hK _ _ Hf
  · have ho := congrArg (fun (z : Array Oper) => z[23]?) hops
    simp only [List.getElem?_toArray, List.getElem?_cons_zero, List.getElem?_cons_succ] at ho
    clear hops
    rw [ho] at hp
    simp [binds_data, binds_chain, binds_phase] at hp
    have d := hp
    have e22 := H 22 (by decide) (gDe d)
    have Hf := RInv.pure (x := x) hs H H0 hd hw 23 (by decide) (by intro p hm h1; simp only [DCp, List.mem_cons, List.not_mem_nil, or_false] at hm; rcases hm with rfl | rfl | rfl | rfl | rfl | rfl | rfl | rfl | rfl | rfl | rfl | rfl | rfl | rfl | rfl | rfl | rfl | rfl | rfl <;> exact absurd h1 (by simp)) (by decide) (fun e => absurd e (by decide))
    rw [upd_self e22] at Hf ⊢
    clear H H0 hw hp
    refine wpOp_step ho (fun K hK => ?_)
    simp only [frame, upd, Nat.reduceEqDiff, reduceIte, val]
    go_simp
    exact hK _ _ Hf
  · have ho := congrArg (fun (z : Array Oper) => z[24]?) hops
    simp only [List.getElem?_toArray, List.getElem?_cons_zero, List.getElem?_cons_succ] at ho
    clear hops
    have Hf := RInv.pure (x := x) hs H H0 hd hw 24 (by decide) (by intro p hm h1; simp only [DCp, List.mem_cons, List.not_mem_nil, or_false] at hm; rcases hm with rfl | rfl | rfl | rfl | rfl | rfl | rfl | rfl | rfl | rfl | rfl | rfl | rfl | rfl | rfl | rfl | rfl | rfl | rfl <;> exact absurd h1 (by simp)) (by decide) (fun e => absurd e (by decide))
    clear H H0 hw hp
    refine wpOp_step ho (fun K hK => ?_)
    simp only [frame, upd, Nat.reduceEqDiff, reduceIte, val]
    go_simp
    exact hK _ _ Hf
  · have ho := congrArg (fun (z : Array Oper) => z[25]?) hops
    simp only [List.getElem?_toArray, List.getElem?_cons_zero, List.getElem?_cons_succ] at ho
    clear hops
    have Hf := RInv.pure (x := x) hs H H0 hd hw 25 (by decide) (by intro p hm h1; simp only [DCp, List.mem_cons, List.not_mem_nil, or_false] at hm; rcases hm with rfl | rfl | rfl | rfl | rfl | rfl | rfl | rfl | rfl | rfl | rfl | rfl | rfl | rfl | rfl | rfl | rfl | rfl | rfl <;> exact absurd h1 (by simp)) (by decide) (fun e => absurd e (by decide))
    clear H H0 hw hp
    refine wpOp_step ho (fun K hK => ?_)
    simp only [frame, upd, Nat.reduceEqDiff, reduceIte, val]
    go_simp
    exact hK _ _ Hf
  · have ho := congrArg (fun (z : Array Oper) => z[26]?) hops
    simp only [List.getElem?_toArray, List.getElem?_cons_zero, List.getElem?_cons_succ] at ho
    clear hops
    rw [ho] at hp
    simp [binds_data, binds_chain, binds_phase] at hp
    have d := hp
    have e25 := H 25 (by decide) (gDe d)
    have Hf := RInv.pure (x := x) hs H H0 hd hw 26 (by decide) (by intro p hm h1; simp only [DCp, List.mem_cons, List.not_mem_nil, or_false] at hm; rcases hm with rfl | rfl | rfl | rfl | rfl | rfl | rfl | rfl | rfl | rfl | rfl | rfl | rfl | rfl | rfl | rfl | rfl | rfl | rfl <;> exact absurd h1 (by simp)) (by decide) (fun e => absurd e (by decide))
    rw [upd_self e25] at Hf ⊢
    have c0 := grown_cell hw.gr hA.at_ (fun k hk => (hA.own k hk).2.1)
    clear H H0 hw hp
    refine wpOp_step ho (fun K hK => ?_)
    simp only [frame, upd, Nat.reduceEqDiff, reduceIte, val]
    go_simp
    exact hK _ _ Hf
  · have ho := congrArg (fun (z : Array Oper) => z[27]?) hops
    simp only [List.getElem?_toArray, List.getElem?_cons_zero, List.getElem?_cons_succ] at ho
    clear hops
    rw [ho] at hp
    simp [binds_data, binds_chain, binds_phase] at hp
    have d := hp
    have e24 := H 24 (by decide) (gDe d.1)
    have e26 := H 26 (by decide) (gDe d.2)
    have Hf := RInv.pure (x := x) hs H H0 hd hw 27 (by decide) (by intro p hm h1; simp only [DCp, List.mem_cons, List.not_mem_nil, or_false] at hm; rcases hm with rfl | rfl | rfl | rfl | rfl | rfl | rfl | rfl | rfl | rfl | rfl | rfl | rfl | rfl | rfl | rfl | rfl | rfl | rfl <;> exact absurd h1 (by simp)) (by decide) (fun e => absurd e (by decide))
    rw [upd_self e24] at Hf ⊢
    rw [upd_self e26] at Hf ⊢
    have hwr : IntKind.i64.wrap (q.least + q.at_) = q.least + q.at_ := by rw [IntKind.wrap_i64]; omega
    clear H H0 hw hp
    refine wpOp_step ho (fun K hK => ?_)
    simp only [frame, upd, Nat.reduceEqDiff, reduceIte, val]
    go_simp
    exact hK _ _ Hf
  · have ho := congrArg (fun (z : Array Oper) => z[28]?) hops
    simp only [List.getElem?_toArray, List.getElem?_cons_zero, List.getElem?_cons_succ] at ho
    clear hops
    have Hf := RInv.pure (x := x) hs H H0 hd hw 28 (by decide) (by intro p hm h1; simp only [DCp, List.mem_cons, List.not_mem_nil, or_false] at hm; rcases hm with rfl | rfl | rfl | rfl | rfl | rfl | rfl | rfl | rfl | rfl | rfl | rfl | rfl | rfl | rfl | rfl | rfl | rfl | rfl <;> exact absurd h1 (by simp)) (by decide) (fun e => absurd e (by decide))
    clear H H0 hw hp
    refine wpOp_step ho (fun K hK => ?_)
    simp only [frame, upd, Nat.reduceEqDiff, reduceIte, val]
    go_simp
    exact hK _ _ Hf
  · have ho := congrArg (fun (z : Array Oper) => z[29]?) hops
    simp only [List.getElem?_toArray, List.getElem?_cons_zero, List.getElem?_cons_succ] at ho
    clear hops
    rw [ho] at hp
    simp [binds_data, binds_chain, binds_phase] at hp
    have d := hp
    have e28 := H 28 (by decide) (gDe d)
    have Hf := RInv.pure (x := x) hs H H0 hd hw 29 (by decide) (by intro p hm h1; simp only [DCp, List.mem_cons, List.not_mem_nil, or_false] at hm; rcases hm with rfl | rfl | rfl | rfl | rfl | rfl | rfl | rfl | rfl | rfl | rfl | rfl | rfl | rfl | rfl | rfl | rfl | rfl | rfl <;> exact absurd h1 (by simp)) (by decide) (fun e => absurd e (by decide))
    rw [upd_self e28] at Hf ⊢
    have c0 := grown_cell hw.gr hA.lo (fun k hk => (hA.own k hk).1)
    clear H H0 hw hp
    refine wpOp_step ho (fun K hK => ?_)
    simp only [frame, upd, Nat.reduceEqDiff, reduceIte, val]
    go_simp
    exact hK _ _ Hf
  · have ho := congrArg (fun (z : Array Oper) => z[30]?) hops
    simp only [List.getElem?_toArray, List.getElem?_cons_zero, List.getElem?_cons_succ] at ho
    clear hops
    rw [ho] at hp
    simp [binds_data, binds_chain, binds_phase] at hp
    have d := hp
    have e27 := H 27 (by decide) (gDe d.1)
    have e29 := H 29 (by decide) (gDe d.2)
    have Hf := RInv.pure (x := x) hs H H0 hd hw 30 (by decide) (by intro p hm h1; simp only [DCp, List.mem_cons, List.not_mem_nil, or_false] at hm; rcases hm with rfl | rfl | rfl | rfl | rfl | rfl | rfl | rfl | rfl | rfl | rfl | rfl | rfl | rfl | rfl | rfl | rfl | rfl | rfl <;> exact absurd h1 (by simp)) (by decide) (fun e => absurd e (by decide))
    rw [upd_self e27] at Hf ⊢
    rw [upd_self e29] at Hf ⊢
    have hwr : IntKind.i64.wrap (q.least + q.at_ + q.lo) = q.least + q.at_ + q.lo := by rw [IntKind.wrap_i64]; omega
    clear H H0 hw hp
    refine wpOp_step ho (fun K hK => ?_)
    simp only [frame, upd, Nat.reduceEqDiff, reduceIte, val]
    go_simp
    exact hK _ _ Hf
  · have ho := congrArg (fun (z : Array Oper) => z[31]?) hops
    simp only [List.getElem?_toArray, List.getElem?_cons_zero, List.getElem?_cons_succ] at ho
    clear hops
    have Hf := RInv.made (x := x) (E' := { E with b2 := w.heap.size }) hs H H0 hd 31 (by decide) (by intro p hm h1; simp only [DCp, List.mem_cons, List.not_mem_nil, or_false] at hm; rcases hm with rfl | rfl | rfl | rfl | rfl | rfl | rfl | rfl | rfl | rfl | rfl | rfl | rfl | rfl | rfl | rfl | rfl | rfl | rfl <;> first | (simp at h1; done) | exact gDe (by simp_all)) (by decide) (by decide) (fun j _ hne hj => val_b2 q E _ j hne (fun e => by subst e; have := hd.no hs (i := 31) (k := 38) (by decide) (by simp [DCp]) hl; rw [this] at hj; exact absurd hj (by decide))) (hw.make31 hs hd hl)
    clear H H0 hw hp
    refine wpOp_step ho (fun K hK => ?_)
    simp only [frame, upd, Nat.reduceEqDiff, reduceIte, val]
    go_simp
    exact hK _ _ Hf
  · have ho := congrArg (fun (z : Array Oper) => z[32]?) hops
    simp only [List.getElem?_toArray, List.getElem?_cons_zero, List.getElem?_cons_succ] at ho
    clear hops
    have Hf := RInv.pure (x := x) hs H H0 hd hw 32 (by decide) (by intro p hm h1; simp only [DCp, List.mem_cons, List.not_mem_nil, or_false] at hm; rcases hm with rfl | rfl | rfl | rfl | rfl | rfl | rfl | rfl | rfl | rfl | rfl | rfl | rfl | rfl | rfl | rfl | rfl | rfl | rfl <;> exact absurd h1 (by simp)) (by decide) (fun e => absurd e (by decide))
    clear H H0 hw hp
    refine wpOp_step ho (fun K hK => ?_)
    simp only [frame, upd, Nat.reduceEqDiff, reduceIte, val]
    go_simp
    exact hK _ _ Hf
  · have ho := congrArg (fun (z : Array Oper) => z[33]?) hops
    simp only [List.getElem?_toArray, List.getElem?_cons_zero, List.getElem?_cons_succ] at ho
    clear hops
    have Hf := RInv.pure (x := x) hs H H0 hd hw 33 (by decide) (by intro p hm h1; simp only [DCp, List.mem_cons, List.not_mem_nil, or_false] at hm; rcases hm with rfl | rfl | rfl | rfl | rfl | rfl | rfl | rfl | rfl | rfl | rfl | rfl | rfl | rfl | rfl | rfl | rfl | rfl | rfl <;> exact absurd h1 (by simp)) (by decide) (fun e => absurd e (by decide))
    have c0 := grown_cell hw.gr hA.b0 (fun k hk => (hA.own k hk).2.2.2)
    have c1 := grown_cell hw.gr hA.b1 (fun k hk => (hA.own k hk).2.2.2)
    have c2 := grown_cell hw.gr hA.b2 (fun k hk => (hA.own k hk).2.2.2)
    have c3 := grown_cell hw.gr hA.b3 (fun k hk => (hA.own k hk).2.2.2)
    clear H H0 hw hp
    refine wpOp_step ho (fun K hK => ?_)
    simp only [frame, upd, Nat.reduceEqDiff, reduceIte, val]
    go_simp
    exact hK _ _ Hf
  · have ho := congrArg (fun (z : Array Oper) => z[34]?) hops
    simp only [List.getElem?_toArray, List.getElem?_cons_zero, List.getElem?_cons_succ] at ho
    clear hops
    rw [ho] at hp
    simp [binds_data, binds_chain, binds_phase] at hp
    have d := hp
    have e31 := H 31 (by decide) (gDe d.1)
    have e32 := H 32 (by decide) (gDe d.2.1)
    have e33 := H 33 (by decide) (gDe d.2.2)
    obtain ⟨w9, hrun, hw9⟩ := hw.put34 hs hd hA.pw hl (gDe d.1)
    simp only [ratV] at hrun
    have Hf := RInv.made (x := x) (E' := E) hs H H0 hd 34 (by decide) (by intro p hm h1; simp only [DCp, List.mem_cons, List.not_mem_nil, or_false] at hm; rcases hm with rfl | rfl | rfl | rfl | rfl | rfl | rfl | rfl | rfl | rfl | rfl | rfl | rfl | rfl | rfl | rfl | rfl | rfl | rfl <;> first | (simp at h1; done) | exact gDe (by simp_all)) (by decide) (by decide) (fun j _ _ _ => rfl) hw9
    rw [upd_self e31] at Hf ⊢
    rw [upd_self e32] at Hf ⊢
    rw [upd_self e33] at Hf ⊢
    clear H H0 hw hp
    refine wpOp_step ho (fun K hK => ?_)
    simp only [frame, upd, Nat.reduceEqDiff, reduceIte, val]
    go_simp
    exact hK _ _ Hf
  · have ho := congrArg (fun (z : Array Oper) => z[35]?) hops
    simp only [List.getElem?_toArray, List.getElem?_cons_zero, List.getElem?_cons_succ] at ho
    clear hops
    have Hf := RInv.pure (x := x) hs H H0 hd hw 35 (by decide) (by intro p hm h1; simp only [DCp, List.mem_cons, List.not_mem_nil, or_false] at hm; rcases hm with rfl | rfl | rfl | rfl | rfl | rfl | rfl | rfl | rfl | rfl | rfl | rfl | rfl | rfl | rfl | rfl | rfl | rfl | rfl <;> exact absurd h1 (by simp)) (by decide) (fun e => absurd e (by decide))
    clear H H0 hw hp
    refine wpOp_step ho (fun K hK => ?_)
    simp only [frame, upd, Nat.reduceEqDiff, reduceIte, val]
    go_simp
    exact hK _ _ Hf
  · have ho := congrArg (fun (z : Array Oper) => z[36]?) hops
    simp only [List.getElem?_toArray, List.getElem?_cons_zero, List.getElem?_cons_succ] at ho
    clear hops
    have Hf := RInv.pure (x := x) hs H H0 hd hw 36 (by decide) (by intro p hm h1; simp only [DCp, List.mem_cons, List.not_mem_nil, or_false] at hm; rcases hm with rfl | rfl | rfl | rfl | rfl | rfl | rfl | rfl | rfl | rfl | rfl | rfl | rfl | rfl | rfl | rfl | rfl | rfl | rfl <;> exact absurd h1 (by simp)) (by decide) (fun e => absurd e (by decide))
    have c0 := grown_cell hw.gr hA.b0 (fun k hk => (hA.own k hk).2.2.2)
    have c1 := grown_cell hw.gr hA.b1 (fun k hk => (hA.own k hk).2.2.2)
    have c2 := grown_cell hw.gr hA.b2 (fun k hk => (hA.own k hk).2.2.2)
    have c3 := grown_cell hw.gr hA.b3 (fun k hk => (hA.own k hk).2.2.2)
    clear H H0 hw hp
    refine wpOp_step ho (fun K hK => ?_)
    simp only [frame, upd, Nat.reduceEqDiff, reduceIte, val]
    go_simp
    exact hK _ _ Hf
  · have ho := congrArg (fun (z : Array Oper) => z[37]?) hops
    simp only [List.getElem?_toArray, List.getElem?_cons_zero, List.getElem?_cons_succ] at ho
    clear hops
    rw [ho] at hp
    simp [binds_data, binds_chain, binds_phase] at hp
    have d := hp
    have e31 := H 31 (by decide) (gDe d.1)
    have e35 := H 35 (by decide) (gDe d.2.1)
    have e36 := H 36 (by decide) (gDe d.2.2)
    obtain ⟨w9, hrun, hw9⟩ := hw.put37 hs hd hA.pw hl (gDe d.1)
    simp only [ratV] at hrun
    have Hf := RInv.made (x := x) (E' := E) hs H H0 hd 37 (by decide) (by intro p hm h1; simp only [DCp, List.mem_cons, List.not_mem_nil, or_false] at hm; rcases hm with rfl | rfl | rfl | rfl | rfl | rfl | rfl | rfl | rfl | rfl | rfl | rfl | rfl | rfl | rfl | rfl | rfl | rfl | rfl <;> first | (simp at h1; done) | exact gDe (by simp_all)) (by decide) (by decide) (fun j _ _ _ => rfl) hw9
    rw [upd_self e31] at Hf ⊢
    rw [upd_self e35] at Hf ⊢
    rw [upd_self e36] at Hf ⊢
    clear H H0 hw hp
    refine wpOp_step ho (fun K hK => ?_)
    simp only [frame, upd, Nat.reduceEqDiff, reduceIte, val]
    go_simp
    exact hK _ _ Hf
  · have ho := congrArg (fun (z : Array Oper) => z[38]?) hops
    simp only [List.getElem?_toArray, List.getElem?_cons_zero, List.getElem?_cons_succ] at ho
    clear hops
    rw [ho] at hp
    simp [binds_data, binds_chain, binds_phase] at hp
    have d := hp
    have e31 := H 31 (by decide) (gDe d.1)
    have Hf := RInv.pure (x := x) hs H H0 hd hw 38 (by decide) (by intro p hm h1; simp only [DCp, List.mem_cons, List.not_mem_nil, or_false] at hm; rcases hm with rfl | rfl | rfl | rfl | rfl | rfl | rfl | rfl | rfl | rfl | rfl | rfl | rfl | rfl | rfl | rfl | rfl | rfl | rfl <;> first | (simp at h1; done) | exact gDe (by simp_all)) (by decide) (fun e => absurd e (by decide))
    rw [upd_self e31] at Hf ⊢
    clear H H0 hw hp
    refine wpOp_step ho (fun K hK => ?_)
    simp only [frame, upd, Nat.reduceEqDiff, reduceIte, val]
    go_simp
    exact hK _ _ Hf
  · have ho := congrArg (fun (z : Array Oper) => z[39]?) hops
    simp only [List.getElem?_toArray, List.getElem?_cons_zero, List.getElem?_cons_succ] at ho
    clear hops
    rw [ho] at hp
    simp [binds_data, binds_chain, binds_phase] at hp
    have d := hp
    have e30 := H 30 (by decide) (gDe d.1)
    have e38 := H 38 (by decide) (gDe d.2.1)
    have kal := gDe d.2.1
    have k1 := hd (38, 31) (by simp [DCp]) kal
    have k2 := hd (38, 34) (by simp [DCp]) kal
    have k3 := hd (38, 37) (by simp [DCp]) kal
    have h42 := hd.not42 hs (i := 39) (by simp) hl
    obtain ⟨_, lf, hm, _, _, _, o4⟩ := hw.m2 h42 k1
    have hlow := hw.low h42
    have hlf := o4 k2 k3
    have hfac : IsFac 0 w E.b2 lf := ⟨hm, fun f hf => by rcases hlf with e | e <;> (subst e; simp only [List.mem_cons, List.not_mem_nil, or_false] at hf; rcases hf with rfl | rfl <;> exact ⟨by first | exact hA.q2.below hlow | exact hA.q2.below hlow, rfl, by have := lim_one; unfold limR; simp [lim_neg, this]⟩)⟩
    have htm : termsTo lf 48 = tm (two q.p (-1) q.wi (-1)) 48 := by
      rw [termsTo_tm]
      rcases hlf with e | e
      · subst e
        rw [numAt_two _ _ hA.pw]
        rfl
      · subst e
        rw [numAt_two _ _ (fun e => hA.pw e.symm)]
        exact congrArg (fun g => tm g 48) (two_comm _ _ _ _ (fun e => hA.pw e.symm))
    have hsum := sum_any 0 E.b2 (q.least + q.at_ + q.lo) lf w (Nat.zero_le _) (hA.good.below hlow) hfac (by omega) (by omega)
    rw [htm] at hsum
    have HfA := fun (A : Option Addr) (n c : Nat) (w9 : World) (hr : IsRow encT 2 0 100 w9 A n c (tm (two q.p (-1) q.wi (-1)) 48)) (hb : Below w.heap.size w w9) => RInv.made (x := x) (E' := { E with A2 := A, n2 := n, c2 := c }) hs H H0 hd 39 (by decide) (by intro p hm h1; simp only [DCp, List.mem_cons, List.not_mem_nil, or_false] at hm; rcases hm with rfl | rfl | rfl | rfl | rfl | rfl | rfl | rfl | rfl | rfl | rfl | rfl | rfl | rfl | rfl | rfl | rfl | rfl | rfl <;> first | (simp at h1; done) | exact gDe (by simp_all)) (by decide) (by decide) (fun j _ hne hj => val_f2 q E _ _ _ j hne (fun e => by subst e; have := hd.no hs (i := 39) (k := 40) (by decide) (by simp [DCp]) hl; rw [this] at hj; exact absurd hj (by decide))) (hw.call39 hs hd hl hr hb)
    rw [upd_self e30] at HfA ⊢
    rw [upd_self e38] at HfA ⊢
    clear H H0 hw hp
    refine wpOp_step ho (fun K hK => ?_)
    simp only [frame, upd, Nat.reduceEqDiff, reduceIte, val]
    go_simp
    go_at_call 39
    refine hsum.mono ?_
    rintro e w9 ⟨A, n9, c9, rfl, hr, hb⟩
    exact hK _ _ (HfA A n9 c9 w9 hr hb)
  · have ho := congrArg (fun (z : Array Oper) => z[40]?) hops
    simp only [List.getElem?_toArray, List.getElem?_cons_zero, List.getElem?_cons_succ] at ho
    clear hops
    rw [ho] at hp
    simp [binds_data, binds_chain, binds_phase] at hp
    have d := hp
    have e23 := H 23 (by decide) (gDe d.1)
    have e39 := H 39 (by decide) (gDe d.2)
    have Hf := RInv.pure (x := x) hs H H0 hd hw 40 (by decide) (by intro p hm h1; simp only [DCp, List.mem_cons, List.not_mem_nil, or_false] at hm; rcases hm with rfl | rfl | rfl | rfl | rfl | rfl | rfl | rfl | rfl | rfl | rfl | rfl | rfl | rfl | rfl | rfl | rfl | rfl | rfl <;> first | (simp at h1; done) | exact gDe (by simp_all)) (by decide) (fun e => absurd e (by decide))
    rw [upd_self e23] at Hf ⊢
    rw [upd_self e39] at Hf ⊢
    clear H H0 hw hp
    refine wpOp_step ho (fun K hK => ?_)
    simp only [frame, upd, Nat.reduceEqDiff, reduceIte, val]
    go_simp
    exact hK _ _ Hf
  · have ho := congrArg (fun (z : Array Oper) => z[41]?) hops
    simp only [List.getElem?_toArray, List.getElem?_cons_zero, List.getElem?_cons_succ] at ho
    clear hops
    rw [ho] at hp
    simp [binds_data, binds_chain, binds_phase] at hp
    have d := hp
    have e20 := H 20 (by decide) (gDe d.1)
    have e40 := H 40 (by decide) (gDe d.2)
    have Hf := RInv.made (x := x) (E' := { E with g := w.heap.size }) hs H H0 hd 41 (by decide) (by intro p hm h1; simp only [DCp, List.mem_cons, List.not_mem_nil, or_false] at hm; rcases hm with rfl | rfl | rfl | rfl | rfl | rfl | rfl | rfl | rfl | rfl | rfl | rfl | rfl | rfl | rfl | rfl | rfl | rfl | rfl <;> first | (simp at h1; done) | exact gDe (by simp_all)) (by decide) (by decide) (fun j _ hne _ => val_g q E _ j hne) (hw.build41 hs hd hl)
    rw [upd_self e20] at Hf ⊢
    rw [upd_self e40] at Hf ⊢
    clear H H0 hw hp
    refine wpOp_step ho (fun K hK => ?_)
    simp only [frame, upd, Nat.reduceEqDiff, reduceIte, val]
    go_simp
    exact hK _ _ Hf
  · have ho := congrArg (fun (z : Array Oper) => z[42]?) hops
    simp only [List.getElem?_toArray, List.getElem?_cons_zero, List.getElem?_cons_succ] at ho
    clear hops
    rw [ho] at hp
    simp [binds_data, binds_chain, binds_phase] at hp
    have d := hp
    have e0 := H 0 (by decide) (gDe d.1)
    have e41 := H 41 (by decide) (gDe (by first | exact d.2.1 | exact d.2))
    have k41 := gDe (k := 41) (l := l) (by first | exact d.2.1 | exact d.2)
    have h42 : l.getD 42 false = false := by rw [← gd_eq hs (by decide)]; exact hl
    have hlow := hw.low h42
    have hg := hw.g h42 k41
    have HfA := fun (v : Value) (w9 : World) (hf : Fin9 q w0 { E with v := v } w9) => RInv.made (x := x) (E' := { E with v := v }) hs H H0 hd 42 (by decide) (by intro p hm h1; simp only [DCp, List.mem_cons, List.not_mem_nil, or_false] at hm; rcases hm with rfl | rfl | rfl | rfl | rfl | rfl | rfl | rfl | rfl | rfl | rfl | rfl | rfl | rfl | rfl | rfl | rfl | rfl | rfl <;> first | (simp at h1; done) | exact gDe (by simp_all)) (by decide) (by decide) (fun j _ hne hj => val_v q E _ j hne (fun e => by subst e; have := hd.no hs (i := 42) (k := 43) (by decide) (by simp [DCp]) hl; rw [this] at hj; exact absurd hj (by decide))) (hw.end42 hs hf)
    have hf12 := hw.both hd h42 k41
    have hE := fun v => val_v q E v 0 (by decide) (by decide)
    rw [upd_self e0] at HfA ⊢
    rw [upd_self e41] at HfA ⊢
    clear H H0 hw hp
    obtain ⟨i0, hi0, hz0, hz1, hz2⟩ := info_parts info_con
    refine wpOp_step ho (fun K hK => ?_)
    rw [if_pos (by simp [Region.wanted])]
    simp only [frame, upd, Nat.reduceEqDiff, reduceIte, val]
    refine wp_append_lies w (.tmp 59) (.tmp 96) 38 rfl q.ob 53 i0 (.agg #[.string ByteArray.empty, .string ByteArray.empty, .slice none 0 0]) 3 56 Tryz.underlying38 hi0 hz0 hz1 hz2 rfl (by decide) q.v5 q.n q.xs (by rfl) (own_below hA.own0 hlow) ⟨E.g, 0, none⟩ 2 2 (six q E) (by rfl) (by rfl) (World.news_of_block hg) (by simp [six, Value.oneCell']) (by decide) (by have := hA.nn; simp only [maxLen]; omega) (by have := hA.nn; omega) (Nat.le_trans hA.base hlow.size) _ rfl ?_
    intro g cap w9 hown hgr _ _
    exact hK _ _ (HfA _ w9 ⟨hown, World.grownBy.trans (grown_of_below hlow _) hgr, hf12.1.keeps (Keeps.of_grown hgr (own_below hA.own0 hlow) (Nat.zero_le _) (by decide)), hf12.2.keeps (Keeps.of_grown hgr (own_below hA.own0 hlow) (Nat.zero_le _) (by decide))⟩)
  · have ho := congrArg (fun (z : Array Oper) => z[43]?) hops
    simp only [List.getElem?_toArray, List.getElem?_cons_zero, List.getElem?_cons_succ] at ho
    clear hops
    rw [ho] at hp
    simp [binds_data, binds_chain, binds_phase] at hp
    have d := hp
    have e42 := H 42 (by decide) (gDe (by simp_all))
    have Hf := RInv.pure (x := x) hs H H0 hd hw 43 (by decide) (by intro p hm h1; simp only [DCp, List.mem_cons, List.not_mem_nil, or_false] at hm; rcases hm with rfl | rfl | rfl | rfl | rfl | rfl | rfl | rfl | rfl | rfl | rfl | rfl | rfl | rfl | rfl | rfl | rfl | rfl | rfl <;> first | (simp at h1; done) | exact gDe (by simp_all)) (by decide) (fun _ => gDe (by simp_all))
    rw [upd_self e42] at Hf ⊢
    clear H H0 hw hp
    refine wpOp_step ho (fun K hK => ?_)
    simp only [frame, upd, Nat.reduceEqDiff, reduceIte, val]
    go_simp
    exact hK _ _ Hf
end Go.Proofs.YtpifbaiibhaklaaGreatDoor
namespace Go.Proofs.YtpifbaiibhaklaaGreatDoor
open Go.RowKit Big Go.ChangeMaps
set_option maxHeartbeats 40000000
set_option linter.unusedVariables false
set_option linter.unusedSimpArgs false

set_option maxRecDepth 100000 in
theorem con_region0 {Q : Exit → Act → World → Prop} (ops : Array Oper) (hops : ops = (opsOf 14 ((Tryz.f12.body).getD .skip)).toArray) (q : Par) (x y : Nat → Value) (w : World) (hA : Asks q w.drew) (hy : y 43 = q.v5)
    (hQ : ∀ E w', Fin9 q w.drew E w' → Q .normal (frame q x (val q E)) w') : Code.wp Tryz.prog (Code.region 14 ops true) Q (frame q x y) w := by
  have hsz : ops.size = 44 := by rw [hops]; kernel_rfl
  refine wp_region_any (by kernel_rfl) ?_
  refine wpAny_inv (RInv q x w.drew) ?_ ?_ ops.size (Array.replicate ops.size false) _ _ ?_ ?_
  · intro l a w' hI hr
    obtain ⟨hs, y', E, rfl, H, H0, hd, hw⟩ := hI
    have hall := all_done (by rw [hops]; exact of_decide_eq_true (by kernel_rfl)) hr
    have hv : ∀ j, j < 44 → y' j = val q E j := fun j hj => H j hj (hall j (by omega) (by omega))
    have hfr : frame q x y' = frame q x (val q E) := by
      unfold frame
      simp only [hv 0 (by decide), hv 1 (by decide), hv 2 (by decide), hv 3 (by decide), hv 4 (by decide), hv 5 (by decide), hv 6 (by decide), hv 7 (by decide), hv 8 (by decide), hv 9 (by decide), hv 10 (by decide), hv 11 (by decide), hv 12 (by decide), hv 13 (by decide), hv 15 (by decide), hv 16 (by decide), hv 18 (by decide), hv 19 (by decide), hv 20 (by decide), hv 21 (by decide), hv 22 (by decide), hv 23 (by decide), hv 24 (by decide), hv 25 (by decide), hv 26 (by decide), hv 27 (by decide), hv 28 (by decide), hv 29 (by decide), hv 30 (by decide), hv 31 (by decide), hv 32 (by decide), hv 33 (by decide), hv 35 (by decide), hv 36 (by decide), hv 38 (by decide), hv 39 (by decide), hv 40 (by decide), hv 41 (by decide), hv 42 (by decide), hv 43 (by decide)]
    rw [hfr]
    exact hQ E w' (hw.fin (hall 42 (by omega) (by omega)))
  · exact fun l a w' hI i hi hl hp => con_step ops hops q x w.drew hA l a w' hI i hi hl hp
  · simp
  · have hno : ∀ k, (Array.replicate ops.size false).getD k false = false := fun k => by simp [Array.getD_eq_getD_getElem?, Array.getElem?_replicate]; split <;> simp
    refine ⟨by simpa using hsz, y, ⟨0, 0, none, 0, 0, none, 0, 0, 0, undef⟩, rfl, fun j _ h => ?_, fun _ => hy, fun p _ h => ?_, ?_⟩
    · rw [hno] at h; exact absurd h (by decide)
    · rw [hno] at h; exact absurd h (by decide)
    · exact ⟨⟨rfl, rfl, rfl, Nat.le_refl _, fun _ _ _ => rfl⟩, fun _ => Below.refl _ _, fun _ h => by rw [hno] at h; exact absurd h (by decide), fun _ h => by rw [hno] at h; exact absurd h (by decide), fun _ h => by rw [hno] at h; exact absurd h (by decide), fun _ h => by rw [hno] at h; exact absurd h (by decide), fun _ h => by rw [hno] at h; exact absurd h (by decide), fun _ h => by rw [hno] at h; exact absurd h (by decide), fun h => by rw [hno] at h; exact absurd h (by decide)⟩
set_option maxRecDepth 100000 in
theorem con_region {Q : Exit → Act → World → Prop} (ops : Array Oper) (hops : ops = (opsOf 14 ((Tryz.f12.body).getD .skip)).toArray) (q : Par) {x0 x1 x2 x3 x4 x6 x9 x10 x16 x17 x18 x19 x20 x21 x22 x23 x24 x25 x26 x27 x28 x29 x30 x31 x32 x33 x34 x35 x36 x37 x38 x39 x40 x41 x42 x43 x44 x45 x46 x47 x48 x49 x50 x51 x52 x53 x54 x55 x56 x57 x58 x59 x60 x61 x62 x63 x64 x65 x66 x67 x68 x69 x70 x71 x72 x73 x74 x75 x76 x77 x78 x79 x80 x81 x82 x83 x84 x85 x86 x87 x88 x89 x90 x91 x92 x93 x94 x95 x96 x97 x98 x99 : Value} (w : World) (hA : Asks q w.drew)
    (hQ : ∀ E w', Fin9 q w.drew E w' → Q .normal ⟨#[x0, x1, x2, x3, x4, E.v, x6, .pointer (some ⟨q.g7, 0, none⟩), .pointer (some ⟨q.g8, 0, none⟩), x9, x10, .int .i64 (q.p), .int .i64 (q.wi), .int .i64 (q.least), .pointer (some ⟨q.g14, 0, none⟩), .pointer (some ⟨q.g15, 0, none⟩), x16, x17, x18, x19, x20, x21, x22, x23, x24, x25, x26, x27, x28, x29, x30, x31, x32, x33, x34, x35, x36, x37, x38, x39, x40, x41, x42, x43, x44, x45, x46, x47, x48, x49, x50, x51, x52, x53, x54, x55, x56, x57, x58, q.v5, .pointer (some ⟨q.g8, 0, none⟩), .string q.name, .string (q.name ++ ⟨#[46, 97, 98, 111, 118, 101]⟩), .int .i64 (q.least), .pointer (some ⟨q.g8, 4, none⟩), .int .i64 (q.at_), .int .i64 (q.least - q.at_), .pointer (some ⟨q.g7, 3, none⟩), .int .i64 (q.up), .int .i64 (q.least - q.at_ - q.up), .map (some E.b1), .int .i64 (q.p), .agg #[.bool q.m1.a.p, .slice q.m1.a.A q.m1.a.n q.m1.a.c, .bool q.m1.b.p, .slice q.m1.b.A q.m1.b.n q.m1.b.c], .int .i64 (q.wi), .agg #[.bool q.m2.a.p, .slice q.m2.a.A q.m2.a.n q.m2.a.c, .bool q.m2.b.p, .slice q.m2.b.A q.m2.b.n q.m2.b.c], .map (some E.b1), .agg #[.string (bs (Lib.itoa (q.least - q.at_ - q.up))), .slice E.A1 E.n1 E.c1], .agg #[.string (q.name ++ ⟨#[46, 97, 98, 111, 118, 101]⟩), .string (bs (Lib.itoa (q.least - q.at_ - q.up))), .slice E.A1 E.n1 E.c1], .pointer (some ⟨q.g8, 0, none⟩), .string q.name, .string (q.name ++ ⟨#[46, 98, 101, 108, 111, 119]⟩), .int .i64 (q.least), .pointer (some ⟨q.g8, 4, none⟩), .int .i64 (q.at_), .int .i64 (q.least + q.at_), .pointer (some ⟨q.g7, 2, none⟩), .int .i64 (q.lo), .int .i64 (q.least + q.at_ + q.lo), .map (some E.b2), .int .i64 (q.p), .agg #[.bool q.m2.a.p, .slice q.m2.a.A q.m2.a.n q.m2.a.c, .bool q.m2.b.p, .slice q.m2.b.A q.m2.b.n q.m2.b.c], .int .i64 (q.wi), .agg #[.bool q.m2.a.p, .slice q.m2.a.A q.m2.a.n q.m2.a.c, .bool q.m2.b.p, .slice q.m2.b.A q.m2.b.n q.m2.b.c], .map (some E.b2), .agg #[.string (bs (Lib.itoa (q.least + q.at_ + q.lo))), .slice E.A2 E.n2 E.c2], .agg #[.string (q.name ++ ⟨#[46, 98, 101, 108, 111, 119]⟩), .string (bs (Lib.itoa (q.least + q.at_ + q.lo))), .slice E.A2 E.n2 E.c2], .slice (some ⟨E.g, 0, none⟩) 2 2, E.v, x98, x99], []⟩ w') :
    Code.wp Tryz.prog (Code.region 14 ops true) Q ⟨#[x0, x1, x2, x3, x4, q.v5, x6, .pointer (some ⟨q.g7, 0, none⟩), .pointer (some ⟨q.g8, 0, none⟩), x9, x10, .int .i64 (q.p), .int .i64 (q.wi), .int .i64 (q.least), .pointer (some ⟨q.g14, 0, none⟩), .pointer (some ⟨q.g15, 0, none⟩), x16, x17, x18, x19, x20, x21, x22, x23, x24, x25, x26, x27, x28, x29, x30, x31, x32, x33, x34, x35, x36, x37, x38, x39, x40, x41, x42, x43, x44, x45, x46, x47, x48, x49, x50, x51, x52, x53, x54, x55, x56, x57, x58, x59, x60, x61, x62, x63, x64, x65, x66, x67, x68, x69, x70, x71, x72, x73, x74, x75, x76, x77, x78, x79, x80, x81, x82, x83, x84, x85, x86, x87, x88, x89, x90, x91, x92, x93, x94, x95, x96, x97, x98, x99], []⟩ w :=
  con_region0 ops hops q (fun k => match k with| 0 => x0 | 1 => x1 | 2 => x2 | 3 => x3 | 4 => x4 | 6 => x6 | 9 => x9 | 10 => x10 | 16 => x16 | 17 => x17 | 18 => x18 | 19 => x19 | 20 => x20 | 21 => x21 | 22 => x22 | 23 => x23 | 24 => x24 | 25 => x25 | 26 => x26 | 27 => x27 | 28 => x28 | 29 => x29 | 30 => x30 | 31 => x31 | 32 => x32 | 33 => x33 | 34 => x34 | 35 => x35 | 36 => x36 | 37 => x37 | 38 => x38 | 39 => x39 | 40 => x40 | 41 => x41 | 42 => x42 | 43 => x43 | 44 => x44 | 45 => x45 | 46 => x46 | 47 => x47 | 48 => x48 | 49 => x49 | 50 => x50 | 51 => x51 | 52 => x52 | 53 => x53 | 54 => x54 | 55 => x55 | 56 => x56 | 57 => x57 | 58 => x58 | 59 => x59 | 60 => x60 | 61 => x61 | 62 => x62 | 63 => x63 | 64 => x64 | 65 => x65 | 66 => x66 | 67 => x67 | 68 => x68 | 69 => x69 | 70 => x70 | 71 => x71 | 72 => x72 | 73 => x73 | 74 => x74 | 75 => x75 | 76 => x76 | 77 => x77 | 78 => x78 | 79 => x79 | 80 => x80 | 81 => x81 | 82 => x82 | 83 => x83 | 84 => x84 | 85 => x85 | 86 => x86 | 87 => x87 | 88 => x88 | 89 => x89 | 90 => x90 | 91 => x91 | 92 => x92 | 93 => x93 | 94 => x94 | 95 => x95 | 96 => x96 | 97 => x97 | 98 => x98 | 99 => x99 | _ => undef) (fun j => match j with| 0 => x59 | 1 => x60 | 2 => x61 | 3 => x62 | 4 => x63 | 5 => x64 | 6 => x65 | 7 => x66 | 8 => x67 | 9 => x68 | 10 => x69 | 11 => x70 | 12 => x71 | 13 => x72 | 15 => x73 | 16 => x74 | 18 => x75 | 19 => x76 | 20 => x77 | 21 => x78 | 22 => x79 | 23 => x80 | 24 => x81 | 25 => x82 | 26 => x83 | 27 => x84 | 28 => x85 | 29 => x86 | 30 => x87 | 31 => x88 | 32 => x89 | 33 => x90 | 35 => x91 | 36 => x92 | 38 => x93 | 39 => x94 | 40 => x95 | 41 => x96 | 42 => x97 | 43 => q.v5 | _ => undef) w hA rfl hQ
end Go.Proofs.YtpifbaiibhaklaaGreatDoor
namespace Go.Proofs.YtpifbaiibhaklaaGreatDoor
open Go.RowKit Big Go.ChangeMaps
set_option maxHeartbeats 40000000
set_option linter.unusedVariables false
set_option linter.unusedSimpArgs false

theorem var_in {s : Sch} {n fe : Nat} (h : fe < n) : (⟨fe, 1⟩ : Vr) ∈ varsTo s n := by
  induction n with
  | zero => omega
  | succ n ih =>
    unfold varsTo
    rw [List.mem_append]
    by_cases e : fe = n
    · subst e
      exact .inr (by unfold varsAt; simp)
    · exact .inl (ih (by omega))
theorem index_ne {s : Sch} {fe : Nat} (h : fe < s.fs.length) : indexOf s fe 1 ≠ indexOf s fe 2 := by
  unfold indexOf
  rcases idxI_cases (isV fe 1) (varsOf s) vd with ⟨h0, _, _⟩ | ⟨i, _, hi, hf⟩
  · exfalso
    have := List.any_eq_false.1 h0 ⟨fe, 1⟩ (var_in h)
    simp [isV] at this
  · have p1 := List.find?_some hf
    rcases idxI_cases (isV fe 2) (varsOf s) vd with ⟨_, h2, _⟩ | ⟨j, _, hj, hf2⟩
    · rw [hi, h2]; omega
    · have p2 := List.find?_some hf2
      rw [hi, hj]
      intro e
      have e : i = j := by omega
      subst e
      simp only [isV, Bool.and_eq_true, beq_iff_eq] at p1 p2
      omega
theorem consTo_len (s : Sch) (i : Nat) : (consTo s i).length ≤ 2 * i := by
  induction i with
  | zero => simp [consTo]
  | succ i ih =>
    unfold consTo
    rw [List.length_append]
    have : (consAt s (s.zs.getD i zd)).length ≤ 2 := by unfold consAt; split <;> simp
    omega
/-- A list of constraints handed back, with an error. -/
def RetCons (cs : List Con) (er : Int) (w : World) (e : Ending) (w' : World) : Prop := ∃ A n c rs, e = .returned (.tuple #[.slice A n c, .int .i64 er]) ∧ IsRow encC 3 w.heap.size 53 w' A n c rs ∧ RowsOk w' rs cs ∧ Below w.heap.size w w'
set_option maxRecDepth 100000 in
theorem Constraints_any (base : Nat) (A Bz : Option Addr) (n c m d : Nat) (s : Sch) (w : World) (hg : Good w) (hf : IsFs base 28 w A n c s.fs) (hz : IsZs base 30 w Bz m d s.zs) :
    Calls Tryz.prog 12 #[.agg #[.slice A n c, .slice Bz m d]] w (RetCons (if checkE s = 0 then consOf s else []) (checkE s) w) := by
  have H := Lib.hid (fun W (hW : Below w.heap.size w W) => Check_any base A Bz n c m d s W (hf.below hW) (hz.below hW))
  by_cases hE : checkE s = 0
  · have hfine := fine_of_check hE
    rw [if_pos hE]
    rw [hE] at H ⊢
    have hn : n ≤ 16 := by have := hfine.nf; rw [hf.len] at this; exact this
    have hm : m ≤ 32 := by have := hfine.nz; rw [hz.len] at this; exact this
    have HI := Lib.hid (fun (fe ki : Int) W (hW : Below w.heap.size w W) => index_any base A Bz n c m d s fe ki W (hf.below hW) (hz.below hW) (by omega) (by omega))
    have HZ := Lib.hid (fun (fe ki : Int) W (hW : Below w.heap.size w W) => zone_any base A Bz n c m d s.zs fe ki W (hz.below hW) (by omega))
    have HF := Lib.hid (fun (i : Nat) (hi : i < n) => IsFs.cells hf i hi)
    have HY := Lib.hid (fun (i : Nat) (hi : i < m) => IsZs.cells hz i hi)
    have HR1 := Lib.hid (fun W => rFrom_any 0 1 W (Nat.zero_le _) (by decide) (by decide))
    have HR2 := Lib.hid (fun W => rFrom_any 0 (-1) W (Nat.zero_le _) (by decide) (by decide))
    have HG := Lib.hid (fun W (hW : Below w.heap.size w W) => hg.below hW)
    have hlen := Lib.hid hf.len
    have hlenz := Lib.hid hz.len
    have hfine := Lib.hid hfine
    clear hf hz hE hg
    go_enter Tryz.func12, Tryz.ntmps12
    go_wp2_with fail
    refine (H.out _ (by repeat (first | exact Below.refl _ _ | with_reducible assumption | apply below_alloc | apply below_drewN | apply below_drew | refine below_set ?_ (by simp; try omega) _ | refine below_then ?_ (by with_reducible assumption)))).mono ?_
    rintro e w1 ⟨rfl, hb⟩
    have a0 := keptc hb w.heap.size 0 (.slice A n c) (by simp [go_sem])
    have a1 := keptc hb w.heap.size 1 (.slice Bz m d) (by simp [go_sem])
    have B1 := Lib.hid (below_then (w := w) (by repeat (first | exact Below.refl _ _ | with_reducible assumption | apply below_alloc | apply below_drewN | apply below_drew | refine below_set ?_ (by simp; try omega) _ | refine below_then ?_ (by with_reducible assumption))) hb)
    have hw2 : w.heap.size < w1.heap.size := World.block_lt_of_cell? w1 _ a0
    clear hb H
    go_wp2_with fail
    go_loopw [5, 24] (fun v q wr => ∃ (i : Nat) (rs : List CRow), i ≤ m ∧ q = .int .i64 (i : Int) ∧ Hid (wr.ownsRow w1.heap.size 53 3 v rs.length (flat encC rs)) ∧ Hid (RowsOk wr rs (consTo s i)) ∧ Below w1.heap.size w1 wr) (fun _ q _ => m - (intOf q).toNat)
    case atStart => exact ⟨0, [], Nat.zero_le _, rfl, Lib.hid (own_nil _ _ _ _), Lib.hid trivial, (by repeat (first | exact Below.refl _ _ | with_reducible assumption | apply below_alloc | apply below_drewN | apply below_drew | refine below_set ?_ (by simp; try omega) _ | refine below_then ?_ (by with_reducible assumption)))⟩
    case round =>
      obtain ⟨i, rs, hi, rfl, hown, hrows, hb⟩ := hrel
      have c0 := cell_below hb a0
      have c1 := cell_below hb a1
      have hsz := hb.size
      have hcnt : rs.length ≤ 64 := by have h1 := hrows.out.len; have h2 := consTo_len s i; omega
      by_cases hlt : i < m
      · obtain ⟨az, ez, z0, z1, z2, z3, z4⟩ := HY.out i hlt
        subst ez
        have B1w := below_then B1.out hb
        have z0 := cell_below B1w z0
        have z1 := cell_below B1w z1
        have z2 := cell_below B1w z2
        have z3 := cell_below B1w z3
        have z4 := cell_below B1w z4
        have hct : Hid (consTo s (i + 1) = consTo s i ++ consAt s (s.zs.getD i zd)) := Lib.hid rfl
        have hzo := hfine.out.zoneOk i (by rw [hlenz.out]; exact hlt)
        rw [hlen.out] at hzo
        generalize s.zs.getD i zd = z at z0 z1 z2 z3 z4 hct hzo
        obtain ⟨zk, zf, lo, up, bo⟩ := z
        obtain ⟨k1, k3, f0, fn, form, blo, bup, ord⟩ := hzo
        dsimp only at z0 z1 z2 z3 z4 k1 k3 f0 fn form blo bup ord
        obtain ⟨fe, rfl⟩ := Int.eq_ofNat_of_zero_le f0
        have hfe : fe < n := by omega
        have i0 : (0 : Int) ≤ (i : Int) := by omega
        have i1 : (i : Int) < (m : Int) := by omega
        have hlt1 := World.block_lt_of_cell? wr _ z0
        have hne1 : ¬ (az.add (i * 5)).block = wr.heap.size := Nat.ne_of_lt hlt1
        have hws : w.heap.size < wr.heap.size := by omega
        have hws' : ¬ w.heap.size = wr.heap.size := by omega
        clear HY
        cases bo
        · go_wp2_with fail
          go_roundw
          case rel => exact ⟨i + 1, rs, by omega, by go_num, Lib.hid (own_below hown.out (below_alloc (Below.refl _ _))), Lib.hid (by rw [hct.out]; simpa [consAt] using hrows.out.keeps (Keeps.of_below (below_alloc (Below.refl _ _)))), below_alloc hb⟩
          case measure => simp [intOf]; omega
        · obtain ⟨af, eaf, y0, y1, y2, y3, y4, y5⟩ := HF.out fe hfe
          subst eaf
          have y0 := cell_below B1w y0
          have y1 := cell_below B1w y1
          have y2 := cell_below B1w y2
          have y3 := cell_below B1w y3
          have y4 := cell_below B1w y4
          have y5 := cell_below B1w y5
          have hlt2 := World.block_lt_of_cell? wr _ y0
          have hne2 : ¬ (af.add (fe * 6)).block = wr.heap.size := Nat.ne_of_lt hlt2
          have hfo := hfine.out.featOk fe (by rw [hlen.out]; exact hfe)
          have hca : consAt s ⟨zk, (fe : Int), lo, up, true⟩ = [⟨(s.fs.getD fe fd).name ++ ⟨#[46, 97, 98, 111, 118, 101]⟩, ⟨(s.fs.getD fe fd).wide + ((zoneOf s.zs fe 2).getD zd).lower - (s.fs.getD fe fd).at_ - up, tm (two (indexOf s fe 1) 1 (indexOf s fe 2) (-1)) 48⟩⟩,
            ⟨(s.fs.getD fe fd).name ++ ⟨#[46, 98, 101, 108, 111, 119]⟩, ⟨(s.fs.getD fe fd).wide + ((zoneOf s.zs fe 2).getD zd).lower + (s.fs.getD fe fd).at_ + lo, tm (two (indexOf s fe 1) (-1) (indexOf s fe 2) (-1)) 48⟩⟩] := by
            unfold consAt
            simp
          have hpw := index_ne (s := s) (fe := fe) (by rw [hlen.out]; exact hfe)
          have HI1 := Lib.hid (HI.out fe 1)
          have HI2 := Lib.hid (HI.out fe 2)
          have HZ2 := Lib.hid (HZ.out fe 2)
          have bw := hfine.out.bounds fe 2
          unfold RetZone at HZ2
          generalize indexOf s fe 1 = p at hca hpw HI1
          generalize indexOf s fe 2 = wi at hca hpw HI2
          generalize (zoneOf s.zs fe 2).isSome = yi at HZ2
          generalize (zoneOf s.zs fe 2).getD zd = y at hca bw HZ2
          generalize s.fs.getD fe fd = f at y0 y1 y2 y3 y4 y5 hca hfo
          obtain ⟨name, kind, axis, datum, at_, wide⟩ := f
          obtain ⟨yk, yf, yl, yu, yb⟩ := y
          dsimp only at y0 y1 y2 y3 y4 y5 bw HZ2 hca hfo
          obtain ⟨bw1, bw2, _, _⟩ := bw
          obtain ⟨nat1, nat2⟩ := hfo.at_
          obtain ⟨nw1, nw2⟩ := hfo.wide
          have hnm := hfo.len
          dsimp only at nat1 nat2 nw1 nw2 hnm
          have f1 : (fe : Int) < (n : Int) := by omega
          rw [hca] at hct
          clear HI HZ HF hca hfo
          go_wp2_with fail
          refine (HZ2.out _ (by repeat (first | exact Below.refl _ _ | with_reducible assumption | apply below_alloc | apply below_drewN | apply below_drew | refine below_set ?_ (by simp; try omega) _ | refine below_then ?_ (by with_reducible assumption)))).mono ?_
          rintro e w3 ⟨rfl, hb3⟩
          have t0 := keptc hb3 (wr.heap.size) 0 (.int .i64 zk) (by first | with_reducible assumption | (simp [go_sem]; done)); have t1 := keptc hb3 (wr.heap.size) 1 (.int .i64 (fe : Int)) (by first | with_reducible assumption | (simp [go_sem]; done)); have t2 := keptc hb3 (wr.heap.size) 2 (.int .i64 lo) (by first | with_reducible assumption | (simp [go_sem]; done)); have t3 := keptc hb3 (wr.heap.size) 3 (.int .i64 up) (by first | with_reducible assumption | (simp [go_sem]; done)); have t4 := keptc hb3 (wr.heap.size) 4 (.bool true) (by first | with_reducible assumption | (simp [go_sem]; done)); have ft0 := keptF hb3 (g := wr.heap.size) (o := 0) (v := .int .i64 zk) (by first | with_reducible assumption | (simp [go_sem]; done)) (by first | with_reducible assumption | (simp [go_sem]; done)); have ft1 := keptF hb3 (g := wr.heap.size) (o := 1) (v := .int .i64 (fe : Int)) (by first | with_reducible assumption | (simp [go_sem]; done)) (by first | with_reducible assumption | (simp [go_sem]; done)); have ft2 := keptF hb3 (g := wr.heap.size) (o := 2) (v := .int .i64 lo) (by first | with_reducible assumption | (simp [go_sem]; done)) (by first | with_reducible assumption | (simp [go_sem]; done)); have ft3 := keptF hb3 (g := wr.heap.size) (o := 3) (v := .int .i64 up) (by first | with_reducible assumption | (simp [go_sem]; done)) (by first | with_reducible assumption | (simp [go_sem]; done)); have ft4 := keptF hb3 (g := wr.heap.size) (o := 4) (v := .bool true) (by first | with_reducible assumption | (simp [go_sem]; done)) (by first | with_reducible assumption | (simp [go_sem]; done))
          have v0 := keptc hb3 (wr.heap.size + 1) 0 (.string name) (by first | with_reducible assumption | (simp [go_sem]; done)); have v1 := keptc hb3 (wr.heap.size + 1) 1 (.int .i64 kind) (by first | with_reducible assumption | (simp [go_sem]; done)); have v2 := keptc hb3 (wr.heap.size + 1) 2 (.int .i64 axis) (by first | with_reducible assumption | (simp [go_sem]; done)); have v3 := keptc hb3 (wr.heap.size + 1) 3 (.int .i64 datum) (by first | with_reducible assumption | (simp [go_sem]; done)); have v4 := keptc hb3 (wr.heap.size + 1) 4 (.int .i64 at_) (by first | with_reducible assumption | (simp [go_sem]; done)); have v5 := keptc hb3 (wr.heap.size + 1) 5 (.int .i64 wide) (by first | with_reducible assumption | (simp [go_sem]; done)); have fv0 := keptF hb3 (g := wr.heap.size + 1) (o := 0) (v := .string name) (by first | with_reducible assumption | (simp [go_sem]; done)) (by first | with_reducible assumption | (simp [go_sem]; done)); have fv1 := keptF hb3 (g := wr.heap.size + 1) (o := 1) (v := .int .i64 kind) (by first | with_reducible assumption | (simp [go_sem]; done)) (by first | with_reducible assumption | (simp [go_sem]; done)); have fv2 := keptF hb3 (g := wr.heap.size + 1) (o := 2) (v := .int .i64 axis) (by first | with_reducible assumption | (simp [go_sem]; done)) (by first | with_reducible assumption | (simp [go_sem]; done)); have fv3 := keptF hb3 (g := wr.heap.size + 1) (o := 3) (v := .int .i64 datum) (by first | with_reducible assumption | (simp [go_sem]; done)) (by first | with_reducible assumption | (simp [go_sem]; done)); have fv4 := keptF hb3 (g := wr.heap.size + 1) (o := 4) (v := .int .i64 at_) (by first | with_reducible assumption | (simp [go_sem]; done)) (by first | with_reducible assumption | (simp [go_sem]; done)); have fv5 := keptF hb3 (g := wr.heap.size + 1) (o := 5) (v := .int .i64 wide) (by first | with_reducible assumption | (simp [go_sem]; done)) (by first | with_reducible assumption | (simp [go_sem]; done))
          have B3 := below_then (w := wr) (by repeat (first | exact Below.refl _ _ | apply below_alloc | apply below_drewN | apply below_drew)) hb3
          have c0 := cell_below B3 c0
          have c1 := cell_below B3 c1
          have O := Lib.hid (own_below hown.out B3)
          have R := Lib.hid (hrows.out.keeps (Keeps.of_below B3))
          have B := Lib.hid (below_then hb B3)
          have hk5 := Lib.hid (fun k hk => And.intro (own_base hown.out k hk) (own_lt hown.out k hk))
          have hs3 : wr.heap.size + 1 < w3.heap.size := World.block_lt_of_cell? w3 _ v0
          clear hb3 B3 hown hrows hb y0 y1 y2 y3 y4 y5 z0 z1 z2 z3 z4 HZ2 B1w ft0 ft1 ft2 ft3 ft4 fv0 fv1 fv2 fv3 fv4 fv5
          obtain ⟨W4, e4⟩ : ∃ W4 : World, W4 = w3.alloc (.cells #[.int .i64 yk, .int .i64 yf, .int .i64 yl, .int .i64 yu, .bool yb] 30) := ⟨_, rfl⟩
          go_wp2_with fail
          rw [← e4]
          have hB4 : Below w3.heap.size w3 W4 := by rw [e4]; exact below_alloc (Below.refl _ _)
          have y2 : W4.cell? ⟨w3.heap.size, 2, none⟩ = some (.int .i64 yl) := by rw [e4]; simp [go_sem]
          have c0 := cell_below hB4 c0
          have c1 := cell_below hB4 c1
          have t1 := cell_below hB4 t1
          have t2 := cell_below hB4 t2
          have t3 := cell_below hB4 t3
          have v0 := cell_below hB4 v0
          have v4 := cell_below hB4 v4
          have v5 := cell_below hB4 v5
          have O := Lib.hid (own_below O.out hB4)
          have R := Lib.hid (R.out.keeps (Keeps.of_below hB4))
          have B := Lib.hid (below_then B.out hB4)
          have hs34 : w3.heap.size < W4.heap.size := World.block_lt_of_cell? W4 _ y2
          clear hB4 e4
          go_region_held3 (fun w' => w'.cell? ⟨w.heap.size, 0, none⟩ = some (.slice (some af) n c) ∧ w'.cell? ⟨w.heap.size, 1, none⟩ = some (.slice (some az) m d) ∧ w'.cell? ⟨wr.heap.size, 1, none⟩ = some (.int .i64 (fe : Int)))
            (first
              | exact ⟨cell_below B6 c0, cell_below B6 c1, cell_below B6 t1⟩
              | exact ⟨cell_below B5 c0, cell_below B5 c1, cell_below B5 t1⟩
              | exact ⟨c0, c1, t1⟩)
            (first
              | (go_at_call 37; with_reducible refine (HI1.out _ ?hb9).mono ?_; (case hb9 => exact below_then B1.out (by repeat (first | exact B.out | exact Below.refl _ _ | apply below_alloc | apply below_drewN | apply below_drew))); rintro e w5 ⟨rfl, hb5⟩; have B5 := below_then (w := W4) (by repeat (first | exact Below.refl _ _ | apply below_alloc | apply below_drewN | apply below_drew)) hb5; clear hb5)
              | (go_at_call 37; with_reducible refine (HI2.out _ ?hb9).mono ?_; (case hb9 => exact below_then B1.out (below_then B.out B5)); rintro e w6 ⟨rfl, hb6⟩; have B6 := below_then B5 hb6; clear hb6))
          have t2 := cell_below B6 t2
          have t3 := cell_below B6 t3
          have v0 := cell_below B6 v0
          have v4 := cell_below B6 v4
          have v5 := cell_below B6 v5
          have y2 := cell_below B6 y2
          have O := Lib.hid (own_below O.out B6)
          have R := Lib.hid (R.out.keeps (Keeps.of_below B6))
          have B := Lib.hid (below_then B.out B6)
          go_wp2_with fail
          refine (HR1.out _).mono ?_
          rintro e w7 ⟨m1, rfl, hq1, hb7⟩
          go_wp2_with fail
          refine (HR2.out _).mono ?_
          rintro e w8 ⟨m2, rfl, hq2, hb8⟩
          have B8 := below_then hb7 hb8
          have hq1 := hq1.below hb8
          have t2 := cell_below B8 t2
          have t3 := cell_below B8 t3
          have v0 := cell_below B8 v0
          have v4 := cell_below B8 v4
          have O := Lib.hid (own_below O.out B8)
          have R := Lib.hid (R.out.keeps (Keeps.of_below B8))
          have B := Lib.hid (below_then B.out B8)
          obtain ⟨W9, e9⟩ : ∃ W9 : World, W9 = (w8.alloc (.cells #[.bool m1.a.p, .slice m1.a.A m1.a.n m1.a.c, .bool m1.b.p, .slice m1.b.A m1.b.n m1.b.c] 90)).alloc (.cells #[.bool m2.a.p, .slice m2.a.A m2.a.n m2.a.c, .bool m2.b.p, .slice m2.b.A m2.b.n m2.b.c] 90) := ⟨_, rfl⟩
          go_wp2_with fail
          rw [← e9]
          have hB9 : Below w8.heap.size w8 W9 := by rw [e9]; exact below_alloc (below_alloc (Below.refl _ _))
          have t2 := cell_below hB9 t2
          have t3 := cell_below hB9 t3
          have v0 := cell_below hB9 v0
          have v4 := cell_below hB9 v4
          have O := own_below O.out hB9
          have R := R.out.keeps (Keeps.of_below hB9)
          have B9 := below_then B.out hB9
          have hq1 := hq1.below hB9
          have hq2 := hq2.below hB9
          have D9 : Below W9.heap.size W9 W9.drew := below_drew (Below.refl _ _)
          have O := own_below O D9
          have R := R.keeps (Keeps.of_below D9)
          have hq1 := hq1.below D9
          have hq2 := hq2.below D9
          have B9 : Below w1.heap.size w1 W9.drew := below_drew B9
          have hG9 := HG.out _ (below_then B1.out B9)
          have g0 : W9.cell? ⟨w8.heap.size, 0, none⟩ = some (.bool m1.a.p) := by rw [e9]; simp [go_sem]
          have g1 : W9.cell? ⟨w8.heap.size, 1, none⟩ = some (.slice m1.a.A m1.a.n m1.a.c) := by rw [e9]; simp [go_sem]
          have g2 : W9.cell? ⟨w8.heap.size, 2, none⟩ = some (.bool m1.b.p) := by rw [e9]; simp [go_sem]
          have g3 : W9.cell? ⟨w8.heap.size, 3, none⟩ = some (.slice m1.b.A m1.b.n m1.b.c) := by rw [e9]; simp [go_sem]
          have g4 : W9.cell? ⟨w8.heap.size + 1, 0, none⟩ = some (.bool m2.a.p) := by rw [e9]; simp [go_sem]
          have g5 : W9.cell? ⟨w8.heap.size + 1, 1, none⟩ = some (.slice m2.a.A m2.a.n m2.a.c) := by rw [e9]; simp [go_sem]
          have g6 : W9.cell? ⟨w8.heap.size + 1, 2, none⟩ = some (.bool m2.b.p) := by rw [e9]; simp [go_sem]
          have g7 : W9.cell? ⟨w8.heap.size + 1, 3, none⟩ = some (.slice m2.b.A m2.b.n m2.b.c) := by rw [e9]; simp [go_sem]
          have hs8 : wr.heap.size + 1 < w8.heap.size := by have h1 := B6.size; have h2 := B8.size; omega
          refine con_region _ (by kernel_rfl) ⟨u5, rs.length, flat encC rs, w1.heap.size, wr.heap.size, wr.heap.size + 1, w8.heap.size, w8.heap.size + 1, name, at_, lo, up, wide + yl, p, wi, m1, m2⟩ W9 ?hA ?hQ
          case hA =>
            exact ⟨v0, v4, t3, t2, g0, g1, g2, g3, g4, g5, g6, g7, fun k hk => by have := hk5.out k hk; dsimp only; omega, hnm, by dsimp only; omega, by dsimp only; omega, by dsimp only; omega, by dsimp only; omega, hpw, B9.size, O, by dsimp only; omega, by simpa using hq1, by simpa using hq2, hG9⟩
          case hQ =>
            intro E w9 hf9
            obtain ⟨ho9, hgr9, r1, r2⟩ := hf9
            go_wp2_with fail
            go_roundw
            case rel =>
              refine ⟨i + 1, rs ++ [⟨name ++ ⟨#[46, 97, 98, 111, 118, 101]⟩, wide + yl - at_ - up, E.A1, E.n1, E.c1⟩, ⟨name ++ ⟨#[46, 98, 101, 108, 111, 119]⟩, wide + yl + at_ + lo, E.A2, E.n2, E.c2⟩], by omega, by go_num, Lib.hid (own_cast ho9 (by simp) (by rw [flat_app]; rfl)), Lib.hid ?_, below_grownB B9 B9.size hgr9 (fun k hk => (hk5.out k hk).1)⟩
              rw [hct.out]
              exact RowsOk.app (R.keeps (Keeps.of_grown hgr9 O (Nat.zero_le _) (by decide))) ⟨rfl, rfl, r1, rfl, rfl, r2, trivial⟩
            case measure => simp [intOf]; omega
      · obtain rfl : i = m := by omega
        have hl := hlenz.out
        obtain ⟨A9, c9, rfl, hc9⟩ := own_slice hown.out
        go_wp2_with fail
        go_ret2
        exact ⟨A9, _, c9, rs, rfl, ⟨rfl, hc9, Reads.of_own hown.out⟩, by unfold consOf; rw [hl]; exact hrows.out, below_then B1.out hb⟩
  · rw [if_neg hE]
    generalize checkE s = E at *
    clear hf hz hg
    have hEd : (E != 0) = true := by simpa using hE
    go_enter Tryz.func12, Tryz.ntmps12
    go_wp2_with fail
    refine (H.out _ (by repeat (first | exact Below.refl _ _ | with_reducible assumption | apply below_alloc | apply below_drewN | apply below_drew | refine below_set ?_ (by simp; try omega) _ | refine below_then ?_ (by with_reducible assumption)))).mono ?_
    rintro e w1 ⟨rfl, hb⟩
    have B1 := Lib.hid (below_then (w := w) (by repeat (first | exact Below.refl _ _ | with_reducible assumption | apply below_alloc | apply below_drewN | apply below_drew | refine below_set ?_ (by simp; try omega) _ | refine below_then ?_ (by with_reducible assumption))) hb)
    clear hb H
    go_wp2_with fail
    go_ret2
    exact ⟨none, 0, 0, [], rfl, ⟨rfl, Nat.le_refl _, Reads.nil⟩, trivial, B1.out⟩
end Go.Proofs.YtpifbaiibhaklaaGreatDoor
