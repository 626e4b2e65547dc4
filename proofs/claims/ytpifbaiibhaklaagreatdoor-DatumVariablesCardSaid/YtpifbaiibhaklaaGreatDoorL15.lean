/- What the law compares: terms, forms, constraints, dimensions, keys.
  What the law compares: constraints one by one; the index of a key. -/
import Derived.Test.YtpifbaiibhaklaaGreatDoorL6
import Derived.Test.YtpifbaiibhaklaaGreatDoorL4
import Derived.Test.YtpifbaiibhaklaaGreatDoorL5
import Derived.Test.YtpifbaiibhaklaaGreatDoorL14
namespace Go.Proofs.YtpifbaiibhaklaaGreatDoor
open Go.RowKit Big
set_option maxHeartbeats 4000000
set_option linter.unusedVariables false
set_option linter.unusedSimpArgs false

theorem eq_term (s t : ByteArray) (a d : Int) (w : World) : (binOp .eql 100 (.agg #[.int .i64 a, .string s]) (.agg #[.int .i64 d, .string t])).run Tryz.prog w = .ok (.bool ((a == d) && (s.toList == t.toList))) w := by
  have u3 := Tryz.underlying3
  have a3 := Tryz.isAgg3
  have z3 := Tryz.sizeOf3
  have u9 := Tryz.underlying48
  have a9 := Tryz.isAgg48
  have z9 := Tryz.sizeOf48
  have hS : Tryz.prog.underlying 100 = some (.struct (Tryz.prog.fieldsOf 100)) := by kernel_rfl
  have hp : Tryz.prog.stoodInHeld 100 = false := by kernel_rfl
  rw [run_eql_struct, show (10000 : Nat) = 9999 + 1 from rfl, run_equalIn_agg w 9999 100 _ _ hS hp]
  simp only [Program.fieldsOf, Tryz.underlying100]
  go_simp
  by_cases h0 : s.toList = t.toList <;> by_cases h1 : a = d <;> simp [h0, h1]
theorem gd_term : Tryz.prog.eqGuardType Tryz.prog.depth 100 = false := by kernel_rfl
theorem tcell {base : Nat} {t : TypeId} {w : World} {A : Option Addr} {n c : Nat} {l : List (Nat × Int)} (h : IsRow encT 2 base t w A n c l) (i : Nat) (hi : i < n) : ∃ ad : Addr, A = some ad ∧
    w.cell? (ad.add (i * 2)) = some (.int .i64 ((l.getD i (0, 0)).1 : Int)) ∧ w.cell? ⟨(ad.add (i * 2)).block, (ad.add (i * 2)).off + 1, none⟩ = some (.string (bs (Lib.itoa (l.getD i (0, 0)).2))) := by
  obtain ⟨ad, e, hc⟩ := h.at_ encT_len (by decide) (0, 0) i hi
  exact ⟨ad, e, hc 0 _ rfl, add_mid ad _ 1 (by decide) ▸ hc 1 _ rfl⟩
set_option maxRecDepth 100000 in
theorem EqualTerms_same (b1 b2 : Nat) (A B : Option Addr) (n c1 c2 : Nat) (l : List (Nat × Int)) (w : World) (h1 : IsRow encT 2 b1 100 w A n c1 l) (h2 : IsRow encT 2 b2 100 w B n c2 l) (hn : n ≤ 1000000) :
    Calls Tryz.prog 45 #[.slice A n c1, .slice B n c2] w fun e w' => e = .returned (.bool true) ∧ Below w.heap.size w w' := by
  have H1 := Lib.hid (fun W (hW : Below w.heap.size w W) => h1.below hW)
  have H2 := Lib.hid (fun W (hW : Below w.heap.size w W) => h2.below hW)
  have he := fun a b c d w => eq_term a b c d w
  have hm := gd_term
  clear h1 h2
  go_enter Tryz.func45, Tryz.ntmps45
  go_wp2_with fail
  go_loopw [13] (fun q wr => ∃ (i : Nat), i ≤ n ∧ q = .int .i64 (i : Int) ∧ Below w.heap.size w wr) (fun q _ => n - (intOf q).toNat)
  case atStart => exact ⟨0, Nat.zero_le _, rfl, (by repeat (first | exact Below.refl _ _ | with_reducible assumption | apply below_alloc | apply below_drewN | apply below_drew | refine below_set ?_ (by simp; try omega) _ | refine below_then ?_ (by with_reducible assumption)))⟩
  case round =>
    obtain ⟨i, hi, rfl, hb⟩ := hrel
    have Hb := Lib.hid hb
    by_cases hlt : i < n
    · obtain ⟨ad, ea, x0, x1⟩ := tcell (H1.out wr hb) i hlt
      subst ea
      obtain ⟨ae, eb, y0, y1⟩ := tcell (H2.out wr hb) i hlt
      subst eb
      generalize l.getD i (0, 0) = x at x0 x1 y0 y1
      have i0 : (0 : Int) ≤ (i : Int) := by omega
      have i1 : (i : Int) < (n : Int) := by omega
      clear hb
      go_wp2_with fail
      go_quiet (fail)
      go_wp2_with fail
      go_roundw
      case rel => exact ⟨i + 1, by omega, by go_num, by have := Hb.out; exact (by repeat (first | exact Below.refl _ _ | with_reducible assumption | apply below_alloc | apply below_drewN | apply below_drew | refine below_set ?_ (by simp; try omega) _ | refine below_then ?_ (by with_reducible assumption)))⟩
      case measure => simp [intOf]; omega
    · obtain rfl : n = i := by omega
      clear hb
      go_wp2_with fail
      go_ret
      exact ⟨rfl, Hb.out⟩
theorem dcell {base : Nat} {t : TypeId} {w : World} {A : Option Addr} {n c : Nat} {l : List Dim} (h : IsRow encD 4 base t w A n c l) (i : Nat) (hi : i < n) : ∃ ad : Addr, A = some ad ∧ ∃ d : Dim,
    d = l.getD i ⟨⟨#[]⟩, 0, 0, 0⟩ ∧ w.cell? (ad.add (i * 4)) = some (.string d.name) ∧ w.cell? ⟨(ad.add (i * 4)).block, (ad.add (i * 4)).off + 1, none⟩ = some (.int .i64 d.nominal) ∧ w.cell? ⟨(ad.add (i * 4)).block, (ad.add (i * 4)).off + 2, none⟩ = some (.int .i64 d.lower) ∧ w.cell? ⟨(ad.add (i * 4)).block, (ad.add (i * 4)).off + 3, none⟩ = some (.int .i64 d.upper) := by
  obtain ⟨ad, e, hc⟩ := h.at_ encD_len (by decide) ⟨⟨#[]⟩, 0, 0, 0⟩ i hi
  exact ⟨ad, e, _, rfl, hc 0 _ rfl, add_mid ad _ 1 (by decide) ▸ hc 1 _ rfl, add_mid ad _ 2 (by decide) ▸ hc 2 _ rfl, add_mid ad _ 3 (by decide) ▸ hc 3 _ rfl⟩
set_option maxRecDepth 100000 in
theorem EqualDims_same (b1 b2 : Nat) (A B : Option Addr) (n c1 c2 : Nat) (l : List Dim) (w : World) (h1 : IsRow encD 4 b1 46 w A n c1 l) (h2 : IsRow encD 4 b2 46 w B n c2 l) (hn : n ≤ 1000000) :
    Calls Tryz.prog 14 #[.slice A n c1, .slice B n c2] w fun e w' => e = .returned (.bool true) ∧ Below w.heap.size w w' := by
  have H1 := Lib.hid (fun W (hW : Below w.heap.size w W) => h1.below hW)
  have H2 := Lib.hid (fun W (hW : Below w.heap.size w W) => h2.below hW)
  have he := fun a b c d e f g h w => eq_dim a b c d e f g h w
  have hm := gd_dim
  clear h1 h2
  go_enter Tryz.func14, Tryz.ntmps14
  go_wp2_with fail
  go_loopw [13] (fun q wr => ∃ (i : Nat), i ≤ n ∧ q = .int .i64 (i : Int) ∧ Below w.heap.size w wr) (fun q _ => n - (intOf q).toNat)
  case atStart => exact ⟨0, Nat.zero_le _, rfl, (by repeat (first | exact Below.refl _ _ | with_reducible assumption | apply below_alloc | apply below_drewN | apply below_drew | refine below_set ?_ (by simp; try omega) _ | refine below_then ?_ (by with_reducible assumption)))⟩
  case round =>
    obtain ⟨i, hi, rfl, hb⟩ := hrel
    have Hb := Lib.hid hb
    by_cases hlt : i < n
    · obtain ⟨ad, ea, d1, ed1, x0, x1, x2, x3⟩ := dcell (H1.out wr hb) i hlt
      subst ea
      obtain ⟨ae, eb, d2, ed2, y0, y1, y2, y3⟩ := dcell (H2.out wr hb) i hlt
      subst eb
      obtain rfl : d1 = d2 := by rw [ed1, ed2]
      have i0 : (0 : Int) ≤ (i : Int) := by omega
      have i1 : (i : Int) < (n : Int) := by omega
      clear hb ed1 ed2
      go_wp2_with fail
      go_quiet (fail)
      go_wp2_with fail
      go_roundw
      case rel => exact ⟨i + 1, by omega, by go_num, by have := Hb.out; exact (by repeat (first | exact Below.refl _ _ | with_reducible assumption | apply below_alloc | apply below_drewN | apply below_drew | refine below_set ?_ (by simp; try omega) _ | refine below_then ?_ (by with_reducible assumption)))⟩
      case measure => simp [intOf]; omega
    · obtain rfl : n = i := by omega
      clear hb
      go_wp2_with fail
      go_ret
      exact ⟨rfl, Hb.out⟩
/-- Two forms with the same constant and the same terms. -/
theorem sameForm_same (b1 b2 : Nat) (A B : Option Addr) (n c1 c2 : Nat) (k : ByteArray) (l : List (Nat × Int)) (w : World) (h1 : IsRow encT 2 b1 100 w A n c1 l) (h2 : IsRow encT 2 b2 100 w B n c2 l) (hn : n ≤ 1000000) :
    Calls Tryz.prog 18 #[.agg #[.string k, .slice A n c1], .agg #[.string k, .slice B n c2]] w fun e w' => e = .returned (.bool true) ∧ Below w.heap.size w w' := by
  have H := Lib.hid (fun W (hW : Below w.heap.size w W) => EqualTerms_same b1 b2 A B n c1 c2 l W (h1.below hW) (h2.below hW) hn)
  clear h1 h2
  go_enter Tryz.func18, Tryz.ntmps18
  go_wp2_with fail
  refine (H.out _ (by repeat (first | exact Below.refl _ _ | with_reducible assumption | apply below_alloc | apply below_drewN | apply below_drew | refine below_set ?_ (by simp; try omega) _ | refine below_then ?_ (by with_reducible assumption)))).mono ?_
  rintro e w1 ⟨rfl, hb⟩
  have B1 := Lib.hid (below_then (w := w) (by repeat (first | exact Below.refl _ _ | with_reducible assumption | apply below_alloc | apply below_drewN | apply below_drew | refine below_set ?_ (by simp; try omega) _ | refine below_then ?_ (by with_reducible assumption))) hb)
  clear hb
  go_wp2_with fail
  go_ret
  exact ⟨rfl, B1.out⟩
theorem sameCon (b1 b2 : Nat) (A B : Option Addr) (n c1 c2 : Nat) (k nm : ByteArray) (l : List (Nat × Int)) (w : World) (h1 : IsRow encT 2 b1 100 w A n c1 l) (h2 : IsRow encT 2 b2 100 w B n c2 l) (hn : n ≤ 1000000) :
    Calls Tryz.prog 17 #[.agg #[.string nm, .string k, .slice A n c1], .agg #[.string nm, .string k, .slice B n c2]] w fun e w' => e = .returned (.bool true) ∧ Below w.heap.size w w' := by
  have H := Lib.hid (fun W (hW : Below w.heap.size w W) => sameForm_same b1 b2 A B n c1 c2 k l W (h1.below hW) (h2.below hW) hn)
  clear h1 h2
  go_enter Tryz.func17, Tryz.ntmps17
  go_wp2_with fail
  refine (H.out _ (by repeat (first | exact Below.refl _ _ | with_reducible assumption | apply below_alloc | apply below_drewN | apply below_drew | refine below_set ?_ (by simp; try omega) _ | refine below_then ?_ (by with_reducible assumption)))).mono ?_
  rintro e w1 ⟨rfl, hb⟩
  have B1 := Lib.hid (below_then (w := w) (by repeat (first | exact Below.refl _ _ | with_reducible assumption | apply below_alloc | apply below_drewN | apply below_drew | refine below_set ?_ (by simp; try omega) _ | refine below_then ?_ (by with_reducible assumption))) hb)
  clear hb
  go_wp2_with fail
  go_ret
  exact ⟨rfl, B1.out⟩
end Go.Proofs.YtpifbaiibhaklaaGreatDoor
namespace Go.Proofs.YtpifbaiibhaklaaGreatDoor
open Go.RowKit Big
set_option maxHeartbeats 4000000
set_option linter.unusedVariables false
set_option linter.unusedSimpArgs false

set_option maxRecDepth 100000 in
theorem IndexKey_any (base : Nat) (A : Option Addr) (n c : Nat) (vs : List Vr) (fe ki : Int) (w : World) (h : IsRow encV 2 base 61 w A n c vs) (hn : n ≤ 1000000) :
    Calls Tryz.prog 20 #[.slice A n c, .agg #[.int .i64 fe, .int .i64 ki]] w fun e w' => e = .returned (.int .i64 (idxI (isV fe ki) vs)) ∧ Below w.heap.size w w' := by
  have hlen := Lib.hid h.len
  have he := fun a b c d w => eq_key a b c d w
  have hm := gd_key
  go_enter Tryz.func20, Tryz.ntmps20
  go_wp2_with fail
  go_loopw [8] (fun q wr => ∃ (i : Nat), i ≤ n ∧ q = .int .i64 (i : Int) ∧ Hid ((vs.take i).any (isV fe ki) = false) ∧ Below w.heap.size w wr ∧ wr.cell? ⟨w.heap.size, 0, none⟩ = some (.int .i64 fe) ∧ wr.cell? ⟨w.heap.size, 1, none⟩ = some (.int .i64 ki)) (fun q _ => n - (intOf q).toNat)
  case atStart => exact ⟨0, Nat.zero_le _, rfl, Lib.hid rfl, (by repeat (first | exact Below.refl _ _ | with_reducible assumption | apply below_alloc | apply below_drewN | apply below_drew | refine below_set ?_ (by simp; try omega) _ | refine below_then ?_ (by with_reducible assumption))), by simp [go_sem], by simp [go_sem]⟩
  case round =>
    obtain ⟨i, hi, rfl, ha, hb, c0, c1⟩ := hrel
    have Hb := Lib.hid hb
    by_cases hlt : i < n
    · obtain ⟨ad, ea, x0, x1⟩ := vcellsAt (h.below hb) i hlt
      subst ea
      have i0 : (0 : Int) ≤ (i : Int) := by omega
      have i1 : (i : Int) < (n : Int) := by omega
      have Hs := Lib.hid (any_take_succ (isV fe ki) vs vd i (by rw [hlen.out]; exact hlt))
      have Hf := Lib.hid (idxI_found (isV fe ki) vs vd i (by rw [hlen.out]; exact hlt) ha.out)
      clear hb
      have hp : ((fe == ((vs.getD i vd).feature : Int)) && (ki == (vs.getD i vd).kind)) = isV fe ki (vs.getD i vd) := rfl
      generalize vs.getD i vd = f at x0 x1 Hs Hf hp
      generalize isV fe ki f = r at Hs Hf hp
      obtain ⟨f1, f2⟩ := f
      dsimp only at x0 x1 hp
      go_wp2_with fail
      go_quiet (fail)
      clear hp
      cases r
      · go_wp2_with fail
        go_roundw
        case rel => exact ⟨i + 1, by omega, by go_num, Lib.hid (by rw [Hs.out, ha.out]; rfl), by have := Hb.out; exact (by repeat (first | exact Below.refl _ _ | with_reducible assumption | apply below_alloc | apply below_drewN | apply below_drew | refine below_set ?_ (by simp; try omega) _ | refine below_then ?_ (by with_reducible assumption))), c0, c1⟩
        case measure => simp [intOf]; omega
      · go_wp2_with fail
        go_ret
        exact ⟨by rw [Hf.out (by trivial)]; rfl, by have := Hb.out; exact (by repeat (first | exact Below.refl _ _ | with_reducible assumption | apply below_alloc | apply below_drewN | apply below_drew | refine below_set ?_ (by simp; try omega) _ | refine below_then ?_ (by with_reducible assumption)))⟩
    · obtain rfl : i = n := by omega
      have e1 := idxI_none (isV fe ki) vs (by have := ha.out; rwa [← hlen.out, List.take_length] at this)
      clear hb
      go_wp2_with fail
      go_ret
      exact ⟨by rw [e1]; rfl, Hb.out⟩

theorem RowsOk.get {w : World} : ∀ {rs : List CRow} {cs : List Con}, RowsOk w rs cs → ∀ (i : Nat), i < rs.length → ∃ c ∈ cs, (cs[i]? = some c) ∧ (rs.getD i ⟨⟨#[]⟩, 0, none, 0, 0⟩).name = c.name ∧ (rs.getD i ⟨⟨#[]⟩, 0, none, 0, 0⟩).cst = c.form.cst ∧ IsRow encT 2 0 100 w (rs.getD i ⟨⟨#[]⟩, 0, none, 0, 0⟩).A (rs.getD i ⟨⟨#[]⟩, 0, none, 0, 0⟩).n (rs.getD i ⟨⟨#[]⟩, 0, none, 0, 0⟩).c c.form.terms
  | [], _, _, i, hi => absurd hi (Nat.not_lt_zero _)
  | _ :: _, [], h, _, _ => h.elim
  | r :: rs, c :: cs, h, 0, _ => ⟨c, List.mem_cons_self .., rfl, h.1, h.2.1, h.2.2.1⟩
  | r :: rs, c :: cs, h, i + 1, hi => by
    obtain ⟨x, hx, e, h1, h2, h3⟩ := RowsOk.get h.2.2.2 i (by simpa using hi)
    exact ⟨x, List.mem_cons_of_mem _ hx, by simpa using e, by simpa using h1, by simpa using h2, by simpa using h3⟩
theorem ccell {base : Nat} {t : TypeId} {w : World} {A : Option Addr} {n c : Nat} {l : List CRow} (h : IsRow encC 3 base t w A n c l) (i : Nat) (hi : i < n) : ∃ ad : Addr, A = some ad ∧
    w.cell? (ad.add (i * 3)) = some (.string (l.getD i ⟨⟨#[]⟩, 0, none, 0, 0⟩).name) ∧ w.cell? ⟨(ad.add (i * 3)).block, (ad.add (i * 3)).off + 1, none⟩ = some (.string (bs (Lib.itoa (l.getD i ⟨⟨#[]⟩, 0, none, 0, 0⟩).cst))) ∧
    w.cell? ⟨(ad.add (i * 3)).block, (ad.add (i * 3)).off + 2, none⟩ = some (.slice (l.getD i ⟨⟨#[]⟩, 0, none, 0, 0⟩).A (l.getD i ⟨⟨#[]⟩, 0, none, 0, 0⟩).n (l.getD i ⟨⟨#[]⟩, 0, none, 0, 0⟩).c) := by
  obtain ⟨ad, e, hc⟩ := h.at_ encC_len (by decide) ⟨⟨#[]⟩, 0, none, 0, 0⟩ i hi
  exact ⟨ad, e, hc 0 _ rfl, add_mid ad _ 1 (by decide) ▸ hc 1 _ rfl, add_mid ad _ 2 (by decide) ▸ hc 2 _ rfl⟩
theorem RowsOk.below {w w' : World} {rs : List CRow} {cs : List Con} (h : RowsOk w rs cs) (hb : Below w.heap.size w w') : RowsOk w' rs cs := h.keeps (Keeps.of_below hb)
set_option maxRecDepth 100000 in
theorem EqualCons_same (b1 b2 : Nat) (A B : Option Addr) (n c1 c2 : Nat) (rs1 rs2 : List CRow) (cs : List Con) (w : World) (h1 : IsRow encC 3 b1 53 w A n c1 rs1) (h2 : IsRow encC 3 b2 53 w B n c2 rs2) (r1 : RowsOk w rs1 cs) (r2 : RowsOk w rs2 cs) (hn : n ≤ 1000000) (ht : ∀ c ∈ cs, c.form.terms.length ≤ 1000000) :
    Calls Tryz.prog 15 #[.slice A n c1, .slice B n c2, .func (.func 17) #[] #[]] w fun e w' => e = .returned (.bool true) ∧ Below w.heap.size w w' := by
  have H1 := Lib.hid (fun W (hW : Below w.heap.size w W) => h1.below hW)
  have H2 := Lib.hid (fun W (hW : Below w.heap.size w W) => h2.below hW)
  have R1 := Lib.hid (fun W (hW : Below w.heap.size w W) => r1.below hW)
  have R2 := Lib.hid (fun W (hW : Below w.heap.size w W) => r2.below hW)
  have l1 := Lib.hid h1.len
  have l2 := Lib.hid h2.len
  have ht := Lib.hid ht
  clear h1 h2 r1 r2
  go_enter Tryz.func15, Tryz.ntmps15
  go_wp2_with fail
  go_loopw [17] (fun q wr => ∃ (i : Nat), i ≤ n ∧ q = .int .i64 (i : Int) ∧ Below w.heap.size w wr) (fun q _ => n - (intOf q).toNat)
  case atStart => exact ⟨0, Nat.zero_le _, rfl, (by repeat (first | exact Below.refl _ _ | with_reducible assumption | apply below_alloc | apply below_drewN | apply below_drew | refine below_set ?_ (by simp; try omega) _ | refine below_then ?_ (by with_reducible assumption)))⟩
  case round =>
    obtain ⟨i, hi, rfl, hb⟩ := hrel
    have Hb := Lib.hid hb
    by_cases hlt : i < n
    · obtain ⟨ad, ea, x0, x1, x2⟩ := ccell (H1.out wr hb) i hlt
      subst ea
      obtain ⟨ae, eb, y0, y1, y2⟩ := ccell (H2.out wr hb) i hlt
      subst eb
      obtain ⟨c, hc, ec, e1, e2, e3⟩ := (R1.out wr hb).get i (by rw [l1.out]; exact hlt)
      obtain ⟨c', hc', ec', g1, g2, g3⟩ := (R2.out wr hb).get i (by rw [l2.out]; exact hlt)
      obtain rfl : c = c' := Option.some.inj (ec.symm.trans ec')
      have hlc := ht.out c hc
      generalize rs1.getD i ⟨⟨#[]⟩, 0, none, 0, 0⟩ = u at x0 x1 x2 e1 e2 e3
      generalize rs2.getD i ⟨⟨#[]⟩, 0, none, 0, 0⟩ = v at y0 y1 y2 g1 g2 g3
      obtain ⟨un, uc, uA, uk, um⟩ := u
      obtain ⟨vn, vc, vA, vk, vm⟩ := v
      dsimp only at x0 x1 x2 y0 y1 y2 e1 e2 e3 g1 g2 g3
      subst e1 e2 g1 g2
      obtain rfl : uk = vk := by rw [← e3.len, ← g3.len]
      have hk : uk ≤ 1000000 := by rw [← e3.len]; exact hlc
      have HS := Lib.hid (fun W (hW : Below wr.heap.size wr W) => sameCon 0 0 uA vA uk um vm (bs (Lib.itoa c.form.cst)) c.name c.form.terms W (e3.below hW) (g3.below hW) hk)
      have i0 : (0 : Int) ≤ (i : Int) := by omega
      have i1 : (i : Int) < (n : Int) := by omega
      have hx := World.block_lt_of_cell? wr _ x0
      have hy := World.block_lt_of_cell? wr _ y0
      have hxn : ¬ (ad.add (i * 3)).block = wr.heap.size := Nat.ne_of_lt hx
      have hyn : ¬ (ae.add (i * 3)).block = wr.heap.size := Nat.ne_of_lt hy
      clear hb e3 g3 ec ec' hc hc' hlc hk
      go_wp2_with fail
      refine (HS.out _ (by repeat (first | exact Below.refl _ _ | with_reducible assumption | apply below_alloc | apply below_drewN | apply below_drew | refine below_set ?_ (by simp; try omega) _ | refine below_then ?_ (by with_reducible assumption)))).mono ?_
      rintro e w1 ⟨rfl, hb⟩
      have B1 := Lib.hid (below_then (w := wr) (by repeat (first | exact Below.refl _ _ | with_reducible assumption | apply below_alloc | apply below_drewN | apply below_drew | refine below_set ?_ (by simp; try omega) _ | refine below_then ?_ (by with_reducible assumption))) hb)
      clear hb
      go_wp2_with fail
      go_roundw
      case rel => exact ⟨i + 1, by omega, by go_num, below_then Hb.out B1.out⟩
      case measure => simp [intOf]; omega
    · obtain rfl : n = i := by omega
      clear hb
      go_wp2_with fail
      go_ret
      exact ⟨rfl, Hb.out⟩
theorem tm_len (g : Nat → Int) (k : Nat) : (tm g k).length ≤ k := by
  induction k with
  | zero => exact Nat.le_refl _
  | succ k ih =>
    unfold tm
    rw [List.length_append]
    split <;> simp <;> omega
theorem cons_terms (s : Sch) (i : Nat) : ∀ c ∈ consTo s i, c.form.terms.length ≤ 1000000 := by
  induction i with
  | zero => intro c hc; simp [consTo] at hc
  | succ i ih =>
    intro c hc
    unfold consTo at hc
    rcases List.mem_append.1 hc with h | h
    · exact ih c h
    · unfold consAt at h
      split at h
      · simp only [List.mem_cons, List.not_mem_nil, or_false] at h
        rcases h with rfl | rfl <;> exact Nat.le_trans (tm_len _ _) (by decide)
      · simp at h
end Go.Proofs.YtpifbaiibhaklaaGreatDoor
