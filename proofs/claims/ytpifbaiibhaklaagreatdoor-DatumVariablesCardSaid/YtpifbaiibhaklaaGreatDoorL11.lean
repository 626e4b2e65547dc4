/- chain: a feature and its datums; slices of ints compared.
  DatumChains: the walk. -/
import Derived.Test.YtpifbaiibhaklaaGreatDoorL10
import Derived.Test.YtpifbaiibhaklaaGreatDoorL4
import Derived.Test.YtpifbaiibhaklaaGreatDoorL9
import Derived.Test.YtpifbaiibhaklaaGreatDoorL5
namespace Go.Proofs.YtpifbaiibhaklaaGreatDoor
open Go.RowKit Big
set_option maxHeartbeats 4000000
set_option linter.unusedVariables false
set_option linter.unusedSimpArgs false

theorem info_int : (Tryz.prog.info? 3).map (fun i => (i.zero, i.size, i.bytes)) = some (some (.int .i64 0), 1, 8) := by kernel_rfl
/-- A feature and its datums, at most so many. -/
def chainTo (fs : List Feat) : Nat → Int → List Int
  | 0, _ => []
  | k + 1, i => if i < 0 then [] else i :: chainTo fs k (fs.getD i.toNat fd).datum
def chainOf (fs : List Feat) (i : Int) : List Int := chainTo fs (fs.length + 1) i
theorem chainTo_neg (fs : List Feat) (k : Nat) {i : Int} (h : i < 0) : chainTo fs k i = [] := by
  cases k with
  | zero => rfl
  | succ k => unfold chainTo; rw [if_pos h]
theorem chainTo_nat (fs : List Feat) (k j : Nat) : chainTo fs (k + 1) (j : Int) = (j : Int) :: chainTo fs k (fs.getD j fd).datum := by
  have h : chainTo fs (k + 1) (j : Int) = if (j : Int) < 0 then [] else (j : Int) :: chainTo fs k (fs.getD (j : Int).toNat fd).datum := rfl
  rw [h, if_neg (by omega), Int.toNat_natCast]
theorem chainTo_len (fs : List Feat) (k : Nat) (i : Int) : (chainTo fs k i).length ≤ k := by
  induction k generalizing i with
  | zero => exact Nat.le_refl _
  | succ k ih =>
    unfold chainTo
    split
    · exact Nat.zero_le _
    · exact Nat.succ_le_succ (ih _)
def RetInts (l : List Int) (w : World) (e : Ending) (w' : World) : Prop := ∃ A n c, e = .returned (.slice A n c) ∧ (∀ b, IsRow encI 1 b 3 w' A n c l) ∧ Below w.heap.size w w'

theorem chain_any (base : Nat) (A Bz : Option Addr) (n c m d : Nat) (fs : List Feat) (i : Int) (w : World) (hf : IsFs base 28 w A n c fs) (hd : ∀ j, j < n → -1 ≤ (fs.getD j fd).datum ∧ (fs.getD j fd).datum < j) (hn : n ≤ 1000000) (hi0 : -1 ≤ i) (hin : i < n) :
    Calls Tryz.prog 47 #[.agg #[.slice A n c, .slice Bz m d], .int .i64 i] w (RetInts (chainOf fs i) w) := by
  have hff := Lib.hid (fun W (hW : Below w.heap.size w W) => hf.below hW)
  have hd := Lib.hid hd
  obtain ⟨L, hL0⟩ : ∃ L, L = chainOf fs i := ⟨_, rfl⟩
  rw [← hL0]
  have hL2 : L = chainTo fs (n + 1) i := by rw [hL0]; unfold chainOf; rw [hf.len]
  have hL := Lib.hid hL2
  clear hf hL2 hL0
  go_enter Tryz.func47, Tryz.ntmps47
  go_wp2_with fail
  go_loopw [5, 6] (fun v q wr => ∃ (x : Int) (p : List Int) (k : Nat), q = .int .i64 x ∧ -1 ≤ x ∧ x < n ∧ x < k ∧ p.length + (x + 1).toNat ≤ n ∧ Hid (L = p ++ chainTo fs k x) ∧ Hid (wr.ownsRow (w.heap.size + 1) 3 1 v p.length (flat encI p)) ∧ Below w.heap.size w wr ∧ wr.cell? ⟨w.heap.size, 0, none⟩ = some (.slice A n c) ∧ wr.cell? ⟨w.heap.size, 1, none⟩ = some (.slice Bz m d)) (fun _ q _ => (intOf q + 1).toNat)
  case atStart => exact ⟨i, [], n + 1, rfl, hi0, hin, by omega, by simp; omega, Lib.hid hL.out, Lib.hid (own_nil _ _ _ _), (by repeat (first | exact Below.refl _ _ | with_reducible assumption | apply below_alloc | apply below_drewN | apply below_drew | refine below_set ?_ (by simp; try omega) _ | refine below_then ?_ (by with_reducible assumption))), by simp [go_sem], by simp [go_sem]⟩
  case round =>
    obtain ⟨x, p, k, rfl, hx0, hxn, hxk, hpl, hLp, hown, hb, c0, c1⟩ := hrel
    have Hb := Lib.hid hb
    have hlt0 := World.block_lt_of_cell? wr _ c0
    by_cases hlt : 0 ≤ x
    · obtain ⟨j, rfl⟩ := Int.eq_ofNat_of_zero_le hlt
      obtain ⟨k, rfl⟩ : ∃ k', k = k' + 1 := ⟨k - 1, by omega⟩
      obtain ⟨ad, ea, x0, x1, x2, x3, x4, x5⟩ := IsFs.cells (hff.out w (Below.refl _ _)) j (by omega)
      subst ea
      have hdj := hd.out j (by omega)
      have hLq : L = (p ++ [(j : Int)]) ++ chainTo fs k (fs.getD j fd).datum := by rw [hLp.out, chainTo_nat, List.append_assoc]; rfl
      generalize (fs.getD j fd).datum = y at x3 hdj hLq
      have hLq := Lib.hid hLq
      have f1 : (j : Int) < (n : Int) := by omega
      obtain ⟨hy0, hyj⟩ := hdj
      have hgs : w.heap.size < wr.heap.size := hlt0
      clear hb hLp x0 x1 x2 x4 x5
      go_wp2_with (at_builtin; go_must (refine append_cells (w.heap.size + 1) rfl (.tmp 16) (.tmp 18) 62 3 (.int .i64 0) 1 8 rfl Tryz.underlying62 info_int rfl (by decide) (by decide) u5 p.length (flat encI p) [.int .i64 (j : Int)] rfl rfl rfl (by simp [Value.oneCell']) hown.out hgs (by omega) ?_); intro v4 w4 hown4 hgr4 _; have q0 := grown_cell hgr4 c0 (fun k hk => by have := own_base hown.out k hk; show k ≠ w.heap.size; omega); have q1 := grown_cell hgr4 c1 (fun k hk => by have := own_base hown.out k hk; show k ≠ w.heap.size; omega); have B4 := below_grownB (B := w.heap.size) (w := w) Hb.out (by omega) hgr4 (fun k hk => by have := own_base hown.out k hk; omega); have O4 := Lib.hid hown4; have x3 := cell_below B4 x3; clear hown4 hgr4 hown c0 c1)
      go_roundw
      case rel => exact ⟨y, p ++ [(j : Int)], k, rfl, hy0, by omega, by omega, by simp; omega, hLq, Lib.hid (own_cast O4.out (by simp) (by rw [flat_app]; rfl)), B4, q0, q1⟩
      case measure => simp [intOf]; omega
    · have e1 : L = p := by rw [hLp.out, chainTo_neg fs k (by omega), List.append_nil]
      obtain ⟨A', c', rfl, hc'⟩ := own_slice hown.out
      clear hb hLp hL
      subst e1
      go_wp2_with fail
      go_ret
      exact ⟨A', _, c', rfl, fun _ => ⟨rfl, hc', Reads.of_own hown.out⟩, Hb.out⟩
end Go.Proofs.YtpifbaiibhaklaaGreatDoor
namespace Go.Proofs.YtpifbaiibhaklaaGreatDoor
open Go.RowKit Big
set_option maxHeartbeats 4000000
set_option linter.unusedVariables false
set_option linter.unusedSimpArgs false

theorem mchain_any (base : Nat) (A Bz : Option Addr) (n c m d : Nat) (fs : List Feat) (i : Int) (w : World) (hf : IsFs base 28 w A n c fs) (hd : ∀ j, j < n → -1 ≤ (fs.getD j fd).datum ∧ (fs.getD j fd).datum < j) (hn : n ≤ 1000000) (hi0 : -1 ≤ i) (hin : i < n) :
    Calls Tryz.prog 23 #[.agg #[.slice A n c, .slice Bz m d], .int .i64 i] w (RetInts (chainOf fs i) w) := by
  have hff := Lib.hid (fun W (hW : Below w.heap.size w W) => hf.below hW)
  have hd := Lib.hid hd
  obtain ⟨L, hL0⟩ : ∃ L, L = chainOf fs i := ⟨_, rfl⟩
  rw [← hL0]
  have hL2 : L = chainTo fs (n + 1) i := by rw [hL0]; unfold chainOf; rw [hf.len]
  have hL := Lib.hid hL2
  clear hf hL2 hL0
  go_enter Tryz.func23, Tryz.ntmps23
  go_wp2_with fail
  go_loopw [1, 5] (fun q v wr => ∃ (x : Int) (p : List Int) (k : Nat), q = .int .i64 x ∧ -1 ≤ x ∧ x < n ∧ x < k ∧ p.length + (x + 1).toNat ≤ n ∧ Hid (L = p ++ chainTo fs k x) ∧ Hid (wr.ownsRow (w.heap.size + 1) 3 1 v p.length (flat encI p)) ∧ Below w.heap.size w wr ∧ wr.cell? ⟨w.heap.size, 0, none⟩ = some (.slice A n c) ∧ wr.cell? ⟨w.heap.size, 1, none⟩ = some (.slice Bz m d)) (fun q _ _ => (intOf q + 1).toNat)
  case atStart => exact ⟨i, [], n + 1, rfl, hi0, hin, by omega, by simp; omega, Lib.hid hL.out, Lib.hid (own_nil _ _ _ _), (by repeat (first | exact Below.refl _ _ | with_reducible assumption | apply below_alloc | apply below_drewN | apply below_drew | refine below_set ?_ (by simp; try omega) _ | refine below_then ?_ (by with_reducible assumption))), by simp [go_sem], by simp [go_sem]⟩
  case round =>
    obtain ⟨x, p, k, rfl, hx0, hxn, hxk, hpl, hLp, hown, hb, c0, c1⟩ := hrel
    have Hb := Lib.hid hb
    have hlt0 := World.block_lt_of_cell? wr _ c0
    by_cases hlt : 0 ≤ x
    · obtain ⟨j, rfl⟩ := Int.eq_ofNat_of_zero_le hlt
      obtain ⟨k, rfl⟩ : ∃ k', k = k' + 1 := ⟨k - 1, by omega⟩
      obtain ⟨ad, ea, x0, x1, x2, x3, x4, x5⟩ := IsFs.cells (hff.out w (Below.refl _ _)) j (by omega)
      subst ea
      have hdj := hd.out j (by omega)
      have hLq : L = (p ++ [(j : Int)]) ++ chainTo fs k (fs.getD j fd).datum := by rw [hLp.out, chainTo_nat, List.append_assoc]; rfl
      generalize (fs.getD j fd).datum = y at x3 hdj hLq
      have hLq := Lib.hid hLq
      have f1 : (j : Int) < (n : Int) := by omega
      obtain ⟨hy0, hyj⟩ := hdj
      have hgs : w.heap.size < wr.heap.size := hlt0
      clear hb hLp x0 x1 x2 x4 x5
      go_wp2_with (at_builtin; go_must (refine append_cells (w.heap.size + 1) rfl (.tmp 14) (.tmp 16) 62 3 (.int .i64 0) 1 8 rfl Tryz.underlying62 info_int rfl (by decide) (by decide) u5 p.length (flat encI p) [.int .i64 (j : Int)] rfl rfl rfl (by simp [Value.oneCell']) hown.out hgs (by omega) ?_); intro v4 w4 hown4 hgr4 _; have q0 := grown_cell hgr4 c0 (fun k hk => by have := own_base hown.out k hk; show k ≠ w.heap.size; omega); have q1 := grown_cell hgr4 c1 (fun k hk => by have := own_base hown.out k hk; show k ≠ w.heap.size; omega); have B4 := below_grownB (B := w.heap.size) (w := w) Hb.out (by omega) hgr4 (fun k hk => by have := own_base hown.out k hk; omega); have O4 := Lib.hid hown4; have x3 := cell_below B4 x3; clear hown4 hgr4 hown c0 c1)
      go_roundw
      case rel => exact ⟨y, p ++ [(j : Int)], k, rfl, hy0, by omega, by omega, by simp; omega, hLq, Lib.hid (own_cast O4.out (by simp) (by rw [flat_app]; rfl)), B4, q0, q1⟩
      case measure => simp [intOf]; omega
    · have e1 : L = p := by rw [hLp.out, chainTo_neg fs k (by omega), List.append_nil]
      obtain ⟨A', c', rfl, hc'⟩ := own_slice hown.out
      clear hb hLp hL
      subst e1
      go_wp2_with fail
      go_ret
      exact ⟨A', _, c', rfl, fun _ => ⟨rfl, hc', Reads.of_own hown.out⟩, Hb.out⟩

theorem EqualInts_same (b1 b2 : Nat) (A B : Option Addr) (n c1 c2 : Nat) (l : List Int) (w : World) (h1 : IsRow encI 1 b1 3 w A n c1 l) (h2 : IsRow encI 1 b2 3 w B n c2 l) (hn : n ≤ 1000000) :
    Calls Tryz.prog 22 #[.slice A n c1, .slice B n c2] w fun e w' => e = .returned (.bool true) ∧ Below w.heap.size w w' := by
  have H1 := Lib.hid (fun W (hW : Below w.heap.size w W) => h1.below hW)
  have H2 := Lib.hid (fun W (hW : Below w.heap.size w W) => h2.below hW)
  clear h1 h2
  go_enter Tryz.func22, Tryz.ntmps22
  go_wp2_with fail
  go_loopw [13] (fun q wr => ∃ (i : Nat), i ≤ n ∧ q = .int .i64 (i : Int) ∧ Below w.heap.size w wr) (fun q _ => n - (intOf q).toNat)
  case atStart => exact ⟨0, Nat.zero_le _, rfl, (by repeat (first | exact Below.refl _ _ | with_reducible assumption | apply below_alloc | apply below_drewN | apply below_drew | refine below_set ?_ (by simp; try omega) _ | refine below_then ?_ (by with_reducible assumption)))⟩
  case round =>
    obtain ⟨i, hi, rfl, hb⟩ := hrel
    have Hb := Lib.hid hb
    by_cases hlt : i < n
    · obtain ⟨ad, ea, x0⟩ := icell (H1.out wr hb) i hlt
      subst ea
      obtain ⟨ae, eb, y0⟩ := icell (H2.out wr hb) i hlt
      subst eb
      generalize l.getD i 0 = x at x0 y0
      have hxx : (x != x) = false := by simp
      have i0 : (0 : Int) ≤ (i : Int) := by omega
      have i1 : (i : Int) < (n : Int) := by omega
      clear hb
      go_wp2_with fail
      go_quiet (fail)
      go_wp2_with fail
      go_roundw
      case rel => exact ⟨i + 1, by omega, by go_num, by have := Hb.out; exact (by repeat (first | exact Below.refl _ _ | with_reducible assumption | apply below_alloc | apply below_drewN | apply below_drew | refine below_set ?_ (by simp; try omega) _ | refine below_then ?_ (by with_reducible assumption)))⟩
      case measure => simp [intOf]; omega
    · obtain rfl : n = i := by omega
      clear hb
      go_wp2_with fail
      go_ret
      exact ⟨rfl, Hb.out⟩

def fineB (s : Sch) : Bool := fewB s && checkE s == 0
set_option maxRecDepth 100000 in
theorem fine_any (base : Nat) (A Bz : Option Addr) (n c m d : Nat) (s : Sch) (w : World) (hf : IsFs base 28 w A n c s.fs) (hz : IsZs base 30 w Bz m d s.zs) :
    Calls Tryz.prog 11 #[.agg #[.slice A n c, .slice Bz m d]] w fun e w' => e = .returned (.bool (fineB s)) ∧ Below w.heap.size w w' := by
  have HF := Lib.hid (fun W (hW : Below w.heap.size w W) => few_any base A Bz n c m d s W (hf.below hW) (hz.below hW))
  have HM := Lib.hid (fun W (hW : Below w.heap.size w W) => (show Calls Tryz.prog 9 #[.agg #[.slice A n c, .slice Bz m d]] W (fun e w' => e = .returned (.int .i64 (checkE s)) ∧ Below W.heap.size W w') from mcheck_any base _ _ _ _ _ _ s.fs s.zs W (hf.below hW) (hz.below hW)))
  unfold fineB
  clear hf hz
  generalize fewB s = fw at *
  generalize checkE s = E at *
  cases fw
  · go_enter Tryz.func11, Tryz.ntmps11
    go_wp2_with fail
    refine (HF.out _ (by repeat (first | exact Below.refl _ _ | with_reducible assumption | apply below_alloc | apply below_drewN | apply below_drew | refine below_set ?_ (by simp; try omega) _ | refine below_then ?_ (by with_reducible assumption)))).mono ?_
    rintro e w1 ⟨rfl, hb⟩
    have B1 := Lib.hid (below_then (w := w) (by repeat (first | exact Below.refl _ _ | with_reducible assumption | apply below_alloc | apply below_drewN | apply below_drew | refine below_set ?_ (by simp; try omega) _ | refine below_then ?_ (by with_reducible assumption))) hb)
    clear hb
    go_wp2_with fail
    go_ret
    exact ⟨rfl, B1.out⟩
  · go_enter Tryz.func11, Tryz.ntmps11
    go_wp2_with fail
    refine (HF.out _ (by repeat (first | exact Below.refl _ _ | with_reducible assumption | apply below_alloc | apply below_drewN | apply below_drew | refine below_set ?_ (by simp; try omega) _ | refine below_then ?_ (by with_reducible assumption)))).mono ?_
    rintro e w1 ⟨rfl, hb⟩
    have a0 := keptc hb w.heap.size 0 (.slice A n c) (by simp [go_sem])
    have a1 := keptc hb w.heap.size 1 (.slice Bz m d) (by simp [go_sem])
    have B1 := Lib.hid (below_then (w := w) (by repeat (first | exact Below.refl _ _ | with_reducible assumption | apply below_alloc | apply below_drewN | apply below_drew | refine below_set ?_ (by simp; try omega) _ | refine below_then ?_ (by with_reducible assumption))) hb)
    clear hb
    go_wp2_with fail
    refine (HM.out _ B1.out).mono ?_
    rintro e w2 ⟨rfl, hb⟩
    have B2 := Lib.hid (below_then B1.out hb)
    clear hb
    go_wp2_with fail
    go_ret
    exact ⟨rfl, B2.out⟩
theorem with_ok {s : Sch} (h : checkE s = 0) {i : Int} (h0 : 0 ≤ i) (h1 : i < s.fs.length) : withE s [i] = 0 := by
  unfold withE outB
  rw [if_neg (by simpa using h)]
  simp
  omega
theorem with_out {s : Sch} (h : checkE s = 0) {i : Int} (h0 : i < 0 ∨ (s.fs.length : Int) ≤ i) : withE s [i] = 2 := by
  unfold withE outB
  rw [if_neg (by simpa using h), if_pos]
  simp
  omega
theorem Fine.datums {s : Sch} (h : Fine s) {n : Nat} (hn : s.fs.length = n) (j : Nat) (hj : j < n) : -1 ≤ (s.fs.getD j fd).datum ∧ (s.fs.getD j fd).datum < j := by
  have := h.featOk j (by omega)
  exact ⟨this.d1, this.di⟩

def RetInts2 (l : List Int) (w : World) (e : Ending) (w' : World) : Prop := ∃ A n c, e = .returned (.tuple #[.slice A n c, .int .i64 0]) ∧ (∀ b, IsRow encI 1 b 3 w' A n c l) ∧ Below w.heap.size w w'
set_option maxRecDepth 100000 in
theorem Chain_ok (base : Nat) (A Bz : Option Addr) (n c m d : Nat) (s : Sch) (i : Int) (w : World) (hf : IsFs base 28 w A n c s.fs) (hz : IsZs base 30 w Bz m d s.zs) (hE : checkE s = 0) (hi0 : 0 ≤ i) (hin : i < n) :
    Calls Tryz.prog 21 #[.agg #[.slice A n c, .slice Bz m d], .int .i64 i] w (RetInts2 (chainOf s.fs i) w) := by
  have hfine := fine_of_check hE
  have hn : n ≤ 16 := by have := hfine.nf; rw [hf.len] at this; exact this
  have H := Lib.hid (fun W b (hb : b = W.heap.size) (hW : Below w.heap.size w W) => with_any base base A Bz (some ⟨b, 0, none⟩) n c m d 1 1 s [i] _ (hf.below (below_alloc hW)) (hz.below (below_alloc hW)) (row1_new base W b hb i) (by decide))
  rw [with_ok hE hi0 (by rw [hf.len]; exact hin)] at H
  have HC := Lib.hid (fun W (hW : Below w.heap.size w W) => chain_any base A Bz n c m d s.fs i W (hf.below hW) (hfine.datums hf.len) (by omega) (by omega) hin)
  clear hf hz hfine hE
  generalize chainOf s.fs i = L at *
  go_enter Tryz.func21, Tryz.ntmps21
  go_wp2_with fail
  refine (H.out _ _ (by simp [go_sem]) (by repeat (first | exact Below.refl _ _ | with_reducible assumption | apply below_alloc | apply below_drewN | apply below_drew | refine below_set ?_ (by simp; try omega) _ | refine below_then ?_ (by with_reducible assumption)))).mono ?_
  rintro e w1 ⟨rfl, hb⟩
  have a0 := keptc hb w.heap.size 0 (.slice A n c) (by simp [go_sem])
  have a1 := keptc hb w.heap.size 1 (.slice Bz m d) (by simp [go_sem])
  have B1 := Lib.hid (below_then (w := w) (by repeat (first | exact Below.refl _ _ | with_reducible assumption | apply below_alloc | apply below_drewN | apply below_drew | refine below_set ?_ (by simp; try omega) _ | refine below_then ?_ (by with_reducible assumption))) hb)
  clear hb H
  go_wp2_with fail
  refine (HC.out _ B1.out).mono ?_
  rintro e w2 ⟨A', n', c', rfl, hr, hb⟩
  have hr := Lib.hid hr
  have B2 := Lib.hid (below_then B1.out hb)
  clear hb HC
  go_wp2_with fail
  go_ret2
  exact ⟨A', n', c', rfl, hr.out, B2.out⟩
set_option maxRecDepth 100000 in
theorem Variable_ok (base : Nat) (A Bz : Option Addr) (n c m d : Nat) (s : Sch) (i k : Int) (w : World) (hf : IsFs base 28 w A n c s.fs) (hz : IsZs base 30 w Bz m d s.zs) (hE : checkE s = 0) (hi0 : 0 ≤ i) (hin : i < n) (hk0 : 1 ≤ k) (hk3 : k ≤ 3) :
    Calls Tryz.prog 19 #[.agg #[.slice A n c, .slice Bz m d], .int .i64 i, .int .i64 k] w fun e w' => e = .returned (.tuple #[.int .i64 (max (indexOf s i k) 0), .bool (decide (0 ≤ indexOf s i k)), .int .i64 0]) ∧ Below w.heap.size w w' := by
  have hfine := fine_of_check hE
  have hn : n ≤ 16 := by have := hfine.nf; rw [hf.len] at this; exact this
  have hm : m ≤ 32 := by have := hfine.nz; rw [hz.len] at this; exact this
  have H := Lib.hid (fun W b (hb : b = W.heap.size) (hW : Below w.heap.size w W) => with_any base base A Bz (some ⟨b, 0, none⟩) n c m d 1 1 s [i] _ (hf.below (below_alloc hW)) (hz.below (below_alloc hW)) (row1_new base W b hb i) (by decide))
  rw [with_ok hE hi0 (by rw [hf.len]; exact hin)] at H
  have HI := Lib.hid (fun W (hW : Below w.heap.size w W) => index_any base A Bz n c m d s i k W (hf.below hW) (hz.below hW) (by omega) (by omega))
  clear hf hz hfine hE
  generalize indexOf s i k = x at *
  go_enter Tryz.func19, Tryz.ntmps19
  go_wp2_with fail
  refine (H.out _ _ (by simp [go_sem]) (by repeat (first | exact Below.refl _ _ | with_reducible assumption | apply below_alloc | apply below_drewN | apply below_drew | refine below_set ?_ (by simp; try omega) _ | refine below_then ?_ (by with_reducible assumption)))).mono ?_
  rintro e w1 ⟨rfl, hb⟩
  have a0 := keptc hb w.heap.size 0 (.slice A n c) (by simp [go_sem])
  have a1 := keptc hb w.heap.size 1 (.slice Bz m d) (by simp [go_sem])
  have B1 := Lib.hid (below_then (w := w) (by repeat (first | exact Below.refl _ _ | with_reducible assumption | apply below_alloc | apply below_drewN | apply below_drew | refine below_set ?_ (by simp; try omega) _ | refine below_then ?_ (by with_reducible assumption))) hb)
  clear hb H
  go_wp2_with fail
  refine (HI.out _ B1.out).mono ?_
  rintro e w2 ⟨rfl, hb⟩
  have B2 := Lib.hid (below_then B1.out hb)
  clear hb HI
  go_wp2_with fail
  go_ret3
  exact ⟨rfl, B2.out⟩
set_option maxRecDepth 100000 in
theorem Variable_kind (base : Nat) (A Bz : Option Addr) (n c m d : Nat) (s : Sch) (i k : Int) (w : World) (hf : IsFs base 28 w A n c s.fs) (hz : IsZs base 30 w Bz m d s.zs) (hE : checkE s = 0) (hi0 : 0 ≤ i) (hin : i < n) (hk : k < 1 ∨ 3 < k) :
    Calls Tryz.prog 19 #[.agg #[.slice A n c, .slice Bz m d], .int .i64 i, .int .i64 k] w fun e w' => e = .returned (.tuple #[.int .i64 0, .bool false, .int .i64 12]) ∧ Below w.heap.size w w' := by
  have H := Lib.hid (fun W b (hb : b = W.heap.size) (hW : Below w.heap.size w W) => with_any base base A Bz (some ⟨b, 0, none⟩) n c m d 1 1 s [i] _ (hf.below (below_alloc hW)) (hz.below (below_alloc hW)) (row1_new base W b hb i) (by decide))
  rw [with_ok hE hi0 (by rw [hf.len]; exact hin)] at H
  clear hf hz hE
  by_cases h1 : k < 1
  · have h1e : decide (k < 1) = true := decide_eq_true h1
    clear hk h1
    go_enter Tryz.func19, Tryz.ntmps19
    go_wp2_with fail
    refine (H.out _ _ (by simp [go_sem]) (by repeat (first | exact Below.refl _ _ | with_reducible assumption | apply below_alloc | apply below_drewN | apply below_drew | refine below_set ?_ (by simp; try omega) _ | refine below_then ?_ (by with_reducible assumption)))).mono ?_
    rintro e w1 ⟨rfl, hb⟩
    have B1 := Lib.hid (below_then (w := w) (by repeat (first | exact Below.refl _ _ | with_reducible assumption | apply below_alloc | apply below_drewN | apply below_drew | refine below_set ?_ (by simp; try omega) _ | refine below_then ?_ (by with_reducible assumption))) hb)
    clear hb H
    go_wp2_with fail
    go_ret3
    exact ⟨rfl, B1.out⟩
  · have h1e : decide (k < 1) = false := decide_eq_false h1
    have h2e : decide (3 < k) = true := decide_eq_true (by omega)
    clear hk h1
    go_enter Tryz.func19, Tryz.ntmps19
    go_wp2_with fail
    refine (H.out _ _ (by simp [go_sem]) (by repeat (first | exact Below.refl _ _ | with_reducible assumption | apply below_alloc | apply below_drewN | apply below_drew | refine below_set ?_ (by simp; try omega) _ | refine below_then ?_ (by with_reducible assumption)))).mono ?_
    rintro e w1 ⟨rfl, hb⟩
    have B1 := Lib.hid (below_then (w := w) (by repeat (first | exact Below.refl _ _ | with_reducible assumption | apply below_alloc | apply below_drewN | apply below_drew | refine below_set ?_ (by simp; try omega) _ | refine below_then ?_ (by with_reducible assumption))) hb)
    clear hb H
    go_wp2_with fail
    go_ret3
    exact ⟨rfl, B1.out⟩
end Go.Proofs.YtpifbaiibhaklaaGreatDoor
