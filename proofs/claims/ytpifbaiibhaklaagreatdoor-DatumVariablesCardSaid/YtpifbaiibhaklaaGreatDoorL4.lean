/- Package datum: Check.
  Package datum: zone, nominal.
  Package datum: nominal.
  Package datum: variables.
  Package datum: Variables.
  Package datum: Variables. -/
import Derived.Test.YtpifbaiibhaklaaGreatDoorL3
namespace Go.Proofs.YtpifbaiibhaklaaGreatDoor
open Go.RowKit Big
set_option maxHeartbeats 4000000
set_option linter.unusedVariables false
set_option linter.unusedSimpArgs false

/-- The first error of a list of trials, or 0. -/
def firstErr (f : Nat → Int) : Nat → Nat → Int
  | _, 0 => 0
  | i, k + 1 => if f i ≠ 0 then f i else firstErr f (i + 1) k
theorem firstErr_step (f : Nat → Int) (n i : Nat) (hi : i < n) : firstErr f i (n - i) = if f i ≠ 0 then f i else firstErr f (i + 1) (n - (i + 1)) := by
  rw [show n - i = (n - (i + 1)) + 1 by omega]
  rfl
def checkE (s : Sch) : Int :=
  if 16 < s.fs.length then 6 else if 32 < s.zs.length then 6
  else if firstErr (featErr s.fs) 0 s.fs.length ≠ 0 then firstErr (featErr s.fs) 0 s.fs.length
  else firstErr (zoneErr s.fs s.zs) 0 s.zs.length

set_option maxRecDepth 100000 in
theorem Check_any (base : Nat) (A B : Option Addr) (n c m d : Nat) (s : Sch) (w : World) (hf : IsFs base 28 w A n c s.fs) (hz : IsZs base 30 w B m d s.zs) :
    Calls Tryz.prog 10 #[.agg #[.slice A n c, .slice B m d]] w fun e w' => e = .returned (.int .i64 (checkE s)) ∧ Below w.heap.size w w' := by
  unfold checkE
  rw [hf.len, hz.len]
  by_cases h1 : 16 < n
  · have h1d : decide (16 < n) = true := decide_eq_true h1
    have h1e : decide ((16 : Int) < (n : Int)) = true := decide_eq_true (by omega)
    rw [if_pos h1]
    go_enter Tryz.func10, Tryz.ntmps10
    go_wp2_with fail
    go_ret
    exact ⟨rfl, (by repeat (first | exact Below.refl _ _ | with_reducible assumption | apply below_alloc | apply below_drewN | apply below_drew | refine below_set ?_ (by simp; try omega) _ | refine below_then ?_ (by with_reducible assumption)))⟩
  · have h1d : decide (16 < n) = false := decide_eq_false h1
    have h1e : decide ((16 : Int) < (n : Int)) = false := decide_eq_false (by omega)
    rw [if_neg h1]
    by_cases h2 : 32 < m
    · have h2d : decide (32 < m) = true := decide_eq_true h2
      have h2e : decide ((32 : Int) < (m : Int)) = true := decide_eq_true (by omega)
      rw [if_pos h2]
      go_enter Tryz.func10, Tryz.ntmps10
      go_wp2_with fail
      go_ret
      exact ⟨rfl, (by repeat (first | exact Below.refl _ _ | with_reducible assumption | apply below_alloc | apply below_drewN | apply below_drew | refine below_set ?_ (by simp; try omega) _ | refine below_then ?_ (by with_reducible assumption)))⟩
    · have h2d : decide (32 < m) = false := decide_eq_false h2
      have h2e : decide ((32 : Int) < (m : Int)) = false := decide_eq_false (by omega)
      rw [if_neg h2]
      have H1 := Lib.hid (fun i (hi : i < n) W (hW : Below w.heap.size w W) => checkFeature_any base A B n c m d s.fs i W (hf.below hW) hi (by omega))
      have H2 := Lib.hid (fun i (hi : i < m) W (hW : Below w.heap.size w W) => checkZone_any base A B n c m d s.fs s.zs i W (hf.below hW) (hz.below hW) hi (by omega) (by omega))
      have S1 := Lib.hid (fun i (hi : i < n) => firstErr_step (featErr s.fs) n i hi)
      have S2 := Lib.hid (fun i (hi : i < m) => firstErr_step (zoneErr s.fs s.zs) m i hi)
      clear hf hz
      generalize featErr s.fs = fe at *
      generalize zoneErr s.fs s.zs = ze at *
      obtain ⟨F, hF⟩ : ∃ F, F = firstErr fe 0 n := ⟨_, rfl⟩
      obtain ⟨G, hG⟩ : ∃ G, G = firstErr ze 0 m := ⟨_, rfl⟩
      rw [← hF, ← hG]
      obtain ⟨R, hR⟩ : ∃ R, R = if F ≠ 0 then F else G := ⟨_, rfl⟩
      rw [← hR]
      have HZ3 := Lib.hid hF
      have HZ4 := Lib.hid hG
      have HR := Lib.hid hR
      clear hF hG hR
      go_enter Tryz.func10, Tryz.ntmps10
      go_wp2_with fail
      go_loopw [20] (fun q wr => ∃ (i : Nat), i ≤ n ∧ q = .int .i64 (i : Int) ∧ Hid (F = firstErr fe i (n - i)) ∧ Below w.heap.size w wr ∧ wr.cell? ⟨w.heap.size, 0, none⟩ = some (.slice A n c) ∧ wr.cell? ⟨w.heap.size, 1, none⟩ = some (.slice B m d)) (fun q _ => n - (intOf q).toNat)
      case atStart => exact ⟨0, Nat.zero_le _, rfl, HZ3, (by repeat (first | exact Below.refl _ _ | with_reducible assumption | apply below_alloc | apply below_drewN | apply below_drew | refine below_set ?_ (by simp; try omega) _ | refine below_then ?_ (by with_reducible assumption))), by simp [go_sem], by simp [go_sem]⟩
      case round =>
        obtain ⟨i, hi, rfl, hF, hb, c0, c1⟩ := hrel
        have Hb := Lib.hid hb
        by_cases hlt : i < n
        · clear hb
          go_wp2_with fail
          refine (H1.out i hlt _ Hb.out).mono ?_
          rintro e w1 ⟨rfl, hb1⟩
          have st := S1.out i hlt
          rw [← hF.out] at st
          have d0 := keptc hb1 _ _ _ c0
          have d1 := keptc hb1 _ _ _ c1
          have B1 := Lib.hid (below_then Hb.out hb1)
          clear hb1
          generalize fe i = v at st
          by_cases hv : v = 0
          · subst hv
            have st := Lib.hid st
            go_wp2_with fail
            go_roundw
            case rel => exact ⟨i + 1, by omega, by go_num, Lib.hid (by have := st.out; rwa [if_neg (by simp)] at this), B1.out, d0, d1⟩
            case measure => simp [intOf]; omega
          · have hv2 : (v != 0) = true := by simpa using hv
            have hv3 : (v == 0) = false := by simpa using hv
            rw [if_pos hv] at st
            have st := Lib.hid st
            have hRv : R = v := by rw [HR.out, st.out, if_pos hv]
            go_wp2_with fail
            go_ret
            exact ⟨by first | rfl | (rw [hRv]; rfl), B1.out⟩
        · obtain rfl : i = n := by omega
          have F0 : F = 0 := by have := hF.out; rwa [Nat.sub_self] at this
          have R0 : R = G := by rw [HR.out, F0, if_neg (by simp)]
          subst R0
          clear hb hF S1 H1 HZ3 HR F0
          go_wp2_with fail
          go_loopw [33] (fun q wr => ∃ (j : Nat), j ≤ m ∧ q = .int .i64 (j : Int) ∧ Hid (R = firstErr ze j (m - j)) ∧ Below w.heap.size w wr ∧ wr.cell? ⟨w.heap.size, 0, none⟩ = some (.slice A i c) ∧ wr.cell? ⟨w.heap.size, 1, none⟩ = some (.slice B m d)) (fun q _ => m - (intOf q).toNat)
          case atStart => exact ⟨0, Nat.zero_le _, rfl, HZ4, Hb.out, c0, c1⟩
          case round =>
            obtain ⟨j, hj, rfl, hF, hb, c0, c1⟩ := hrel
            have Hb := Lib.hid hb
            by_cases hlt : j < m
            · clear hb
              go_wp2_with fail
              refine (H2.out j hlt _ Hb.out).mono ?_
              rintro e w1 ⟨rfl, hb1⟩
              have st := S2.out j hlt
              rw [← hF.out] at st
              have d0 := keptc hb1 _ _ _ c0
              have d1 := keptc hb1 _ _ _ c1
              have B1 := Lib.hid (below_then Hb.out hb1)
              clear hb1
              generalize ze j = v at st
              by_cases hv : v = 0
              · subst hv
                have st := Lib.hid st
                go_wp2_with fail
                go_roundw
                case rel => exact ⟨j + 1, by omega, by go_num, Lib.hid (by have := st.out; rwa [if_neg (by simp)] at this), B1.out, d0, d1⟩
                case measure => simp [intOf]; omega
              · have hv2 : (v != 0) = true := by simpa using hv
                have hv3 : (v == 0) = false := by simpa using hv
                rw [if_pos hv] at st
                have st := Lib.hid st
                go_wp2_with fail
                go_ret
                exact ⟨by rw [st.out]; rfl, B1.out⟩
            · obtain rfl : j = m := by omega
              have F0 : R = 0 := by have := hF.out; rwa [Nat.sub_self] at this
              have F0 := Lib.hid F0
              clear hb hF S2 H2 HZ4
              go_wp2_with fail
              go_ret
              exact ⟨by rw [F0.out]; rfl, Hb.out⟩
end Go.Proofs.YtpifbaiibhaklaaGreatDoor
namespace Go.Proofs.YtpifbaiibhaklaaGreatDoor
open Go.RowKit Big
set_option maxHeartbeats 4000000
set_option linter.unusedVariables false
set_option linter.unusedSimpArgs false

theorem idxI_cases {α : Type} (p : α → Bool) (l : List α) (d : α) : (l.any p = false ∧ idxI p l = -1 ∧ l.find? p = none) ∨ ∃ i : Nat, i < l.length ∧ idxI p l = i ∧ l.find? p = some (l.getD i d) := by
  by_cases h : l.any p = true
  · right
    obtain ⟨x, hx, hp⟩ := List.any_eq_true.1 h
    have hi := List.findIdx_lt_length_of_exists ⟨x, hx, hp⟩
    refine ⟨l.findIdx p, hi, by unfold idxI; rw [if_pos h], ?_⟩
    rw [List.find?_eq_some_iff_getElem]
    refine ⟨?_, l.findIdx p, hi, ?_, ?_⟩
    · rw [List.getD_eq_getElem?_getD, List.getElem?_eq_getElem hi]
      exact List.findIdx_getElem (w := hi)
    · rw [List.getD_eq_getElem?_getD, List.getElem?_eq_getElem hi]
      rfl
    · intro j hj
      have := List.not_of_lt_findIdx hj
      simpa using this
  · left
    have h : l.any p = false := by simpa using h
    refine ⟨h, by unfold idxI; rw [h]; rfl, ?_⟩
    rw [List.find?_eq_none]
    intro x hx
    have := List.any_eq_false.1 h x hx
    exact this
/-- A zone of a feature. -/
def zoneOf (zs : List Zon) (feature kind : Int) : Option Zon := zs.find? (zoneP feature kind)
def RetZone (o : Option Zon) (w : World) (e : Ending) (w' : World) : Prop :=
  e = .returned (.tuple #[.agg #[.int .i64 (o.getD zd).kind, .int .i64 (o.getD zd).feature, .int .i64 (o.getD zd).lower, .int .i64 (o.getD zd).upper, .bool (o.getD zd).bonus], .bool o.isSome]) ∧ Below w.heap.size w w'
theorem zone_any (base : Nat) (A B : Option Addr) (n c m d : Nat) (zs : List Zon) (fe ki : Int) (w : World) (h : IsZs base 30 w B m d zs) (hm : m ≤ 1000000) :
    Calls Tryz.prog 30 #[.agg #[.slice A n c, .slice B m d], .int .i64 fe, .int .i64 ki] w (RetZone (zoneOf zs fe ki) w) := by
  have H := Lib.hid (fun b1 b2 W (hW : Below w.heap.size w W) (h1 : W.cell? ⟨b1, 0, none⟩ = some (.int .i64 fe)) (h2 : W.cell? ⟨b2, 0, none⟩ = some (.int .i64 ki)) => Index_zone base b1 b2 B m d zs (zoneP fe ki) W (h.below hW) hm (fun g W' hW' => zone_pred g fe ki b1 b2 W' (cell_below hW' h1) (cell_below hW' h2)))
  rcases idxI_cases (zoneP fe ki) zs zd with ⟨_, hi, hf⟩ | ⟨i, hl, hi, hf⟩
  · rw [show zoneOf zs fe ki = none from hf]
    rw [hi] at H
    clear h hi hf
    go_enter Tryz.func30, Tryz.ntmps30
    go_wp2_with fail
    refine (H.out _ _ _ (by repeat (first | exact Below.refl _ _ | with_reducible assumption | apply below_alloc | apply below_drewN | apply below_drew | refine below_set ?_ (by simp; try omega) _ | refine below_then ?_ (by with_reducible assumption))) (by simp [go_sem]) (by simp [go_sem])).mono ?_
    rintro e w1 ⟨rfl, hb⟩
    have x0 := keptc hb (w.heap.size) 0 (.slice A n c) (by first | with_reducible assumption | (simp [go_sem]; done)); have x1 := keptc hb (w.heap.size) 1 (.slice B m d) (by first | with_reducible assumption | (simp [go_sem]; done)); have fx0 := keptF hb (g := w.heap.size) (o := 0) (v := .slice A n c) (by first | with_reducible assumption | (simp [go_sem]; done)) (by first | with_reducible assumption | (simp [go_sem]; done)); have fx1 := keptF hb (g := w.heap.size) (o := 1) (v := .slice B m d) (by first | with_reducible assumption | (simp [go_sem]; done)) (by first | with_reducible assumption | (simp [go_sem]; done))
    have r0 := keptc hb (w.heap.size + 1 + 1 + 1) 0 (.int .i64 0) (by first | with_reducible assumption | (simp [go_sem]; done)); have r1 := keptc hb (w.heap.size + 1 + 1 + 1) 1 (.int .i64 0) (by first | with_reducible assumption | (simp [go_sem]; done)); have r2 := keptc hb (w.heap.size + 1 + 1 + 1) 2 (.int .i64 0) (by first | with_reducible assumption | (simp [go_sem]; done)); have r3 := keptc hb (w.heap.size + 1 + 1 + 1) 3 (.int .i64 0) (by first | with_reducible assumption | (simp [go_sem]; done)); have r4 := keptc hb (w.heap.size + 1 + 1 + 1) 4 (.bool false) (by first | with_reducible assumption | (simp [go_sem]; done)); have fr0 := keptF hb (g := w.heap.size + 1 + 1 + 1) (o := 0) (v := .int .i64 0) (by first | with_reducible assumption | (simp [go_sem]; done)) (by first | with_reducible assumption | (simp [go_sem]; done)); have fr1 := keptF hb (g := w.heap.size + 1 + 1 + 1) (o := 1) (v := .int .i64 0) (by first | with_reducible assumption | (simp [go_sem]; done)) (by first | with_reducible assumption | (simp [go_sem]; done)); have fr2 := keptF hb (g := w.heap.size + 1 + 1 + 1) (o := 2) (v := .int .i64 0) (by first | with_reducible assumption | (simp [go_sem]; done)) (by first | with_reducible assumption | (simp [go_sem]; done)); have fr3 := keptF hb (g := w.heap.size + 1 + 1 + 1) (o := 3) (v := .int .i64 0) (by first | with_reducible assumption | (simp [go_sem]; done)) (by first | with_reducible assumption | (simp [go_sem]; done)); have fr4 := keptF hb (g := w.heap.size + 1 + 1 + 1) (o := 4) (v := .bool false) (by first | with_reducible assumption | (simp [go_sem]; done)) (by first | with_reducible assumption | (simp [go_sem]; done)); have Tr := Lib.hid (keptT hb (g := w.heap.size + 1 + 1 + 1) (o := 0) (v := .int .i64 0) (by first | with_reducible assumption | (simp [go_sem]; done)) (e := 30) (by first | with_reducible assumption | exact Hid.out (by with_reducible assumption) | (simp [typ_alloc, typ_drewN, typ_drew, otyp_cells]; done)))
    have B1 := Lib.hid (below_then (w := w) (by repeat (first | exact Below.refl _ _ | with_reducible assumption | apply below_alloc | apply below_drewN | apply below_drew | refine below_set ?_ (by simp; try omega) _ | refine below_then ?_ (by with_reducible assumption))) hb)
    clear hb
    go_wp2_with fail
    refine bodyPost_ret (v := .tuple #[.agg #[.int .i64 0, .int .i64 0, .int .i64 0, .int .i64 0, .bool false], .bool false]) (by simp [results, Tryz.results30, go_sem, r0, r1, r2, r3, r4]) rfl ⟨rfl, ?_⟩
    exact below_set (below_set (below_set (below_set (below_set B1.out (by simp; try omega) _) (by simp; try omega) _) (by simp; try omega) _) (by simp; try omega) _) (by simp; try omega) _
  · rw [show zoneOf zs fe ki = some _ from hf]
    rw [hi] at H
    have hlm : i < m := by rw [← h.len]; exact hl
    have i0 : (0 : Int) ≤ (i : Int) := by omega
    have i1 : (i : Int) < (m : Int) := by omega
    obtain ⟨ad, ea, c0, c1, c2, c3, c4⟩ := IsZs.cells h i hlm
    subst ea
    clear h hi hf hl
    generalize zs.getD i zd = z at *
    obtain ⟨zk, zf, zl, zu, zb⟩ := z
    dsimp only at c0 c1 c2 c3 c4
    go_enter Tryz.func30, Tryz.ntmps30
    go_wp2_with fail
    refine (H.out _ _ _ (by repeat (first | exact Below.refl _ _ | with_reducible assumption | apply below_alloc | apply below_drewN | apply below_drew | refine below_set ?_ (by simp; try omega) _ | refine below_then ?_ (by with_reducible assumption))) (by simp [go_sem]) (by simp [go_sem])).mono ?_
    rintro e w1 ⟨rfl, hb⟩
    have x0 := keptc hb (w.heap.size) 0 (.slice A n c) (by first | with_reducible assumption | (simp [go_sem]; done)); have x1 := keptc hb (w.heap.size) 1 (.slice (some ad) m d) (by first | with_reducible assumption | (simp [go_sem]; done)); have fx0 := keptF hb (g := w.heap.size) (o := 0) (v := .slice A n c) (by first | with_reducible assumption | (simp [go_sem]; done)) (by first | with_reducible assumption | (simp [go_sem]; done)); have fx1 := keptF hb (g := w.heap.size) (o := 1) (v := .slice (some ad) m d) (by first | with_reducible assumption | (simp [go_sem]; done)) (by first | with_reducible assumption | (simp [go_sem]; done))
    have r0 := keptc hb (w.heap.size + 1 + 1 + 1) 0 (.int .i64 0) (by first | with_reducible assumption | (simp [go_sem]; done)); have r1 := keptc hb (w.heap.size + 1 + 1 + 1) 1 (.int .i64 0) (by first | with_reducible assumption | (simp [go_sem]; done)); have r2 := keptc hb (w.heap.size + 1 + 1 + 1) 2 (.int .i64 0) (by first | with_reducible assumption | (simp [go_sem]; done)); have r3 := keptc hb (w.heap.size + 1 + 1 + 1) 3 (.int .i64 0) (by first | with_reducible assumption | (simp [go_sem]; done)); have r4 := keptc hb (w.heap.size + 1 + 1 + 1) 4 (.bool false) (by first | with_reducible assumption | (simp [go_sem]; done)); have fr0 := keptF hb (g := w.heap.size + 1 + 1 + 1) (o := 0) (v := .int .i64 0) (by first | with_reducible assumption | (simp [go_sem]; done)) (by first | with_reducible assumption | (simp [go_sem]; done)); have fr1 := keptF hb (g := w.heap.size + 1 + 1 + 1) (o := 1) (v := .int .i64 0) (by first | with_reducible assumption | (simp [go_sem]; done)) (by first | with_reducible assumption | (simp [go_sem]; done)); have fr2 := keptF hb (g := w.heap.size + 1 + 1 + 1) (o := 2) (v := .int .i64 0) (by first | with_reducible assumption | (simp [go_sem]; done)) (by first | with_reducible assumption | (simp [go_sem]; done)); have fr3 := keptF hb (g := w.heap.size + 1 + 1 + 1) (o := 3) (v := .int .i64 0) (by first | with_reducible assumption | (simp [go_sem]; done)) (by first | with_reducible assumption | (simp [go_sem]; done)); have fr4 := keptF hb (g := w.heap.size + 1 + 1 + 1) (o := 4) (v := .bool false) (by first | with_reducible assumption | (simp [go_sem]; done)) (by first | with_reducible assumption | (simp [go_sem]; done)); have Tr := Lib.hid (keptT hb (g := w.heap.size + 1 + 1 + 1) (o := 0) (v := .int .i64 0) (by first | with_reducible assumption | (simp [go_sem]; done)) (e := 30) (by first | with_reducible assumption | exact Hid.out (by with_reducible assumption) | (simp [typ_alloc, typ_drewN, typ_drew, otyp_cells]; done)))
    have B1 := Lib.hid (below_then (w := w) (by repeat (first | exact Below.refl _ _ | with_reducible assumption | apply below_alloc | apply below_drewN | apply below_drew | refine below_set ?_ (by simp; try omega) _ | refine below_then ?_ (by with_reducible assumption))) hb)
    have c0 := cell_below B1.out c0
    have c1 := cell_below B1.out c1
    have c2 := cell_below B1.out c2
    have c3 := cell_below B1.out c3
    have c4 := cell_below B1.out c4
    clear hb
    go_wp2_with fail
    refine bodyPost_ret (v := .tuple #[.agg #[.int .i64 zk, .int .i64 zf, .int .i64 zl, .int .i64 zu, .bool zb], .bool true]) (by simp [results, Tryz.results30, go_sem, r0, r1, r2, r3, r4]) rfl ⟨rfl, ?_⟩
    exact below_set (below_set (below_set (below_set (below_set B1.out (by simp; try omega) _) (by simp; try omega) _) (by simp; try omega) _) (by simp; try omega) _) (by simp; try omega) _
end Go.Proofs.YtpifbaiibhaklaaGreatDoor
namespace Go.Proofs.YtpifbaiibhaklaaGreatDoor
open Go.RowKit Big
set_option maxHeartbeats 4000000
set_option linter.unusedVariables false
set_option linter.unusedSimpArgs false

/-- The nominal value of a variable. -/
def nominalOf (fs : List Feat) (feature : Nat) (kind : Int) : Int := if kind = 1 then (fs.getD feature fd).at_ else if kind = 2 then (fs.getD feature fd).wide else 0
theorem nominal_any (base : Nat) (A B : Option Addr) (n c m d : Nat) (fs : List Feat) (i : Nat) (ki : Int) (w : World) (h : IsFs base 28 w A n c fs) (hi : i < n) :
    Calls Tryz.prog 31 #[.agg #[.slice A n c, .slice B m d], .agg #[.int .i64 (i : Int), .int .i64 ki]] w fun e w' => e = .returned (.int .i64 (nominalOf fs i ki)) ∧ Below w.heap.size w w' := by
  obtain ⟨ad, ea, c0, c1, c2, c3, c4, c5⟩ := IsFs.cells h i hi
  subst ea
  have i0 : (0 : Int) ≤ (i : Int) := by omega
  have i1 : (i : Int) < (n : Int) := by omega
  have hlt : (ad.add (i * 6)).block < w.heap.size := World.block_lt_of_cell? w _ c0
  have hne : ¬ (ad.add (i * 6)).block = w.heap.size := Nat.ne_of_lt hlt
  have hne2 : ¬ (ad.add (i * 6)).block = w.heap.size + 1 := by omega
  clear h
  unfold nominalOf
  generalize fs.getD i fd = f at *
  obtain ⟨name, kind, axis, datum, at_, wide⟩ := f
  dsimp only at c0 c1 c2 c3 c4 c5 ⊢
  by_cases k1 : ki = 1
  · subst k1
    rw [if_pos rfl]
    go_enter Tryz.func31, Tryz.ntmps31
    go_wp2_with fail
    go_ret
    exact ⟨rfl, (by repeat (first | exact Below.refl _ _ | with_reducible assumption | apply below_alloc | apply below_drewN | apply below_drew | refine below_set ?_ (by simp; try omega) _ | refine below_then ?_ (by with_reducible assumption)))⟩
  · rw [if_neg k1]
    by_cases k2 : ki = 2
    · subst k2
      rw [if_pos rfl]
      go_enter Tryz.func31, Tryz.ntmps31
      go_wp2_with fail
      go_ret
      exact ⟨rfl, (by repeat (first | exact Below.refl _ _ | with_reducible assumption | apply below_alloc | apply below_drewN | apply below_drew | refine below_set ?_ (by simp; try omega) _ | refine below_then ?_ (by with_reducible assumption)))⟩
    · rw [if_neg k2]
      have k1d : (ki == 1) = false := by simpa using k1
      have k2d : (ki == 2) = false := by simpa using k2
      go_enter Tryz.func31, Tryz.ntmps31
      go_wp2_with fail
      go_ret
      exact ⟨rfl, (by repeat (first | exact Below.refl _ _ | with_reducible assumption | apply below_alloc | apply below_drewN | apply below_drew | refine below_set ?_ (by simp; try omega) _ | refine below_then ?_ (by with_reducible assumption)))⟩

/-! ### The variables -/
structure Vr where
  feature : Nat
  kind : Int
def encV (v : Vr) : List Value := [.int .i64 (v.feature : Int), .int .i64 v.kind]
theorem encV_len (v : Vr) : (encV v).length = 2 := rfl
def varsAt (s : Sch) (i : Nat) : List Vr := [⟨i, 1⟩] ++ (if (s.fs.getD i fd).kind = 2 then [⟨i, 2⟩] else []) ++ (if (zoneOf s.zs i 3).isSome = true then [⟨i, 3⟩] else [])
def varsTo (s : Sch) : Nat → List Vr
  | 0 => []
  | i + 1 => varsTo s i ++ varsAt s i
/-- The variables of a scheme. -/
def varsOf (s : Sch) : List Vr := varsTo s s.fs.length
theorem varsTo_len (s : Sch) (i : Nat) : (varsTo s i).length ≤ 3 * i := by
  induction i with
  | zero => simp [varsTo]
  | succ i ih =>
    have : (varsAt s i).length ≤ 3 := by unfold varsAt; split <;> split <;> simp
    simp only [varsTo, List.length_append]
    omega
theorem info189 : (Tryz.prog.info? 78).map (fun i => (i.zero, i.size, i.bytes)) = some (some (.agg #[.int .i64 0, .int .i64 0]), 2, 16) := by kernel_rfl
/-- A list of variables handed back. -/
def RetVars (vs : List Vr) (w : World) (e : Ending) (w' : World) : Prop := ∃ A n c, e = .returned (.slice A n c) ∧ IsRow encV 2 w.heap.size 78 w' A n c vs ∧ Below w.heap.size w w'
end Go.Proofs.YtpifbaiibhaklaaGreatDoor
namespace Go.Proofs.YtpifbaiibhaklaaGreatDoor
open Go.RowKit Big
set_option maxHeartbeats 4000000
set_option linter.unusedVariables false
set_option linter.unusedSimpArgs false

theorem own_cast {w : World} {base : Nat} {e : TypeId} {size n m : Nat} {v : Value} {xs ys : List Value} (h : w.ownsRow base e size v n xs) (hn : n = m) (hx : xs = ys) : w.ownsRow base e size v m ys := by
  subst hn hx; exact h
theorem flat_app {α : Type} (enc : α → List Value) (a b : List α) : flat enc (a ++ b) = flat enc a ++ flat enc b := by simp [flat]
theorem alloc_size (w : World) (o : Obj) : (w.alloc o).heap.size = w.heap.size + 1 := by simp
set_option maxRecDepth 100000 in
theorem variables_any (base : Nat) (A B : Option Addr) (n c m d : Nat) (s : Sch) (w : World) (hf : IsFs base 28 w A n c s.fs) (hz : IsZs base 30 w B m d s.zs) (hn : n ≤ 1000000) (hm : m ≤ 1000000) :
    Calls Tryz.prog 29 #[.agg #[.slice A n c, .slice B m d]] w (RetVars (varsOf s) w) := by
  have HZ := Lib.hid (fun (i : Nat) W (hW : Below w.heap.size w W) => zone_any base A B n c m d s.zs (i : Int) 3 W (hz.below hW) hm)
  have hlen := Lib.hid hf.len
  clear hz
  go_enter Tryz.func29, Tryz.ntmps29
  go_wp2_with fail
  go_loopw [3, 11] (fun v q wr => ∃ (i : Nat), i ≤ n ∧ q = .int .i64 (i : Int) ∧ Hid (wr.ownsRow (w.heap.size + 1) 78 2 v (varsTo s i).length (flat encV (varsTo s i))) ∧ Below w.heap.size w wr ∧ wr.cell? ⟨w.heap.size, 0, none⟩ = some (.slice A n c) ∧ wr.cell? ⟨w.heap.size, 1, none⟩ = some (.slice B m d)) (fun _ q _ => n - (intOf q).toNat)
  case atStart => exact ⟨0, Nat.zero_le _, rfl, Lib.hid (own_nil _ _ _ _), (by repeat (first | exact Below.refl _ _ | with_reducible assumption | apply below_alloc | apply below_drewN | apply below_drew | refine below_set ?_ (by simp; try omega) _ | refine below_then ?_ (by with_reducible assumption))), by simp [go_sem], by simp [go_sem]⟩
  case round =>
    obtain ⟨i, hi, rfl, hown, hb, c0, c1⟩ := hrel
    have Hb := Lib.hid hb
    have hcnt := varsTo_len s i
    by_cases hlt : i < n
    · obtain ⟨ad, ea, x0, x1, x2, x3, x4, x5⟩ := IsFs.cells (hf.below hb) i hlt
      subst ea
      have i0 : (0 : Int) ≤ (i : Int) := by omega
      have i1 : (i : Int) < (n : Int) := by omega
      have hbl : w.heap.size < wr.heap.size := World.block_lt_of_cell? wr _ c0
      have hlt2 : (ad.add (i * 6)).block < wr.heap.size := World.block_lt_of_cell? wr _ x0
      have hne2 : ¬ (ad.add (i * 6)).block = wr.heap.size := Nat.ne_of_lt hlt2
      have vs0 : Hid (varsTo s (i + 1) = varsTo s i ++ varsAt s i) := Lib.hid rfl
      have va : varsAt s i = [⟨i, 1⟩] ++ (if (s.fs.getD i fd).kind = 2 then [⟨i, 2⟩] else []) ++ (if (zoneOf s.zs i 3).isSome = true then [⟨i, 3⟩] else []) := rfl
      have HZi := Lib.hid (HZ.out i)
      generalize varsAt s i = vA at vs0 va
      generalize zoneOf s.zs i 3 = o at HZi va
      generalize s.fs.getD i fd = f at *
      obtain ⟨name, kind, axis, datum, at_, wide⟩ := f
      dsimp only at x0 x1 x2 x3 x4 x5 va
      have va := Lib.hid va
      have O0 : Hid ((wr.alloc (.cells #[.string name, .int .i64 kind, .int .i64 axis, .int .i64 datum, .int .i64 at_, .int .i64 wide] 28)).ownsRow (w.heap.size + 1) 78 2 u3 (varsTo s i).length (flat encV (varsTo s i))) := Lib.hid (own_below hown.out (below_alloc (Below.refl _ _)))
      clear hb HZ hown
      by_cases hk : kind = 2
      · subst hk
        go_wp2_with (first | (have _t := O0; at_builtin; go_must (refine append_cells (w.heap.size + 1) rfl (.tmp 16) (.tmp 19) 75 78 (.agg #[.int .i64 0, .int .i64 0]) 2 16 rfl Tryz.underlying75 info189 rfl (by decide) (by decide) u3 (varsTo s i).length (flat encV (varsTo s i)) [.int .i64 (i : Int), .int .i64 1] rfl (by rw [alloc_size]; rfl) rfl (by simp [Value.oneCell']) O0.out (by simp; omega) (by omega) ?_); intro v1 w4 hown4 hgr4 _; have g0 := grown_cell hgr4 (cell_below (below_alloc (o := .cells #[.string name, .int .i64 2, .int .i64 axis, .int .i64 datum, .int .i64 at_, .int .i64 wide] 28) (Below.refl _ _)) c0) (fun k hk => by have := own_base O0.out k hk; show k ≠ w.heap.size; omega); have g1 := grown_cell hgr4 (cell_below (below_alloc (o := .cells #[.string name, .int .i64 2, .int .i64 axis, .int .i64 datum, .int .i64 at_, .int .i64 wide] 28) (Below.refl _ _)) c1) (fun k hk => by have := own_base O0.out k hk; show k ≠ w.heap.size; omega); have gk := grown_cell hgr4 (show (wr.alloc (.cells #[.string name, .int .i64 2, .int .i64 axis, .int .i64 datum, .int .i64 at_, .int .i64 wide] 28)).cell? ⟨wr.heap.size, 1, none⟩ = some (.int .i64 2) by simp [go_sem]) (fun k hk e => own_ne O0.out (g := wr.heap.size) (t := 28) (by simp [typ_alloc, otyp_cells]) (by decide) (by rw [← show k = wr.heap.size from e]; exact hk.symm)); have B4 := Lib.hid (below_grownB (B := w.heap.size) (w := w) (below_alloc Hb.out) (by simp; omega) hgr4 (fun k hk => by have := own_base O0.out k hk; omega)); have O4 := Lib.hid hown4; clear hown4 hgr4 O0 c0 c1 x0 x1 x2 x3 x4 x5) | (have _t := O4; at_builtin; go_must (refine append_cells (w.heap.size + 1) rfl (.tmp 24) (.tmp 27) 75 78 (.agg #[.int .i64 0, .int .i64 0]) 2 16 rfl Tryz.underlying75 info189 rfl (by decide) (by decide) v1 ((varsTo s i).length + 1) (flat encV (varsTo s i) ++ [.int .i64 (i : Int), .int .i64 1]) [.int .i64 (i : Int), .int .i64 2] rfl rfl rfl (by simp [Value.oneCell']) O4.out (by have : w.heap.size < w4.heap.size := World.block_lt_of_cell? _ _ g0; omega) (by omega) ?_); intro v2 w5 hown5 hgr5 _; have e0 := grown_cell hgr5 g0 (fun k hk => by have := own_base O4.out k hk; show k ≠ w.heap.size; omega); have e1 := grown_cell hgr5 g1 (fun k hk => by have := own_base O4.out k hk; show k ≠ w.heap.size; omega); have B5 := Lib.hid (below_grownB B4.out B4.out.size hgr5 (fun k hk => by have := own_base O4.out k hk; omega)); have O5 := Lib.hid hown5; clear hown5 hgr5 O4 g0 g1 gk))
        refine (HZi.out _ B5.out).mono ?_
        intro e w6 hret
        obtain ⟨rfl, hb⟩ := hret
        have h0 := keptc hb _ _ _ e0
        have h1 := keptc hb _ _ _ e1
        have O6 := Lib.hid (own_below O5.out hb)
        have B6 := Lib.hid (below_then B5.out hb)
        have hb6 : w.heap.size < w6.heap.size := World.block_lt_of_cell? w6 _ h0
        clear hb
        cases o with
        | none =>
          go_wp2_with fail
          go_roundw
          case rel => exact ⟨i + 1, by omega, by go_num, Lib.hid (own_cast (own_below O6.out (below_alloc (Below.refl _ _))) (by rw [vs0.out, va.out]; simp) (by rw [vs0.out, va.out, flat_app]; simp [flat, encV])), below_alloc B6.out, cell_below (below_alloc (Below.refl _ _)) h0, cell_below (below_alloc (Below.refl _ _)) h1⟩
          case measure => simp [intOf]; omega
        | some z =>
          have O7 : Hid ((w6.alloc (.cells #[.int .i64 z.kind, .int .i64 z.feature, .int .i64 z.lower, .int .i64 z.upper, .bool z.bonus] 30)).ownsRow (w.heap.size + 1) 78 2 v2 ((varsTo s i).length + 1 + 1) (flat encV (varsTo s i) ++ [.int .i64 (i : Int), .int .i64 1] ++ [.int .i64 (i : Int), .int .i64 2])) := Lib.hid (own_below O6.out (below_alloc (Below.refl _ _)))
          go_wp2_with (at_builtin; go_must (refine append_cells (w.heap.size + 1) rfl (.tmp 36) (.tmp 39) 75 78 (.agg #[.int .i64 0, .int .i64 0]) 2 16 rfl Tryz.underlying75 info189 rfl (by decide) (by decide) v2 ((varsTo s i).length + 1 + 1) (flat encV (varsTo s i) ++ [.int .i64 (i : Int), .int .i64 1] ++ [.int .i64 (i : Int), .int .i64 2]) [.int .i64 (i : Int), .int .i64 3] rfl (by rw [alloc_size]; rfl) rfl (by simp [Value.oneCell']) O7.out (by simp; omega) (by omega) ?_); intro v7 w7 hown7 hgr7 _; have g0 := grown_cell hgr7 (cell_below (below_alloc (o := .cells #[.int .i64 z.kind, .int .i64 z.feature, .int .i64 z.lower, .int .i64 z.upper, .bool z.bonus] 30) (Below.refl _ _)) h0) (fun k hk => by have := own_base O7.out k hk; show k ≠ w.heap.size; omega); have g1 := grown_cell hgr7 (cell_below (below_alloc (o := .cells #[.int .i64 z.kind, .int .i64 z.feature, .int .i64 z.lower, .int .i64 z.upper, .bool z.bonus] 30) (Below.refl _ _)) h1) (fun k hk => by have := own_base O7.out k hk; show k ≠ w.heap.size; omega); have B7 := Lib.hid (below_grownB (B := w.heap.size) (w := w) (below_alloc B6.out) (by simp; omega) hgr7 (fun k hk => by have := own_base O7.out k hk; omega)); have O8 := Lib.hid hown7; clear hown7 hgr7 O7 h0 h1)
          go_roundw
          case rel => exact ⟨i + 1, by omega, by go_num, Lib.hid (own_cast O8.out (by rw [vs0.out, va.out]; simp) (by rw [vs0.out, va.out, flat_app]; simp [flat, encV])), B7.out, g0, g1⟩
          case measure => simp [intOf]; omega
      · have hkd : (kind == 2) = false := by simpa using hk
        go_wp2_with (at_builtin; go_must (refine append_cells (w.heap.size + 1) rfl (.tmp 16) (.tmp 19) 75 78 (.agg #[.int .i64 0, .int .i64 0]) 2 16 rfl Tryz.underlying75 info189 rfl (by decide) (by decide) u3 (varsTo s i).length (flat encV (varsTo s i)) [.int .i64 (i : Int), .int .i64 1] rfl (by rw [alloc_size]; rfl) rfl (by simp [Value.oneCell']) O0.out (by simp; omega) (by omega) ?_); intro v1 w4 hown4 hgr4 _; have g0 := grown_cell hgr4 (cell_below (below_alloc (o := .cells #[.string name, .int .i64 kind, .int .i64 axis, .int .i64 datum, .int .i64 at_, .int .i64 wide] 28) (Below.refl _ _)) c0) (fun k hk => by have := own_base O0.out k hk; show k ≠ w.heap.size; omega); have g1 := grown_cell hgr4 (cell_below (below_alloc (o := .cells #[.string name, .int .i64 kind, .int .i64 axis, .int .i64 datum, .int .i64 at_, .int .i64 wide] 28) (Below.refl _ _)) c1) (fun k hk => by have := own_base O0.out k hk; show k ≠ w.heap.size; omega); have gk := grown_cell hgr4 (show (wr.alloc (.cells #[.string name, .int .i64 kind, .int .i64 axis, .int .i64 datum, .int .i64 at_, .int .i64 wide] 28)).cell? ⟨wr.heap.size, 1, none⟩ = some (.int .i64 kind) by simp [go_sem]) (fun k hk e => own_ne O0.out (g := wr.heap.size) (t := 28) (by simp [typ_alloc, otyp_cells]) (by decide) (by rw [← show k = wr.heap.size from e]; exact hk.symm)); have B4 := Lib.hid (below_grownB (B := w.heap.size) (w := w) (below_alloc Hb.out) (by simp; omega) hgr4 (fun k hk => by have := own_base O0.out k hk; omega)); have O4 := Lib.hid hown4; clear hown4 hgr4 O0 c0 c1 x0 x1 x2 x3 x4 x5)
        refine (HZi.out _ B4.out).mono ?_
        intro e w6 hret
        obtain ⟨rfl, hb⟩ := hret
        have h0 := keptc hb _ _ _ g0
        have h1 := keptc hb _ _ _ g1
        have O6 := Lib.hid (own_below O4.out hb)
        have B6 := Lib.hid (below_then B4.out hb)
        have hb6 : w.heap.size < w6.heap.size := World.block_lt_of_cell? w6 _ h0
        clear hb
        cases o with
        | none =>
          go_wp2_with fail
          go_roundw
          case rel => exact ⟨i + 1, by omega, by go_num, Lib.hid (own_cast (own_below O6.out (below_alloc (Below.refl _ _))) (by rw [vs0.out, va.out]; simp [hk]) (by rw [vs0.out, va.out, flat_app]; simp [flat, encV, hk])), below_alloc B6.out, cell_below (below_alloc (Below.refl _ _)) h0, cell_below (below_alloc (Below.refl _ _)) h1⟩
          case measure => simp [intOf]; omega
        | some z =>
          have O7 : Hid ((w6.alloc (.cells #[.int .i64 z.kind, .int .i64 z.feature, .int .i64 z.lower, .int .i64 z.upper, .bool z.bonus] 30)).ownsRow (w.heap.size + 1) 78 2 v1 ((varsTo s i).length + 1) (flat encV (varsTo s i) ++ [.int .i64 (i : Int), .int .i64 1])) := Lib.hid (own_below O6.out (below_alloc (Below.refl _ _)))
          go_wp2_with (at_builtin; go_must (refine append_cells (w.heap.size + 1) rfl (.tmp 36) (.tmp 39) 75 78 (.agg #[.int .i64 0, .int .i64 0]) 2 16 rfl Tryz.underlying75 info189 rfl (by decide) (by decide) v1 ((varsTo s i).length + 1) (flat encV (varsTo s i) ++ [.int .i64 (i : Int), .int .i64 1]) [.int .i64 (i : Int), .int .i64 3] rfl (by rw [alloc_size]; rfl) rfl (by simp [Value.oneCell']) O7.out (by simp; omega) (by omega) ?_); intro v7 w7 hown7 hgr7 _; have g0 := grown_cell hgr7 (cell_below (below_alloc (o := .cells #[.int .i64 z.kind, .int .i64 z.feature, .int .i64 z.lower, .int .i64 z.upper, .bool z.bonus] 30) (Below.refl _ _)) h0) (fun k hk => by have := own_base O7.out k hk; show k ≠ w.heap.size; omega); have g1 := grown_cell hgr7 (cell_below (below_alloc (o := .cells #[.int .i64 z.kind, .int .i64 z.feature, .int .i64 z.lower, .int .i64 z.upper, .bool z.bonus] 30) (Below.refl _ _)) h1) (fun k hk => by have := own_base O7.out k hk; show k ≠ w.heap.size; omega); have B7 := Lib.hid (below_grownB (B := w.heap.size) (w := w) (below_alloc B6.out) (by simp; omega) hgr7 (fun k hk => by have := own_base O7.out k hk; omega)); have O8 := Lib.hid hown7; clear hown7 hgr7 O7 h0 h1)
          go_roundw
          case rel => exact ⟨i + 1, by omega, by go_num, Lib.hid (own_cast O8.out (by rw [vs0.out, va.out]; simp [hk]) (by rw [vs0.out, va.out, flat_app]; simp [flat, encV, hk])), B7.out, g0, g1⟩
          case measure => simp [intOf]; omega
    · obtain rfl : i = n := by omega
      have hl := hlen.out
      obtain ⟨A', c', rfl, hc'⟩ := own_slice hown.out
      clear hb HZ
      go_wp2_with fail
      go_ret
      exact ⟨A', _, c', rfl, ⟨by unfold varsOf; rw [hl], hc', by unfold varsOf; rw [hl]; exact Reads.of_own hown.out⟩, Hb.out⟩
end Go.Proofs.YtpifbaiibhaklaaGreatDoor
namespace Go.Proofs.YtpifbaiibhaklaaGreatDoor
open Go.RowKit Big
set_option maxHeartbeats 4000000
set_option linter.unusedVariables false
set_option linter.unusedSimpArgs false

section
variable {P : Program} {ops : Array Oper} {o : Oper} {a : Act} {K : Act → World → Prop} {Q : Exit → Act → World → Prop} {E : Prop}
/-- append(v, x) at a step of a region that draws its order. -/
theorem step_append_cells {W : World} (base : Nat) (hgd : o.guard = none) (s x : Operand) (t e : TypeId) (z : Value) (size bytes : Nat)
    (ho : o.op = .call { callee := .builtin .append, args := #[s, x], argTypes := #[t, t] })
    (ht : P.underlying t = some (.slice e)) (hinfo : (P.info? e).map (fun i => (i.zero, i.size, i.bytes)) = some (some z, size, bytes)) (hz : z.cells.size = size) (hs0 : 0 < size) (hb0 : 0 < bytes)
    (v : Value) (n : Nat) (xs ys : List Value) (hs : a.eval s = v) (hx : a.eval x = .slice (some ⟨W.heap.size, 0, none⟩) 1 1) (hys : ys.length = size) (h1 : ∀ u ∈ ys, u.oneCell' = true)
    (HO : W.ownsRow base e size v n xs) (hbase : base ≤ W.heap.size) (hl : (n + 1) * bytes ≤ 140737488355328)
    (h : ∀ v1 w1, w1.ownsRow base e size v1 (n + 1) (xs ++ ys) → W.grownBy w1 v.ownBlock → K (a.put o.dst v1) w1) :
    if Region.wanted o (yielded ops a.tmps) = true then Oper.wp P o a (W.alloc (.cells ys.toArray e)) K Q else E := by
  obtain ⟨i0, hi, hzz⟩ := Option.map_eq_some_iff.1 hinfo
  simp only [Prod.mk.injEq] at hzz
  obtain ⟨hz0, hz1, hz2⟩ := hzz
  have hlen : n + 1 ≤ 140737488355328 := Nat.le_trans (Nat.le_mul_of_pos_right _ hb0) hl
  refine step_append_lies (W.alloc (.cells ys.toArray e)) hgd s x t ho base e i0 z size bytes ht hi hz0 hz1 hz2 hz hs0 v n xs hs (HO.alloc _) ⟨W.heap.size, 0, none⟩ 1 1 ys hx (by rw [hys]; simp)
    (by simpa using World.news_of_block (cs := ys.toArray) (t := e) (fr := (0, 0)) (heap_alloc_new W (.cells ys.toArray e))) h1 (by decide) (by simp only [maxLen]; omega) hl (by simp; omega) _ rfl ?_
  intro g cap w1 hown hg _ _
  exact h _ w1 hown (World.grownBy.trans (World.grownBy_alloc W _ _) hg)
end

/-! ### What Check promises -/
theorem firstErr_all (f : Nat → Int) (k i : Nat) (h : firstErr f i k = 0) (j : Nat) (h1 : i ≤ j) (h2 : j < i + k) : f j = 0 := by
  induction k generalizing i with
  | zero => omega
  | succ k ih =>
    unfold firstErr at h
    by_cases e : f i = 0
    · rw [if_neg (by simpa using e)] at h
      by_cases e2 : j = i
      · rw [e2]; exact e
      · exact ih (i + 1) h (by omega) (by omega)
    · rw [if_pos e] at h
      exact absurd h e
structure Fine (s : Sch) : Prop where
  nf : s.fs.length ≤ 16
  nz : s.zs.length ≤ 32
  feat : ∀ i, i < s.fs.length → featErr s.fs i = 0
  zone : ∀ i, i < s.zs.length → zoneErr s.fs s.zs i = 0
theorem fine_of_check {s : Sch} (h : checkE s = 0) : Fine s := by
  unfold checkE at h
  split at h
  · exact absurd h (by decide)
  · split at h
    · exact absurd h (by decide)
    · split at h
      · rename_i h3
        exact absurd h h3
      · rename_i h1 h2 h3
        have h3 : firstErr (featErr s.fs) 0 s.fs.length = 0 := by simpa using h3
        exact ⟨by omega, by omega, fun i hi => firstErr_all _ _ _ h3 i (by omega) (by omega), fun i hi => firstErr_all _ _ _ h i (by omega) (by omega)⟩
theorem far_bd {x : Int} (h : farB x = false) : -268435456 ≤ x ∧ x ≤ 268435456 := by
  unfold farB at h
  simp at h
  omega
theorem ite_zero {c : Prop} [Decidable c] {a b : Int} (ha : a ≠ 0) (h : (if c then a else b) = 0) : ¬ c ∧ b = 0 := by
  by_cases hc : c
  · rw [if_pos hc] at h; exact absurd h ha
  · rw [if_neg hc] at h; exact ⟨hc, h⟩
structure ZoneOk (z : Zon) (n : Nat) (slot : Bool) : Prop where
  k1 : 1 ≤ z.kind
  k3 : z.kind ≤ 3
  f0 : 0 ≤ z.feature
  fn : z.feature < n
  form : ¬ ((z.kind = 2 ∧ slot = false) ∨ (z.kind = 3 ∧ slot = true) ∨ (z.bonus = true ∧ (z.kind ≠ 1 ∨ slot = false)))
  lo : -268435456 ≤ z.lower ∧ z.lower ≤ 268435456
  up : -268435456 ≤ z.upper ∧ z.upper ≤ 268435456
  ord : z.lower ≤ z.upper
theorem zoneErr1_ok {z : Zon} {n : Nat} {slot dup : Bool} (h : zoneErr1 z n slot dup = 0) : ZoneOk z n slot ∧ dup = false := by
  unfold zoneErr1 at h
  obtain ⟨h1, h⟩ := ite_zero (by decide) h
  obtain ⟨h2, h⟩ := ite_zero (by decide) h
  obtain ⟨h3, h⟩ := ite_zero (by decide) h
  obtain ⟨h4, h⟩ := ite_zero (by decide) h
  obtain ⟨h5, h⟩ := ite_zero (by decide) h
  obtain ⟨h6, h⟩ := ite_zero (by decide) h
  obtain ⟨h7, h⟩ := ite_zero (by decide) h
  obtain ⟨h8, h⟩ := ite_zero (by decide) h
  obtain ⟨h9, h⟩ := ite_zero (by decide) h
  exact ⟨⟨by omega, by omega, by omega, by omega, h5, far_bd (by simpa using h6), far_bd (by simpa using h7), by omega⟩, by simpa using h9⟩
structure FeatOk (f : Feat) (i : Nat) : Prop where
  name : isName f.name.data.toList = true
  len : f.name.size ≤ 30
  kind : f.kind = 1 ∨ f.kind = 2
  ax0 : 0 ≤ f.axis
  ax2 : f.axis ≤ 2
  d1 : -1 ≤ f.datum
  di : f.datum < i
  at_ : -268435456 ≤ f.at_ ∧ f.at_ ≤ 268435456
  wide : -268435456 ≤ f.wide ∧ f.wide ≤ 268435456
  slot : f.kind = 2 → 1 ≤ f.wide
  surf : f.kind = 1 → f.wide = 0
theorem featErr1_ok {f : Feat} {dup : Bool} {ax : Int} {i : Nat} (h : featErr1 f dup ax i = 0) : FeatOk f i ∧ dup = false ∧ (0 ≤ f.datum → ax = f.axis) := by
  unfold featErr1 at h
  obtain ⟨h1, h⟩ := ite_zero (by decide) h
  obtain ⟨h2, h⟩ := ite_zero (by decide) h
  obtain ⟨h3, h⟩ := ite_zero (by decide) h
  obtain ⟨h4, h⟩ := ite_zero (by decide) h
  obtain ⟨h5, h⟩ := ite_zero (by decide) h
  obtain ⟨h6, h⟩ := ite_zero (by decide) h
  obtain ⟨h7, h⟩ := ite_zero (by decide) h
  obtain ⟨h8, h⟩ := ite_zero (by decide) h
  obtain ⟨h9, h⟩ := ite_zero (by decide) h
  obtain ⟨h10, h⟩ := ite_zero (by decide) h
  obtain ⟨h11, h⟩ := ite_zero (by decide) h
  obtain ⟨h12, h⟩ := ite_zero (by decide) h
  obtain ⟨h13, h⟩ := ite_zero (by decide) h
  obtain ⟨h14, h⟩ := ite_zero (by decide) h
  exact ⟨⟨by simpa using h1, by omega, by omega, by omega, by omega, by omega, by omega, far_bd (by simpa using h11), far_bd (by simpa using h12), by omega, by omega⟩, by simpa using h4, by omega⟩
theorem Fine.featOk {s : Sch} (h : Fine s) (i : Nat) (hi : i < s.fs.length) : FeatOk (s.fs.getD i fd) i := (featErr1_ok (h.feat i hi)).1
theorem Fine.zoneOk {s : Sch} (h : Fine s) (i : Nat) (hi : i < s.zs.length) : ZoneOk (s.zs.getD i zd) s.fs.length ((s.fs.getD (s.zs.getD i zd).feature.toNat fd).kind == 2) := (zoneErr1_ok (h.zone i hi)).1
theorem Fine.zoneOf {s : Sch} (h : Fine s) (fe ki : Int) {z : Zon} (hz : zoneOf s.zs fe ki = some z) : ZoneOk z s.fs.length ((s.fs.getD z.feature.toNat fd).kind == 2) ∧ z.feature = fe ∧ z.kind = ki := by
  unfold Go.Proofs.YtpifbaiibhaklaaGreatDoor.zoneOf at hz
  have hm := List.mem_of_find?_eq_some hz
  have hp := List.find?_some hz
  obtain ⟨i, hi, rfl⟩ := List.mem_iff_getElem.1 hm
  have := h.zoneOk i hi
  rw [show s.zs.getD i zd = s.zs[i] by simp [List.getD_eq_getElem?_getD, List.getElem?_eq_getElem hi]] at this
  refine ⟨this, ?_⟩
  unfold zoneP at hp
  simpa using hp
theorem Fine.bounds {s : Sch} (h : Fine s) (fe ki : Int) : -268435456 ≤ ((Go.Proofs.YtpifbaiibhaklaaGreatDoor.zoneOf s.zs fe ki).getD zd).lower ∧ ((Go.Proofs.YtpifbaiibhaklaaGreatDoor.zoneOf s.zs fe ki).getD zd).lower ≤ 268435456 ∧ -268435456 ≤ ((Go.Proofs.YtpifbaiibhaklaaGreatDoor.zoneOf s.zs fe ki).getD zd).upper ∧ ((Go.Proofs.YtpifbaiibhaklaaGreatDoor.zoneOf s.zs fe ki).getD zd).upper ≤ 268435456 := by
  cases hz : Go.Proofs.YtpifbaiibhaklaaGreatDoor.zoneOf s.zs fe ki with
  | none => exact ⟨by decide, by decide, by decide, by decide⟩
  | some z =>
    obtain ⟨h1, _⟩ := h.zoneOf fe ki hz
    exact ⟨h1.lo.1, h1.lo.2, h1.up.1, h1.up.2⟩
theorem varsAt_mem {s : Sch} {i : Nat} {v : Vr} (h : v ∈ varsAt s i) : v.feature = i ∧ (v.kind = 1 ∨ v.kind = 2 ∨ v.kind = 3) := by
  unfold varsAt at h
  simp only [List.mem_append, List.mem_singleton] at h
  rcases h with (rfl | h) | h
  · exact ⟨rfl, .inl rfl⟩
  · split at h
    · simp only [List.mem_singleton] at h; subst h; exact ⟨rfl, .inr (.inl rfl)⟩
    · simp at h
  · split at h
    · simp only [List.mem_singleton] at h; subst h; exact ⟨rfl, .inr (.inr rfl)⟩
    · simp at h
theorem varsTo_mem {s : Sch} {n : Nat} {v : Vr} (h : v ∈ varsTo s n) : v.feature < n ∧ (v.kind = 1 ∨ v.kind = 2 ∨ v.kind = 3) := by
  induction n with
  | zero => simp [varsTo] at h
  | succ n ih =>
    simp only [varsTo, List.mem_append] at h
    rcases h with h | h
    · have := ih h; exact ⟨by omega, this.2⟩
    · have := varsAt_mem h; exact ⟨by omega, this.2⟩

/-! ### The dimensions -/
structure Dim where
  name : ByteArray
  nominal : Int
  lower : Int
  upper : Int
def encD (d : Dim) : List Value := [.string d.name, .int .i64 d.nominal, .int .i64 d.lower, .int .i64 d.upper]
theorem encD_len (d : Dim) : (encD d).length = 4 := rfl
def vd : Vr := ⟨0, 0⟩
theorem vcellsAt {base : Nat} {t : TypeId} {w : World} {A : Option Addr} {n c : Nat} {l : List Vr} (h : IsRow encV 2 base t w A n c l) (i : Nat) (hi : i < n) : ∃ ad : Addr, A = some ad ∧
    w.cell? (ad.add (i * 2)) = some (.int .i64 ((l.getD i vd).feature : Int)) ∧ w.cell? ⟨(ad.add (i * 2)).block, (ad.add (i * 2)).off + 1, none⟩ = some (.int .i64 (l.getD i vd).kind) := by
  obtain ⟨ad, e, hc⟩ := h.at_ encV_len (by decide) vd i hi
  exact ⟨ad, e, hc 0 _ rfl, add_mid ad _ 1 (by decide) ▸ hc 1 _ rfl⟩
def suf (k : Int) : ByteArray := if k = 2 then ⟨#[46, 115, 105, 122, 101]⟩ else if k = 3 then ⟨#[46, 102, 111, 114, 109]⟩ else ⟨#[]⟩
def dimOf (s : Sch) (v : Vr) : Dim :=
  ⟨(s.fs.getD v.feature fd).name ++ suf v.kind, nominalOf s.fs v.feature v.kind,
   if ((zoneOf s.zs v.feature v.kind).getD zd).bonus = true then ((zoneOf s.zs v.feature v.kind).getD zd).lower - (((zoneOf s.zs v.feature 2).getD zd).upper - ((zoneOf s.zs v.feature 2).getD zd).lower) else ((zoneOf s.zs v.feature v.kind).getD zd).lower,
   if ((zoneOf s.zs v.feature v.kind).getD zd).bonus = true then ((zoneOf s.zs v.feature v.kind).getD zd).upper + (((zoneOf s.zs v.feature 2).getD zd).upper - ((zoneOf s.zs v.feature 2).getD zd).lower) else ((zoneOf s.zs v.feature v.kind).getD zd).upper⟩
def dimsOf (s : Sch) : List Dim := (varsOf s).map (dimOf s)
theorem info_dim : (Tryz.prog.info? 46).map (fun i => (i.zero, i.size, i.bytes)) = some (some (.agg #[.string ByteArray.empty, .int .i64 0, .int .i64 0, .int .i64 0]), 4, 40) := by kernel_rfl
theorem dims_take {s : Sch} (l : List Vr) (i : Nat) (hi : i < l.length) : (l.map (dimOf s)).take (i + 1) = (l.map (dimOf s)).take i ++ [dimOf s (l.getD i vd)] := by
  rw [List.take_succ_eq_append_getElem (by simpa using hi)]
  simp [List.getD_eq_getElem?_getD, List.getElem?_eq_getElem hi]
end Go.Proofs.YtpifbaiibhaklaaGreatDoor
namespace Go.Proofs.YtpifbaiibhaklaaGreatDoor
open Go.RowKit Big
set_option maxHeartbeats 40000000
set_option linter.unusedVariables false
set_option linter.unusedSimpArgs false

/-- A list of dimensions handed back, with an error. -/
def RetDims (ds : List Dim) (er : Int) (w : World) (e : Ending) (w' : World) : Prop := ∃ A n c, e = .returned (.tuple #[.slice A n c, .int .i64 er]) ∧ IsRow encD 4 w.heap.size 46 w' A n c ds ∧ Below w.heap.size w w'
theorem own_lt {w : World} {base : Nat} {e : TypeId} {size n : Nat} {v : Value} {xs : List Value} (h : w.ownsRow base e size v n xs) (k : Nat) (hk : v.ownBlock = some k) : k < w.heap.size := by
  rcases h.2 with ⟨rfl, _⟩ | ⟨g, cap, cur, rfl, _, hh, _⟩
  · simp [Value.ownBlock] at hk
  · have : g = k := by simpa [Value.ownBlock] using hk
    subst this
    exact (Array.getElem?_eq_some_iff.1 hh).1
theorem suf_size (k : Int) : (suf k).size ≤ 5 := by
  unfold suf
  split
  · decide
  · split
    · decide
    · decide
def dimOf1 (name : ByteArray) (nom ki : Int) (z y : Zon) : Dim := ⟨name ++ suf ki, nom, if z.bonus = true then z.lower - (y.upper - y.lower) else z.lower, if z.bonus = true then z.upper + (y.upper - y.lower) else z.upper⟩
set_option maxRecDepth 100000 in
theorem Variables_any (base : Nat) (A Bz : Option Addr) (n c m d : Nat) (s : Sch) (w : World) (hf : IsFs base 28 w A n c s.fs) (hz : IsZs base 30 w Bz m d s.zs) :
    Calls Tryz.prog 8 #[.agg #[.slice A n c, .slice Bz m d]] w (RetDims (if checkE s = 0 then dimsOf s else []) (checkE s) w) := by
  have H := Lib.hid (fun W (hW : Below w.heap.size w W) => Check_any base A Bz n c m d s W (hf.below hW) (hz.below hW))
  by_cases hE : checkE s = 0
  · have hfine := fine_of_check hE
    rw [if_pos hE]
    rw [hE] at H ⊢
    have hn : n ≤ 16 := by have := hfine.nf; rw [hf.len] at this; exact this
    have hm : m ≤ 32 := by have := hfine.nz; rw [hz.len] at this; exact this
    have HV := Lib.hid (fun W (hW : Below w.heap.size w W) => variables_any base A Bz n c m d s W (hf.below hW) (hz.below hW) (by omega) (by omega))
    have HZ := Lib.hid (fun (fe ki : Int) W (hW : Below w.heap.size w W) => zone_any base A Bz n c m d s.zs fe ki W (hz.below hW) (by omega))
    have HN := Lib.hid (fun (i : Nat) (ki : Int) (hi : i < n) W (hW : Below w.heap.size w W) => nominal_any base A Bz n c m d s.fs i ki W (hf.below hW) hi)
    have HF := Lib.hid (fun (i : Nat) (hi : i < n) => IsFs.cells hf i hi)
    have hlen := Lib.hid hf.len
    have hfine := Lib.hid hfine
    clear hf hz hE
    go_enter Tryz.func8, Tryz.ntmps8
    go_wp2_with fail
    refine (H.out _ (by repeat (first | exact Below.refl _ _ | with_reducible assumption | apply below_alloc | apply below_drewN | apply below_drew | refine below_set ?_ (by simp; try omega) _ | refine below_then ?_ (by with_reducible assumption)))).mono ?_
    rintro e w1 ⟨rfl, hb⟩
    have a0 := keptc hb w.heap.size 0 (.slice A n c) (by simp [go_sem])
    have a1 := keptc hb w.heap.size 1 (.slice Bz m d) (by simp [go_sem])
    have B1 := Lib.hid (below_then (w := w) (by repeat (first | exact Below.refl _ _ | with_reducible assumption | apply below_alloc | apply below_drewN | apply below_drew | refine below_set ?_ (by simp; try omega) _ | refine below_then ?_ (by with_reducible assumption))) hb)
    clear hb H
    go_wp2_with fail
    refine (HV.out _ B1.out).mono ?_
    rintro e w2 ⟨A', n', c', rfl, hrow, hb⟩
    have a0 := keptc hb _ _ _ a0
    have a1 := keptc hb _ _ _ a1
    have B2 := Lib.hid (below_then B1.out hb)
    have hrow := Lib.hid hrow
    have hnl := Lib.hid hrow.out.len
    have hn3 : n' ≤ 48 := by
      have h1 := varsTo_len s s.fs.length
      have h2 := hnl.out
      have h3 := hlen.out
      unfold varsOf at h2
      omega
    have hw2 : w.heap.size < w2.heap.size := World.block_lt_of_cell? w2 _ a0
    clear hb B1 HV
    go_wp2_with fail
    go_loopw [5, 22] (fun v q wr => ∃ (i : Nat), i ≤ n' ∧ q = .int .i64 (i : Int) ∧ Hid (wr.ownsRow w2.heap.size 46 4 v i (flat encD ((dimsOf s).take i))) ∧ Below w2.heap.size w2 wr) (fun _ q _ => n' - (intOf q).toNat)
    case atStart => exact ⟨0, Nat.zero_le _, rfl, Lib.hid (own_nil _ _ _ _), (by repeat (first | exact Below.refl _ _ | with_reducible assumption | apply below_alloc | apply below_drewN | apply below_drew | refine below_set ?_ (by simp; try omega) _ | refine below_then ?_ (by with_reducible assumption)))⟩
    case round =>
      obtain ⟨i, hi, rfl, hown, hb⟩ := hrel
      have c0 := cell_below hb a0
      have c1 := cell_below hb a1
      have hsz := hb.size
      have hk5 := fun k hk => And.intro (own_base hown.out k hk) (own_lt hown.out k hk)
      by_cases hlt : i < n'
      · obtain ⟨ad, ea, x0, x1⟩ := vcellsAt (hrow.out.below hb) i hlt
        subst ea
        have hdim := dims_take (s := s) (varsOf s) i (by rw [hnl.out]; exact hlt)
        have hmem := varsTo_mem (s := s) (n := s.fs.length) (v := (varsOf s).getD i vd) (by
          have : (varsOf s).getD i vd ∈ varsOf s := by
            rw [List.getD_eq_getElem?_getD, List.getElem?_eq_getElem (by rw [hnl.out]; exact hlt)]
            exact List.getElem_mem _
          exact this)
        rw [hlen.out] at hmem
        generalize (varsOf s).getD i vd = vr at x0 x1 hdim hmem
        obtain ⟨fe, ki⟩ := vr
        obtain ⟨hfe, hk⟩ := hmem
        dsimp only at x0 x1 hfe hk
        obtain ⟨af, eaf, y0, _⟩ := HF.out fe hfe
        subst eaf
        have y0 := cell_below hb (cell_below B2.out y0)
        rw [show dimOf s ⟨fe, ki⟩ = dimOf1 (s.fs.getD fe fd).name (nominalOf s.fs fe ki) ki ((zoneOf s.zs fe ki).getD zd) ((zoneOf s.zs fe 2).getD zd) from rfl] at hdim
        have bz := hfine.out.bounds fe ki
        have bw := hfine.out.bounds fe 2
        have HZ1 := Lib.hid (fun W (hW : Below w2.heap.size w2 W) => HZ.out fe ki W (below_then B2.out hW))
        have HZ2 := Lib.hid (fun W (hW : Below w2.heap.size w2 W) => HZ.out fe 2 W (below_then B2.out hW))
        have HN1 := Lib.hid (fun W (hW : Below w2.heap.size w2 W) => HN.out fe ki hfe W (below_then B2.out hW))
        have hnm : (s.fs.getD fe fd).name.size ≤ 30 := (hfine.out.featOk fe (by rw [hlen.out]; exact hfe)).len
        unfold RetZone at HZ1 HZ2
        generalize nominalOf s.fs fe ki = nom at hdim HN1
        generalize (s.fs.getD fe fd).name = name at hdim y0 hnm
        generalize (zoneOf s.zs fe ki).isSome = zi at HZ1
        generalize (zoneOf s.zs fe 2).isSome = yi at HZ2
        generalize (zoneOf s.zs fe ki).getD zd = z at hdim bz HZ1
        generalize (zoneOf s.zs fe 2).getD zd = y at hdim bw HZ2
        obtain ⟨zk, zf, lo, up, bo⟩ := z
        obtain ⟨yk, yf, yl, yu, yb⟩ := y
        dsimp only at bz bw HZ1 HZ2 hdim
        obtain ⟨bz1, bz2, bz3, bz4⟩ := bz
        obtain ⟨bw1, bw2, bw3, bw4⟩ := bw
        have hdim := Lib.hid hdim
        have hlt0 := World.block_lt_of_cell? wr _ c0
        have hlt1 := World.block_lt_of_cell? wr _ x0
        have hlt2 := World.block_lt_of_cell? wr _ y0
        have hne1 : ¬ (ad.add (i * 2)).block = wr.heap.size := Nat.ne_of_lt hlt1
        have hne2 : ¬ (af.add (fe * 6)).block = wr.heap.size := Nat.ne_of_lt hlt2
        have f0 : (0 : Int) ≤ (fe : Int) := by omega
        have f1 : (fe : Int) < (n : Int) := by omega
        have i0 : (0 : Int) ≤ (i : Int) := by omega
        have i1 : (i : Int) < (n' : Int) := by omega
        clear HZ HN HF hrow a0 a1
        go_wp2_with fail
        refine (HZ1.out _ (by repeat (first | exact Below.refl _ _ | with_reducible assumption | apply below_alloc | apply below_drewN | apply below_drew | refine below_set ?_ (by simp; try omega) _ | refine below_then ?_ (by with_reducible assumption)))).mono ?_
        rintro e w3 ⟨rfl, hb3⟩
        have v0 := keptc hb3 wr.heap.size 0 (.int .i64 (fe : Int)) (by simp [go_sem])
        have v1 := keptc hb3 wr.heap.size 1 (.int .i64 ki) (by simp [go_sem])
        have B3 := below_then (w := wr) (by repeat (first | exact Below.refl _ _ | apply below_alloc | apply below_drewN | apply below_drew)) hb3
        have c0 := cell_below B3 c0
        have c1 := cell_below B3 c1
        have y0 := cell_below B3 y0
        have O := Lib.hid (own_below hown.out B3)
        have B := Lib.hid (below_then hb B3)
        have hs3 : wr.heap.size < w3.heap.size := World.block_lt_of_cell? w3 _ v0
        have hs0 : w.heap.size < w3.heap.size := by omega
        have hs0' : ¬ w.heap.size = w3.heap.size := by omega
        have hs3' : ¬ wr.heap.size = w3.heap.size := by omega
        clear hb3 B3 x0 x1 hown hb HZ1
        cases bo
        · obtain ⟨W5, e5⟩ : ∃ W5 : World, W5 = w3.alloc (.cells #[.int .i64 zk, .int .i64 zf, .int .i64 lo, .int .i64 up, .bool false] 30) := ⟨_, rfl⟩
          go_wp2_with fail
          rw [← e5]
          have z2 : W5.cell? ⟨w3.heap.size, 2, none⟩ = some (.int .i64 lo) := by rw [e5]; simp [go_sem]
          have z3 : W5.cell? ⟨w3.heap.size, 3, none⟩ = some (.int .i64 up) := by rw [e5]; simp [go_sem]
          have hB5 : Below w3.heap.size w3 W5 := by rw [e5]; exact below_alloc (Below.refl _ _)
          have c0 := cell_below hB5 c0
          have c1 := cell_below hB5 c1
          have y0 := cell_below hB5 y0
          have v0 := cell_below hB5 v0
          have v1 := cell_below hB5 v1
          have O := Lib.hid (own_below O.out hB5)
          have B := Lib.hid (below_then B.out hB5)
          clear hB5
          obtain ⟨lo1, elo⟩ : ∃ x : Int, x = lo := ⟨_, rfl⟩
          obtain ⟨up1, eup⟩ : ∃ x : Int, x = up := ⟨_, rfl⟩
          rw [← elo] at z2
          rw [← eup] at z3
          have hd9 : dimOf1 name nom ki ⟨zk, zf, lo, up, false⟩ ⟨yk, yf, yl, yu, yb⟩ = ⟨name ++ suf ki, nom, lo1, up1⟩ := by rw [elo, eup]; rfl
          rw [hd9] at hdim
          have hs5 : w3.heap.size < W5.heap.size := World.block_lt_of_cell? W5 _ z2
          have hs50 : ¬ w.heap.size = W5.heap.size := by omega
          have hs51 : ¬ wr.heap.size = W5.heap.size := by omega
          have hs53 : ¬ w3.heap.size = W5.heap.size := by omega
          have hs54 : ¬ (af.add (fe * 6)).block = W5.heap.size := by have := World.block_lt_of_cell? W5 _ y0; omega
          clear e5 elo eup hd9 bz1 bz2 bz3 bz4 bw1 bw2 bw3 bw4
          have hl1 : ¬ 9223372036854775807 < name.size := by omega
          have hl2 : ¬ 9223372036854775807 < name.size + 5 := by omega
          have hsf : (name ++ suf ki).size ≤ 35 := by rw [ByteArray.size_append]; have := suf_size ki; omega
          rcases hk with rfl | rfl | rfl
          · refine wp_region_held_drew (S := fun w' => w'.cell? ⟨w.heap.size, 0, none⟩ = some (.slice (some af) n c) ∧ w'.cell? ⟨wr.heap.size, 0, none⟩ = some (.int .i64 (fe : Int)) ∧ w'.cell? ⟨wr.heap.size, 1, none⟩ = some (.int .i64 1) ∧ w'.cell? (af.add (fe * 6)) = some (.string name)) (by kernel_rfl) ⟨c0, v0, v1, y0⟩ (fun hHeld => ?_)
            (refine wpAnyH_take (i := 0) (v := ?_) rfl (by kernel_rfl) (by kernel_rfl) (by kernel_rfl) (fun _ _ _ h => h) (Or.inl ⟨by rfl, ?_⟩) (by assumption) ?_; rotate_left 1; (focus (intro w hSw; (try dsimp only at hSw); (try simp only [List.getElem_toArray, List.getElem_cons_zero, List.getElem_cons_succ]); go_simp; (try with_reducible rfl))); (try simp only [Act.put, List.setIfInBounds_toArray, List.set_cons_zero, List.set_cons_succ, List.getElem_toArray, List.getElem_cons_zero, List.getElem_cons_succ])); (refine wpAnyH_take (i := 1) (v := ?_) rfl (by kernel_rfl) (by kernel_rfl) (by kernel_rfl) (fun _ _ _ h => h) (Or.inl ⟨by rfl, ?_⟩) (by assumption) ?_; rotate_left 1; (focus (intro w hSw; (try dsimp only at hSw); (try simp only [List.getElem_toArray, List.getElem_cons_zero, List.getElem_cons_succ]); go_simp; (try with_reducible rfl))); (try simp only [Act.put, List.setIfInBounds_toArray, List.set_cons_zero, List.set_cons_succ, List.getElem_toArray, List.getElem_cons_zero, List.getElem_cons_succ])); (refine wpAnyH_take (i := 2) (v := ?_) rfl (by kernel_rfl) (by kernel_rfl) (by kernel_rfl) (fun _ _ _ h => h) (Or.inl ⟨by rfl, ?_⟩) (by assumption) ?_; rotate_left 1; (focus (intro w hSw; (try dsimp only at hSw); (try simp only [List.getElem_toArray, List.getElem_cons_zero, List.getElem_cons_succ]); go_simp; (try with_reducible rfl))); (try simp only [Act.put, List.setIfInBounds_toArray, List.set_cons_zero, List.set_cons_succ, List.getElem_toArray, List.getElem_cons_zero, List.getElem_cons_succ])); (refine wpAnyH_take (i := 3) (v := ?_) rfl (by kernel_rfl) (by kernel_rfl) (by kernel_rfl) (fun _ _ _ h => h) (Or.inl ⟨by rfl, ?_⟩) (by assumption) ?_; rotate_left 1; (focus (intro w hSw; (try dsimp only at hSw); (try simp only [List.getElem_toArray, List.getElem_cons_zero, List.getElem_cons_succ]); go_simp; (try with_reducible rfl))); (try simp only [Act.put, List.setIfInBounds_toArray, List.set_cons_zero, List.set_cons_succ, List.getElem_toArray, List.getElem_cons_zero, List.getElem_cons_succ])); (refine wpAnyH_take (i := 4) (v := ?_) rfl (by kernel_rfl) (by kernel_rfl) (by kernel_rfl) (fun _ _ _ h => h) (Or.inl ⟨by rfl, ?_⟩) (by assumption) ?_; rotate_left 1; (focus (intro w hSw; (try dsimp only at hSw); (try simp only [List.getElem_toArray, List.getElem_cons_zero, List.getElem_cons_succ]); go_simp; (try with_reducible rfl))); (try simp only [Act.put, List.setIfInBounds_toArray, List.set_cons_zero, List.set_cons_succ, List.getElem_toArray, List.getElem_cons_zero, List.getElem_cons_succ])); (refine wpAnyH_take (i := 5) (v := ?_) rfl (by kernel_rfl) (by kernel_rfl) (by kernel_rfl) (fun _ _ _ h => h) (Or.inl ⟨by rfl, ?_⟩) (by assumption) ?_; rotate_left 1; (focus (intro w hSw; (try dsimp only at hSw); (try simp only [List.getElem_toArray, List.getElem_cons_zero, List.getElem_cons_succ]); go_simp; (try with_reducible rfl))); (try simp only [Act.put, List.setIfInBounds_toArray, List.set_cons_zero, List.set_cons_succ, List.getElem_toArray, List.getElem_cons_zero, List.getElem_cons_succ])); (refine wpAnyH_take (i := 6) (v := ?_) rfl (by kernel_rfl) (by kernel_rfl) (by kernel_rfl) (fun _ _ _ h => h) (Or.inl ⟨by rfl, ?_⟩) (by assumption) ?_; rotate_left 1; (focus (intro w hSw; (try dsimp only at hSw); (try simp only [List.getElem_toArray, List.getElem_cons_zero, List.getElem_cons_succ]); go_simp; (try with_reducible rfl))); (try simp only [Act.put, List.setIfInBounds_toArray, List.set_cons_zero, List.set_cons_succ, List.getElem_toArray, List.getElem_cons_zero, List.getElem_cons_succ])); (refine wpAnyH_take (i := 8) (v := ?_) rfl (by kernel_rfl) (by kernel_rfl) (by kernel_rfl) (fun _ _ _ h => h) (Or.inl ⟨by rfl, ?_⟩) (by assumption) ?_; rotate_left 1; (focus (intro w hSw; (try dsimp only at hSw); (try simp only [List.getElem_toArray, List.getElem_cons_zero, List.getElem_cons_succ]); go_simp; (try with_reducible rfl))); (try simp only [Act.put, List.setIfInBounds_toArray, List.set_cons_zero, List.set_cons_succ, List.getElem_toArray, List.getElem_cons_zero, List.getElem_cons_succ])); (refine wpAnyH_take (i := 9) (v := ?_) rfl (by kernel_rfl) (by kernel_rfl) (by kernel_rfl) (fun _ _ _ h => h) (Or.inl ⟨by rfl, ?_⟩) (by assumption) ?_; rotate_left 1; (focus (intro w hSw; (try dsimp only at hSw); (try simp only [List.getElem_toArray, List.getElem_cons_zero, List.getElem_cons_succ]); go_simp; (try with_reducible rfl))); (try simp only [Act.put, List.setIfInBounds_toArray, List.set_cons_zero, List.set_cons_succ, List.getElem_toArray, List.getElem_cons_zero, List.getElem_cons_succ]))
            (refine wpAnyH_ready (rs := [7]) (by kernel_rfl) (by simp) ?_; refine AllReadyH.cons rfl (fun K hK => ?_) AllReadyH.nil; (try simp only [List.getElem_toArray, List.getElem_cons_zero, List.getElem_cons_succ]))
            go_simp
            (refine hK.out _ _ ?_ (fun hHeld => ?_); (focus (exact ⟨cell_below (by repeat (first | exact Below.refl _ _ | apply below_alloc | apply below_drewN | apply below_drew)) c0, cell_below (by repeat (first | exact Below.refl _ _ | apply below_alloc | apply below_drewN | apply below_drew)) v0, cell_below (by repeat (first | exact Below.refl _ _ | apply below_alloc | apply below_drewN | apply below_drew)) v1, cell_below (by repeat (first | exact Below.refl _ _ | apply below_alloc | apply below_drewN | apply below_drew)) y0⟩)); clear hK K; (try simp only [Act.put, List.setIfInBounds_toArray, List.set_cons_zero, List.set_cons_succ, List.getElem_toArray, List.getElem_cons_zero, List.getElem_cons_succ]))
            (refine wpAnyH_take (i := 10) (v := ?_) rfl (by kernel_rfl) (by kernel_rfl) (by kernel_rfl) (fun _ _ _ h => h) (Or.inl ⟨by rfl, ?_⟩) (by assumption) ?_; rotate_left 1; (focus (intro w hSw; (try dsimp only at hSw); (try simp only [List.getElem_toArray, List.getElem_cons_zero, List.getElem_cons_succ]); go_simp; (try with_reducible rfl))); (try simp only [Act.put, List.setIfInBounds_toArray, List.set_cons_zero, List.set_cons_succ, List.getElem_toArray, List.getElem_cons_zero, List.getElem_cons_succ]))
            (refine wpAnyH_ready (rs := [11]) (by kernel_rfl) (by simp) ?_; refine AllReadyH.cons rfl (fun K hK => ?_) AllReadyH.nil; (try simp only [List.getElem_toArray, List.getElem_cons_zero, List.getElem_cons_succ]))
            go_simp
            (refine hK.out _ _ ?_ (fun hHeld => ?_); (focus (exact ⟨cell_below (by repeat (first | exact Below.refl _ _ | apply below_alloc | apply below_drewN | apply below_drew)) c0, cell_below (by repeat (first | exact Below.refl _ _ | apply below_alloc | apply below_drewN | apply below_drew)) v0, cell_below (by repeat (first | exact Below.refl _ _ | apply below_alloc | apply below_drewN | apply below_drew)) v1, cell_below (by repeat (first | exact Below.refl _ _ | apply below_alloc | apply below_drewN | apply below_drew)) y0⟩)); clear hK K; (try simp only [Act.put, List.setIfInBounds_toArray, List.set_cons_zero, List.set_cons_succ, List.getElem_toArray, List.getElem_cons_zero, List.getElem_cons_succ]))
            (refine wpAnyH_take (i := 12) (v := ?_) rfl (by kernel_rfl) (by kernel_rfl) (by kernel_rfl) (fun _ _ _ h => h) (Or.inl ⟨by rfl, ?_⟩) (by assumption) ?_; rotate_left 1; (focus (intro w hSw; (try dsimp only at hSw); (try simp only [List.getElem_toArray, List.getElem_cons_zero, List.getElem_cons_succ]); go_simp; (try with_reducible rfl))); (try simp only [Act.put, List.setIfInBounds_toArray, List.set_cons_zero, List.set_cons_succ, List.getElem_toArray, List.getElem_cons_zero, List.getElem_cons_succ])); (refine wpAnyH_take (i := 13) (v := ?_) rfl (by kernel_rfl) (by kernel_rfl) (by kernel_rfl) (fun _ _ _ h => h) (Or.inl ⟨by rfl, ?_⟩) (by assumption) ?_; rotate_left 1; (focus (intro w hSw; (try dsimp only at hSw); (try simp only [List.getElem_toArray, List.getElem_cons_zero, List.getElem_cons_succ]); go_simp; (try with_reducible rfl))); (try simp only [Act.put, List.setIfInBounds_toArray, List.set_cons_zero, List.set_cons_succ, List.getElem_toArray, List.getElem_cons_zero, List.getElem_cons_succ]))
            refine wpAnyH_done (by kernel_rfl) ?_ _
            go_wp2_with fail
            go_region_held3 (fun w' => w'.cell? ⟨w.heap.size, 0, none⟩ = some (.slice (some af) n c) ∧ w'.cell? ⟨w.heap.size, 1, none⟩ = some (.slice Bz m d) ∧ w'.cell? ⟨wr.heap.size, 0, none⟩ = some (.int .i64 (fe : Int)) ∧ w'.cell? ⟨wr.heap.size, 1, none⟩ = some (.int .i64 1) ∧ w'.cell? ⟨w3.heap.size, 2, none⟩ = some (.int .i64 lo1) ∧ w'.cell? ⟨w3.heap.size, 3, none⟩ = some (.int .i64 up1))
              (first
                | exact ⟨q0, q1, q2, q3, q4, q5⟩
                | exact ⟨p0, p1, p2, p3, p4, p5⟩
                | (refine ⟨cell_below ?_ p0, cell_below ?_ p1, cell_below ?_ p2, cell_below ?_ p3, cell_below ?_ p4, cell_below ?_ p5⟩ <;> exact (by repeat (first | exact Below.refl _ _ | apply below_alloc | apply below_drewN | apply below_drew)))
                | (refine ⟨cell_below ?_ c0, cell_below ?_ c1, cell_below ?_ v0, cell_below ?_ v1, cell_below ?_ z2, cell_below ?_ z3⟩ <;> exact (by repeat (first | exact Below.refl _ _ | apply below_alloc | apply below_drewN | apply below_drew))))
              (first
                | (go_at_call 31; refine (HN1.out _ (by repeat (first | exact B.out | exact Below.refl _ _ | apply below_alloc | apply below_drewN | apply below_drew))).mono ?_; rintro e w7 ⟨rfl, hb7⟩; have p0 := cell_below hb7 (cell_below (by repeat (first | exact Below.refl _ _ | apply below_alloc | apply below_drewN | apply below_drew)) c0); have p1 := cell_below hb7 (cell_below (by repeat (first | exact Below.refl _ _ | apply below_alloc | apply below_drewN | apply below_drew)) c1); have p2 := cell_below hb7 (cell_below (by repeat (first | exact Below.refl _ _ | apply below_alloc | apply below_drewN | apply below_drew)) v0); have p3 := cell_below hb7 (cell_below (by repeat (first | exact Below.refl _ _ | apply below_alloc | apply below_drewN | apply below_drew)) v1); have p4 := cell_below hb7 (cell_below (by repeat (first | exact Below.refl _ _ | apply below_alloc | apply below_drewN | apply below_drew)) z2); have p5 := cell_below hb7 (cell_below (by repeat (first | exact Below.refl _ _ | apply below_alloc | apply below_drewN | apply below_drew)) z3); have O7 := Lib.hid (own_below (own_below O.out (by repeat (first | exact Below.refl _ _ | apply below_alloc | apply below_drewN | apply below_drew))) hb7); have B7 := Lib.hid (below_then (w := w2) (by repeat (first | exact B.out | exact Below.refl _ _ | apply below_alloc | apply below_drewN | apply below_drew)) hb7); clear hb7)
                | (refine step_append_cells w2.heap.size rfl (.tmp 72) (.tmp 82) 31 46 (.agg #[.string ByteArray.empty, .int .i64 0, .int .i64 0, .int .i64 0]) 4 40 rfl Tryz.underlying31 info_dim rfl (by decide) (by decide) u5 i (flat encD ((dimsOf s).take i)) [.string (name ++ suf 1), .int .i64 nom, .int .i64 lo1, .int .i64 up1] rfl rfl rfl (by simp [Value.oneCell']) O7.out B7.out.size (by omega) ?_; intro v8 w8 hown8 hgr8; have q0 := grown_cell hgr8 p0 (fun k hk => by have := hk5 k hk; show k ≠ w.heap.size; omega); have q1 := grown_cell hgr8 p1 (fun k hk => by have := hk5 k hk; show k ≠ w.heap.size; omega); have q2 := grown_cell hgr8 p2 (fun k hk => by have := hk5 k hk; show k ≠ wr.heap.size; omega); have q3 := grown_cell hgr8 p3 (fun k hk => by have := hk5 k hk; show k ≠ wr.heap.size; omega); have q4 := grown_cell hgr8 p4 (fun k hk => by have := hk5 k hk; show k ≠ w3.heap.size; omega); have q5 := grown_cell hgr8 p5 (fun k hk => by have := hk5 k hk; show k ≠ w3.heap.size; omega); have B8 := Lib.hid (below_grownB B7.out B7.out.size hgr8 (fun k hk => by have := hk5 k hk; omega)); have O8 := Lib.hid hown8; clear hown8 hgr8))
            go_wp2_with fail
            go_roundw
            case rel => exact ⟨i + 1, by omega, by go_num, Lib.hid (own_cast O8.out rfl (by rw [show dimsOf s = (varsOf s).map (dimOf s) from rfl, hdim.out, flat_app]; rfl)), B8.out⟩
            case measure => simp [intOf]; omega
          · refine wp_region_held_drew (S := fun w' => w'.cell? ⟨w.heap.size, 0, none⟩ = some (.slice (some af) n c) ∧ w'.cell? ⟨wr.heap.size, 0, none⟩ = some (.int .i64 (fe : Int)) ∧ w'.cell? ⟨wr.heap.size, 1, none⟩ = some (.int .i64 2) ∧ w'.cell? (af.add (fe * 6)) = some (.string name)) (by kernel_rfl) ⟨c0, v0, v1, y0⟩ (fun hHeld => ?_)
            (refine wpAnyH_take (i := 0) (v := ?_) rfl (by kernel_rfl) (by kernel_rfl) (by kernel_rfl) (fun _ _ _ h => h) (Or.inl ⟨by rfl, ?_⟩) (by assumption) ?_; rotate_left 1; (focus (intro w hSw; (try dsimp only at hSw); (try simp only [List.getElem_toArray, List.getElem_cons_zero, List.getElem_cons_succ]); go_simp; (try with_reducible rfl))); (try simp only [Act.put, List.setIfInBounds_toArray, List.set_cons_zero, List.set_cons_succ, List.getElem_toArray, List.getElem_cons_zero, List.getElem_cons_succ])); (refine wpAnyH_take (i := 1) (v := ?_) rfl (by kernel_rfl) (by kernel_rfl) (by kernel_rfl) (fun _ _ _ h => h) (Or.inl ⟨by rfl, ?_⟩) (by assumption) ?_; rotate_left 1; (focus (intro w hSw; (try dsimp only at hSw); (try simp only [List.getElem_toArray, List.getElem_cons_zero, List.getElem_cons_succ]); go_simp; (try with_reducible rfl))); (try simp only [Act.put, List.setIfInBounds_toArray, List.set_cons_zero, List.set_cons_succ, List.getElem_toArray, List.getElem_cons_zero, List.getElem_cons_succ])); (refine wpAnyH_take (i := 2) (v := ?_) rfl (by kernel_rfl) (by kernel_rfl) (by kernel_rfl) (fun _ _ _ h => h) (Or.inl ⟨by rfl, ?_⟩) (by assumption) ?_; rotate_left 1; (focus (intro w hSw; (try dsimp only at hSw); (try simp only [List.getElem_toArray, List.getElem_cons_zero, List.getElem_cons_succ]); go_simp; (try with_reducible rfl))); (try simp only [Act.put, List.setIfInBounds_toArray, List.set_cons_zero, List.set_cons_succ, List.getElem_toArray, List.getElem_cons_zero, List.getElem_cons_succ])); (refine wpAnyH_take (i := 3) (v := ?_) rfl (by kernel_rfl) (by kernel_rfl) (by kernel_rfl) (fun _ _ _ h => h) (Or.inl ⟨by rfl, ?_⟩) (by assumption) ?_; rotate_left 1; (focus (intro w hSw; (try dsimp only at hSw); (try simp only [List.getElem_toArray, List.getElem_cons_zero, List.getElem_cons_succ]); go_simp; (try with_reducible rfl))); (try simp only [Act.put, List.setIfInBounds_toArray, List.set_cons_zero, List.set_cons_succ, List.getElem_toArray, List.getElem_cons_zero, List.getElem_cons_succ])); (refine wpAnyH_take (i := 4) (v := ?_) rfl (by kernel_rfl) (by kernel_rfl) (by kernel_rfl) (fun _ _ _ h => h) (Or.inl ⟨by rfl, ?_⟩) (by assumption) ?_; rotate_left 1; (focus (intro w hSw; (try dsimp only at hSw); (try simp only [List.getElem_toArray, List.getElem_cons_zero, List.getElem_cons_succ]); go_simp; (try with_reducible rfl))); (try simp only [Act.put, List.setIfInBounds_toArray, List.set_cons_zero, List.set_cons_succ, List.getElem_toArray, List.getElem_cons_zero, List.getElem_cons_succ])); (refine wpAnyH_take (i := 5) (v := ?_) rfl (by kernel_rfl) (by kernel_rfl) (by kernel_rfl) (fun _ _ _ h => h) (Or.inl ⟨by rfl, ?_⟩) (by assumption) ?_; rotate_left 1; (focus (intro w hSw; (try dsimp only at hSw); (try simp only [List.getElem_toArray, List.getElem_cons_zero, List.getElem_cons_succ]); go_simp; (try with_reducible rfl))); (try simp only [Act.put, List.setIfInBounds_toArray, List.set_cons_zero, List.set_cons_succ, List.getElem_toArray, List.getElem_cons_zero, List.getElem_cons_succ])); (refine wpAnyH_take (i := 6) (v := ?_) rfl (by kernel_rfl) (by kernel_rfl) (by kernel_rfl) (fun _ _ _ h => h) (Or.inl ⟨by rfl, ?_⟩) (by assumption) ?_; rotate_left 1; (focus (intro w hSw; (try dsimp only at hSw); (try simp only [List.getElem_toArray, List.getElem_cons_zero, List.getElem_cons_succ]); go_simp; (try with_reducible rfl))); (try simp only [Act.put, List.setIfInBounds_toArray, List.set_cons_zero, List.set_cons_succ, List.getElem_toArray, List.getElem_cons_zero, List.getElem_cons_succ])); (refine wpAnyH_take (i := 8) (v := ?_) rfl (by kernel_rfl) (by kernel_rfl) (by kernel_rfl) (fun _ _ _ h => h) (Or.inl ⟨by rfl, ?_⟩) (by assumption) ?_; rotate_left 1; (focus (intro w hSw; (try dsimp only at hSw); (try simp only [List.getElem_toArray, List.getElem_cons_zero, List.getElem_cons_succ]); go_simp; (try with_reducible rfl))); (try simp only [Act.put, List.setIfInBounds_toArray, List.set_cons_zero, List.set_cons_succ, List.getElem_toArray, List.getElem_cons_zero, List.getElem_cons_succ])); (refine wpAnyH_take (i := 9) (v := ?_) rfl (by kernel_rfl) (by kernel_rfl) (by kernel_rfl) (fun _ _ _ h => h) (Or.inl ⟨by rfl, ?_⟩) (by assumption) ?_; rotate_left 1; (focus (intro w hSw; (try dsimp only at hSw); (try simp only [List.getElem_toArray, List.getElem_cons_zero, List.getElem_cons_succ]); go_simp; (try with_reducible rfl))); (try simp only [Act.put, List.setIfInBounds_toArray, List.set_cons_zero, List.set_cons_succ, List.getElem_toArray, List.getElem_cons_zero, List.getElem_cons_succ]))
            (refine wpAnyH_ready (rs := [7]) (by kernel_rfl) (by simp) ?_; refine AllReadyH.cons rfl (fun K hK => ?_) AllReadyH.nil; (try simp only [List.getElem_toArray, List.getElem_cons_zero, List.getElem_cons_succ]))
            go_simp
            (refine hK.out _ _ ?_ (fun hHeld => ?_); (focus (exact ⟨cell_below (by repeat (first | exact Below.refl _ _ | apply below_alloc | apply below_drewN | apply below_drew)) c0, cell_below (by repeat (first | exact Below.refl _ _ | apply below_alloc | apply below_drewN | apply below_drew)) v0, cell_below (by repeat (first | exact Below.refl _ _ | apply below_alloc | apply below_drewN | apply below_drew)) v1, cell_below (by repeat (first | exact Below.refl _ _ | apply below_alloc | apply below_drewN | apply below_drew)) y0⟩)); clear hK K; (try simp only [Act.put, List.setIfInBounds_toArray, List.set_cons_zero, List.set_cons_succ, List.getElem_toArray, List.getElem_cons_zero, List.getElem_cons_succ]))
            (refine wpAnyH_take (i := 10) (v := ?_) rfl (by kernel_rfl) (by kernel_rfl) (by kernel_rfl) (fun _ _ _ h => h) (Or.inl ⟨by rfl, ?_⟩) (by assumption) ?_; rotate_left 1; (focus (intro w hSw; (try dsimp only at hSw); (try simp only [List.getElem_toArray, List.getElem_cons_zero, List.getElem_cons_succ]); go_simp; (try with_reducible rfl))); (try simp only [Act.put, List.setIfInBounds_toArray, List.set_cons_zero, List.set_cons_succ, List.getElem_toArray, List.getElem_cons_zero, List.getElem_cons_succ]))
            (refine wpAnyH_ready (rs := [11]) (by kernel_rfl) (by simp) ?_; refine AllReadyH.cons rfl (fun K hK => ?_) AllReadyH.nil; (try simp only [List.getElem_toArray, List.getElem_cons_zero, List.getElem_cons_succ]))
            go_simp
            (refine hK.out _ _ ?_ (fun hHeld => ?_); (focus (exact ⟨cell_below (by repeat (first | exact Below.refl _ _ | apply below_alloc | apply below_drewN | apply below_drew)) c0, cell_below (by repeat (first | exact Below.refl _ _ | apply below_alloc | apply below_drewN | apply below_drew)) v0, cell_below (by repeat (first | exact Below.refl _ _ | apply below_alloc | apply below_drewN | apply below_drew)) v1, cell_below (by repeat (first | exact Below.refl _ _ | apply below_alloc | apply below_drewN | apply below_drew)) y0⟩)); clear hK K; (try simp only [Act.put, List.setIfInBounds_toArray, List.set_cons_zero, List.set_cons_succ, List.getElem_toArray, List.getElem_cons_zero, List.getElem_cons_succ]))
            (refine wpAnyH_take (i := 12) (v := ?_) rfl (by kernel_rfl) (by kernel_rfl) (by kernel_rfl) (fun _ _ _ h => h) (Or.inl ⟨by rfl, ?_⟩) (by assumption) ?_; rotate_left 1; (focus (intro w hSw; (try dsimp only at hSw); (try simp only [List.getElem_toArray, List.getElem_cons_zero, List.getElem_cons_succ]); go_simp; (try with_reducible rfl))); (try simp only [Act.put, List.setIfInBounds_toArray, List.set_cons_zero, List.set_cons_succ, List.getElem_toArray, List.getElem_cons_zero, List.getElem_cons_succ])); (refine wpAnyH_take (i := 13) (v := ?_) rfl (by kernel_rfl) (by kernel_rfl) (by kernel_rfl) (fun _ _ _ h => h) (Or.inl ⟨by rfl, ?_⟩) (by assumption) ?_; rotate_left 1; (focus (intro w hSw; (try dsimp only at hSw); (try simp only [List.getElem_toArray, List.getElem_cons_zero, List.getElem_cons_succ]); go_simp; (try with_reducible rfl))); (try simp only [Act.put, List.setIfInBounds_toArray, List.set_cons_zero, List.set_cons_succ, List.getElem_toArray, List.getElem_cons_zero, List.getElem_cons_succ]))
            refine wpAnyH_done (by kernel_rfl) ?_ _
            go_wp2_with fail
            go_region_held3 (fun w' => w'.cell? ⟨w.heap.size, 0, none⟩ = some (.slice (some af) n c) ∧ w'.cell? ⟨w.heap.size, 1, none⟩ = some (.slice Bz m d) ∧ w'.cell? ⟨wr.heap.size, 0, none⟩ = some (.int .i64 (fe : Int)) ∧ w'.cell? ⟨wr.heap.size, 1, none⟩ = some (.int .i64 2) ∧ w'.cell? ⟨w3.heap.size, 2, none⟩ = some (.int .i64 lo1) ∧ w'.cell? ⟨w3.heap.size, 3, none⟩ = some (.int .i64 up1))
              (first
                | exact ⟨q0, q1, q2, q3, q4, q5⟩
                | exact ⟨p0, p1, p2, p3, p4, p5⟩
                | (refine ⟨cell_below ?_ p0, cell_below ?_ p1, cell_below ?_ p2, cell_below ?_ p3, cell_below ?_ p4, cell_below ?_ p5⟩ <;> exact (by repeat (first | exact Below.refl _ _ | apply below_alloc | apply below_drewN | apply below_drew)))
                | (refine ⟨cell_below ?_ c0, cell_below ?_ c1, cell_below ?_ v0, cell_below ?_ v1, cell_below ?_ z2, cell_below ?_ z3⟩ <;> exact (by repeat (first | exact Below.refl _ _ | apply below_alloc | apply below_drewN | apply below_drew))))
              (first
                | (go_at_call 31; refine (HN1.out _ (by repeat (first | exact B.out | exact Below.refl _ _ | apply below_alloc | apply below_drewN | apply below_drew))).mono ?_; rintro e w7 ⟨rfl, hb7⟩; have p0 := cell_below hb7 (cell_below (by repeat (first | exact Below.refl _ _ | apply below_alloc | apply below_drewN | apply below_drew)) c0); have p1 := cell_below hb7 (cell_below (by repeat (first | exact Below.refl _ _ | apply below_alloc | apply below_drewN | apply below_drew)) c1); have p2 := cell_below hb7 (cell_below (by repeat (first | exact Below.refl _ _ | apply below_alloc | apply below_drewN | apply below_drew)) v0); have p3 := cell_below hb7 (cell_below (by repeat (first | exact Below.refl _ _ | apply below_alloc | apply below_drewN | apply below_drew)) v1); have p4 := cell_below hb7 (cell_below (by repeat (first | exact Below.refl _ _ | apply below_alloc | apply below_drewN | apply below_drew)) z2); have p5 := cell_below hb7 (cell_below (by repeat (first | exact Below.refl _ _ | apply below_alloc | apply below_drewN | apply below_drew)) z3); have O7 := Lib.hid (own_below (own_below O.out (by repeat (first | exact Below.refl _ _ | apply below_alloc | apply below_drewN | apply below_drew))) hb7); have B7 := Lib.hid (below_then (w := w2) (by repeat (first | exact B.out | exact Below.refl _ _ | apply below_alloc | apply below_drewN | apply below_drew)) hb7); clear hb7)
                | (refine step_append_cells w2.heap.size rfl (.tmp 72) (.tmp 82) 31 46 (.agg #[.string ByteArray.empty, .int .i64 0, .int .i64 0, .int .i64 0]) 4 40 rfl Tryz.underlying31 info_dim rfl (by decide) (by decide) u5 i (flat encD ((dimsOf s).take i)) [.string (name ++ suf 2), .int .i64 nom, .int .i64 lo1, .int .i64 up1] rfl rfl rfl (by simp [Value.oneCell']) O7.out B7.out.size (by omega) ?_; intro v8 w8 hown8 hgr8; have q0 := grown_cell hgr8 p0 (fun k hk => by have := hk5 k hk; show k ≠ w.heap.size; omega); have q1 := grown_cell hgr8 p1 (fun k hk => by have := hk5 k hk; show k ≠ w.heap.size; omega); have q2 := grown_cell hgr8 p2 (fun k hk => by have := hk5 k hk; show k ≠ wr.heap.size; omega); have q3 := grown_cell hgr8 p3 (fun k hk => by have := hk5 k hk; show k ≠ wr.heap.size; omega); have q4 := grown_cell hgr8 p4 (fun k hk => by have := hk5 k hk; show k ≠ w3.heap.size; omega); have q5 := grown_cell hgr8 p5 (fun k hk => by have := hk5 k hk; show k ≠ w3.heap.size; omega); have B8 := Lib.hid (below_grownB B7.out B7.out.size hgr8 (fun k hk => by have := hk5 k hk; omega)); have O8 := Lib.hid hown8; clear hown8 hgr8))
            go_wp2_with fail
            go_roundw
            case rel => exact ⟨i + 1, by omega, by go_num, Lib.hid (own_cast O8.out rfl (by rw [show dimsOf s = (varsOf s).map (dimOf s) from rfl, hdim.out, flat_app]; rfl)), B8.out⟩
            case measure => simp [intOf]; omega
          · refine wp_region_held_drew (S := fun w' => w'.cell? ⟨w.heap.size, 0, none⟩ = some (.slice (some af) n c) ∧ w'.cell? ⟨wr.heap.size, 0, none⟩ = some (.int .i64 (fe : Int)) ∧ w'.cell? ⟨wr.heap.size, 1, none⟩ = some (.int .i64 3) ∧ w'.cell? (af.add (fe * 6)) = some (.string name)) (by kernel_rfl) ⟨c0, v0, v1, y0⟩ (fun hHeld => ?_)
            (refine wpAnyH_take (i := 0) (v := ?_) rfl (by kernel_rfl) (by kernel_rfl) (by kernel_rfl) (fun _ _ _ h => h) (Or.inl ⟨by rfl, ?_⟩) (by assumption) ?_; rotate_left 1; (focus (intro w hSw; (try dsimp only at hSw); (try simp only [List.getElem_toArray, List.getElem_cons_zero, List.getElem_cons_succ]); go_simp; (try with_reducible rfl))); (try simp only [Act.put, List.setIfInBounds_toArray, List.set_cons_zero, List.set_cons_succ, List.getElem_toArray, List.getElem_cons_zero, List.getElem_cons_succ])); (refine wpAnyH_take (i := 1) (v := ?_) rfl (by kernel_rfl) (by kernel_rfl) (by kernel_rfl) (fun _ _ _ h => h) (Or.inl ⟨by rfl, ?_⟩) (by assumption) ?_; rotate_left 1; (focus (intro w hSw; (try dsimp only at hSw); (try simp only [List.getElem_toArray, List.getElem_cons_zero, List.getElem_cons_succ]); go_simp; (try with_reducible rfl))); (try simp only [Act.put, List.setIfInBounds_toArray, List.set_cons_zero, List.set_cons_succ, List.getElem_toArray, List.getElem_cons_zero, List.getElem_cons_succ])); (refine wpAnyH_take (i := 2) (v := ?_) rfl (by kernel_rfl) (by kernel_rfl) (by kernel_rfl) (fun _ _ _ h => h) (Or.inl ⟨by rfl, ?_⟩) (by assumption) ?_; rotate_left 1; (focus (intro w hSw; (try dsimp only at hSw); (try simp only [List.getElem_toArray, List.getElem_cons_zero, List.getElem_cons_succ]); go_simp; (try with_reducible rfl))); (try simp only [Act.put, List.setIfInBounds_toArray, List.set_cons_zero, List.set_cons_succ, List.getElem_toArray, List.getElem_cons_zero, List.getElem_cons_succ])); (refine wpAnyH_take (i := 3) (v := ?_) rfl (by kernel_rfl) (by kernel_rfl) (by kernel_rfl) (fun _ _ _ h => h) (Or.inl ⟨by rfl, ?_⟩) (by assumption) ?_; rotate_left 1; (focus (intro w hSw; (try dsimp only at hSw); (try simp only [List.getElem_toArray, List.getElem_cons_zero, List.getElem_cons_succ]); go_simp; (try with_reducible rfl))); (try simp only [Act.put, List.setIfInBounds_toArray, List.set_cons_zero, List.set_cons_succ, List.getElem_toArray, List.getElem_cons_zero, List.getElem_cons_succ])); (refine wpAnyH_take (i := 4) (v := ?_) rfl (by kernel_rfl) (by kernel_rfl) (by kernel_rfl) (fun _ _ _ h => h) (Or.inl ⟨by rfl, ?_⟩) (by assumption) ?_; rotate_left 1; (focus (intro w hSw; (try dsimp only at hSw); (try simp only [List.getElem_toArray, List.getElem_cons_zero, List.getElem_cons_succ]); go_simp; (try with_reducible rfl))); (try simp only [Act.put, List.setIfInBounds_toArray, List.set_cons_zero, List.set_cons_succ, List.getElem_toArray, List.getElem_cons_zero, List.getElem_cons_succ])); (refine wpAnyH_take (i := 5) (v := ?_) rfl (by kernel_rfl) (by kernel_rfl) (by kernel_rfl) (fun _ _ _ h => h) (Or.inl ⟨by rfl, ?_⟩) (by assumption) ?_; rotate_left 1; (focus (intro w hSw; (try dsimp only at hSw); (try simp only [List.getElem_toArray, List.getElem_cons_zero, List.getElem_cons_succ]); go_simp; (try with_reducible rfl))); (try simp only [Act.put, List.setIfInBounds_toArray, List.set_cons_zero, List.set_cons_succ, List.getElem_toArray, List.getElem_cons_zero, List.getElem_cons_succ])); (refine wpAnyH_take (i := 6) (v := ?_) rfl (by kernel_rfl) (by kernel_rfl) (by kernel_rfl) (fun _ _ _ h => h) (Or.inl ⟨by rfl, ?_⟩) (by assumption) ?_; rotate_left 1; (focus (intro w hSw; (try dsimp only at hSw); (try simp only [List.getElem_toArray, List.getElem_cons_zero, List.getElem_cons_succ]); go_simp; (try with_reducible rfl))); (try simp only [Act.put, List.setIfInBounds_toArray, List.set_cons_zero, List.set_cons_succ, List.getElem_toArray, List.getElem_cons_zero, List.getElem_cons_succ])); (refine wpAnyH_take (i := 8) (v := ?_) rfl (by kernel_rfl) (by kernel_rfl) (by kernel_rfl) (fun _ _ _ h => h) (Or.inl ⟨by rfl, ?_⟩) (by assumption) ?_; rotate_left 1; (focus (intro w hSw; (try dsimp only at hSw); (try simp only [List.getElem_toArray, List.getElem_cons_zero, List.getElem_cons_succ]); go_simp; (try with_reducible rfl))); (try simp only [Act.put, List.setIfInBounds_toArray, List.set_cons_zero, List.set_cons_succ, List.getElem_toArray, List.getElem_cons_zero, List.getElem_cons_succ])); (refine wpAnyH_take (i := 9) (v := ?_) rfl (by kernel_rfl) (by kernel_rfl) (by kernel_rfl) (fun _ _ _ h => h) (Or.inl ⟨by rfl, ?_⟩) (by assumption) ?_; rotate_left 1; (focus (intro w hSw; (try dsimp only at hSw); (try simp only [List.getElem_toArray, List.getElem_cons_zero, List.getElem_cons_succ]); go_simp; (try with_reducible rfl))); (try simp only [Act.put, List.setIfInBounds_toArray, List.set_cons_zero, List.set_cons_succ, List.getElem_toArray, List.getElem_cons_zero, List.getElem_cons_succ]))
            (refine wpAnyH_ready (rs := [7]) (by kernel_rfl) (by simp) ?_; refine AllReadyH.cons rfl (fun K hK => ?_) AllReadyH.nil; (try simp only [List.getElem_toArray, List.getElem_cons_zero, List.getElem_cons_succ]))
            go_simp
            (refine hK.out _ _ ?_ (fun hHeld => ?_); (focus (exact ⟨cell_below (by repeat (first | exact Below.refl _ _ | apply below_alloc | apply below_drewN | apply below_drew)) c0, cell_below (by repeat (first | exact Below.refl _ _ | apply below_alloc | apply below_drewN | apply below_drew)) v0, cell_below (by repeat (first | exact Below.refl _ _ | apply below_alloc | apply below_drewN | apply below_drew)) v1, cell_below (by repeat (first | exact Below.refl _ _ | apply below_alloc | apply below_drewN | apply below_drew)) y0⟩)); clear hK K; (try simp only [Act.put, List.setIfInBounds_toArray, List.set_cons_zero, List.set_cons_succ, List.getElem_toArray, List.getElem_cons_zero, List.getElem_cons_succ]))
            (refine wpAnyH_take (i := 10) (v := ?_) rfl (by kernel_rfl) (by kernel_rfl) (by kernel_rfl) (fun _ _ _ h => h) (Or.inl ⟨by rfl, ?_⟩) (by assumption) ?_; rotate_left 1; (focus (intro w hSw; (try dsimp only at hSw); (try simp only [List.getElem_toArray, List.getElem_cons_zero, List.getElem_cons_succ]); go_simp; (try with_reducible rfl))); (try simp only [Act.put, List.setIfInBounds_toArray, List.set_cons_zero, List.set_cons_succ, List.getElem_toArray, List.getElem_cons_zero, List.getElem_cons_succ]))
            (refine wpAnyH_ready (rs := [11]) (by kernel_rfl) (by simp) ?_; refine AllReadyH.cons rfl (fun K hK => ?_) AllReadyH.nil; (try simp only [List.getElem_toArray, List.getElem_cons_zero, List.getElem_cons_succ]))
            go_simp
            (refine hK.out _ _ ?_ (fun hHeld => ?_); (focus (exact ⟨cell_below (by repeat (first | exact Below.refl _ _ | apply below_alloc | apply below_drewN | apply below_drew)) c0, cell_below (by repeat (first | exact Below.refl _ _ | apply below_alloc | apply below_drewN | apply below_drew)) v0, cell_below (by repeat (first | exact Below.refl _ _ | apply below_alloc | apply below_drewN | apply below_drew)) v1, cell_below (by repeat (first | exact Below.refl _ _ | apply below_alloc | apply below_drewN | apply below_drew)) y0⟩)); clear hK K; (try simp only [Act.put, List.setIfInBounds_toArray, List.set_cons_zero, List.set_cons_succ, List.getElem_toArray, List.getElem_cons_zero, List.getElem_cons_succ]))
            (refine wpAnyH_take (i := 12) (v := ?_) rfl (by kernel_rfl) (by kernel_rfl) (by kernel_rfl) (fun _ _ _ h => h) (Or.inl ⟨by rfl, ?_⟩) (by assumption) ?_; rotate_left 1; (focus (intro w hSw; (try dsimp only at hSw); (try simp only [List.getElem_toArray, List.getElem_cons_zero, List.getElem_cons_succ]); go_simp; (try with_reducible rfl))); (try simp only [Act.put, List.setIfInBounds_toArray, List.set_cons_zero, List.set_cons_succ, List.getElem_toArray, List.getElem_cons_zero, List.getElem_cons_succ])); (refine wpAnyH_take (i := 13) (v := ?_) rfl (by kernel_rfl) (by kernel_rfl) (by kernel_rfl) (fun _ _ _ h => h) (Or.inl ⟨by rfl, ?_⟩) (by assumption) ?_; rotate_left 1; (focus (intro w hSw; (try dsimp only at hSw); (try simp only [List.getElem_toArray, List.getElem_cons_zero, List.getElem_cons_succ]); go_simp; (try with_reducible rfl))); (try simp only [Act.put, List.setIfInBounds_toArray, List.set_cons_zero, List.set_cons_succ, List.getElem_toArray, List.getElem_cons_zero, List.getElem_cons_succ]))
            refine wpAnyH_done (by kernel_rfl) ?_ _
            go_wp2_with fail
            go_region_held3 (fun w' => w'.cell? ⟨w.heap.size, 0, none⟩ = some (.slice (some af) n c) ∧ w'.cell? ⟨w.heap.size, 1, none⟩ = some (.slice Bz m d) ∧ w'.cell? ⟨wr.heap.size, 0, none⟩ = some (.int .i64 (fe : Int)) ∧ w'.cell? ⟨wr.heap.size, 1, none⟩ = some (.int .i64 3) ∧ w'.cell? ⟨w3.heap.size, 2, none⟩ = some (.int .i64 lo1) ∧ w'.cell? ⟨w3.heap.size, 3, none⟩ = some (.int .i64 up1))
              (first
                | exact ⟨q0, q1, q2, q3, q4, q5⟩
                | exact ⟨p0, p1, p2, p3, p4, p5⟩
                | (refine ⟨cell_below ?_ p0, cell_below ?_ p1, cell_below ?_ p2, cell_below ?_ p3, cell_below ?_ p4, cell_below ?_ p5⟩ <;> exact (by repeat (first | exact Below.refl _ _ | apply below_alloc | apply below_drewN | apply below_drew)))
                | (refine ⟨cell_below ?_ c0, cell_below ?_ c1, cell_below ?_ v0, cell_below ?_ v1, cell_below ?_ z2, cell_below ?_ z3⟩ <;> exact (by repeat (first | exact Below.refl _ _ | apply below_alloc | apply below_drewN | apply below_drew))))
              (first
                | (go_at_call 31; refine (HN1.out _ (by repeat (first | exact B.out | exact Below.refl _ _ | apply below_alloc | apply below_drewN | apply below_drew))).mono ?_; rintro e w7 ⟨rfl, hb7⟩; have p0 := cell_below hb7 (cell_below (by repeat (first | exact Below.refl _ _ | apply below_alloc | apply below_drewN | apply below_drew)) c0); have p1 := cell_below hb7 (cell_below (by repeat (first | exact Below.refl _ _ | apply below_alloc | apply below_drewN | apply below_drew)) c1); have p2 := cell_below hb7 (cell_below (by repeat (first | exact Below.refl _ _ | apply below_alloc | apply below_drewN | apply below_drew)) v0); have p3 := cell_below hb7 (cell_below (by repeat (first | exact Below.refl _ _ | apply below_alloc | apply below_drewN | apply below_drew)) v1); have p4 := cell_below hb7 (cell_below (by repeat (first | exact Below.refl _ _ | apply below_alloc | apply below_drewN | apply below_drew)) z2); have p5 := cell_below hb7 (cell_below (by repeat (first | exact Below.refl _ _ | apply below_alloc | apply below_drewN | apply below_drew)) z3); have O7 := Lib.hid (own_below (own_below O.out (by repeat (first | exact Below.refl _ _ | apply below_alloc | apply below_drewN | apply below_drew))) hb7); have B7 := Lib.hid (below_then (w := w2) (by repeat (first | exact B.out | exact Below.refl _ _ | apply below_alloc | apply below_drewN | apply below_drew)) hb7); clear hb7)
                | (refine step_append_cells w2.heap.size rfl (.tmp 72) (.tmp 82) 31 46 (.agg #[.string ByteArray.empty, .int .i64 0, .int .i64 0, .int .i64 0]) 4 40 rfl Tryz.underlying31 info_dim rfl (by decide) (by decide) u5 i (flat encD ((dimsOf s).take i)) [.string (name ++ suf 3), .int .i64 nom, .int .i64 lo1, .int .i64 up1] rfl rfl rfl (by simp [Value.oneCell']) O7.out B7.out.size (by omega) ?_; intro v8 w8 hown8 hgr8; have q0 := grown_cell hgr8 p0 (fun k hk => by have := hk5 k hk; show k ≠ w.heap.size; omega); have q1 := grown_cell hgr8 p1 (fun k hk => by have := hk5 k hk; show k ≠ w.heap.size; omega); have q2 := grown_cell hgr8 p2 (fun k hk => by have := hk5 k hk; show k ≠ wr.heap.size; omega); have q3 := grown_cell hgr8 p3 (fun k hk => by have := hk5 k hk; show k ≠ wr.heap.size; omega); have q4 := grown_cell hgr8 p4 (fun k hk => by have := hk5 k hk; show k ≠ w3.heap.size; omega); have q5 := grown_cell hgr8 p5 (fun k hk => by have := hk5 k hk; show k ≠ w3.heap.size; omega); have B8 := Lib.hid (below_grownB B7.out B7.out.size hgr8 (fun k hk => by have := hk5 k hk; omega)); have O8 := Lib.hid hown8; clear hown8 hgr8))
            go_wp2_with fail
            go_roundw
            case rel => exact ⟨i + 1, by omega, by go_num, Lib.hid (own_cast O8.out rfl (by rw [show dimsOf s = (varsOf s).map (dimOf s) from rfl, hdim.out, flat_app]; rfl)), B8.out⟩
            case measure => simp [intOf]; omega
        · go_wp2_with fail
          refine (HZ2.out _ (below_alloc B.out)).mono ?_
          rintro e w4 ⟨rfl, hb4⟩
          have z0 := keptc hb4 (w3.heap.size) 0 (.int .i64 zk) (by first | with_reducible assumption | (simp [go_sem]; done)); have z1 := keptc hb4 (w3.heap.size) 1 (.int .i64 zf) (by first | with_reducible assumption | (simp [go_sem]; done)); have z2 := keptc hb4 (w3.heap.size) 2 (.int .i64 lo) (by first | with_reducible assumption | (simp [go_sem]; done)); have z3 := keptc hb4 (w3.heap.size) 3 (.int .i64 up) (by first | with_reducible assumption | (simp [go_sem]; done)); have z4 := keptc hb4 (w3.heap.size) 4 (.bool true) (by first | with_reducible assumption | (simp [go_sem]; done)); have fz0 := keptF hb4 (g := w3.heap.size) (o := 0) (v := .int .i64 zk) (by first | with_reducible assumption | (simp [go_sem]; done)) (by first | with_reducible assumption | (simp [go_sem]; done)); have fz1 := keptF hb4 (g := w3.heap.size) (o := 1) (v := .int .i64 zf) (by first | with_reducible assumption | (simp [go_sem]; done)) (by first | with_reducible assumption | (simp [go_sem]; done)); have fz2 := keptF hb4 (g := w3.heap.size) (o := 2) (v := .int .i64 lo) (by first | with_reducible assumption | (simp [go_sem]; done)) (by first | with_reducible assumption | (simp [go_sem]; done)); have fz3 := keptF hb4 (g := w3.heap.size) (o := 3) (v := .int .i64 up) (by first | with_reducible assumption | (simp [go_sem]; done)) (by first | with_reducible assumption | (simp [go_sem]; done)); have fz4 := keptF hb4 (g := w3.heap.size) (o := 4) (v := .bool true) (by first | with_reducible assumption | (simp [go_sem]; done)) (by first | with_reducible assumption | (simp [go_sem]; done)); have Tz := Lib.hid (keptT hb4 (g := w3.heap.size) (o := 0) (v := .int .i64 zk) (by first | with_reducible assumption | (simp [go_sem]; done)) (e := 30) (by first | with_reducible assumption | exact Hid.out (by with_reducible assumption) | (simp [typ_alloc, typ_drewN, typ_drew, otyp_cells]; done)))
          have B4 := below_then (w := w3) (by repeat (first | exact Below.refl _ _ | apply below_alloc | apply below_drewN | apply below_drew)) hb4
          have c0 := cell_below B4 c0
          have c1 := cell_below B4 c1
          have y0 := cell_below B4 y0
          have v0 := cell_below B4 v0
          have v1 := cell_below B4 v1
          have O := Lib.hid (own_below O.out B4)
          have B := Lib.hid (below_then B.out B4)
          have hs4 : w3.heap.size < w4.heap.size := World.block_lt_of_cell? w4 _ z0
          have hs4' : ¬ w3.heap.size = w4.heap.size := by omega
          have hs40 : ¬ w.heap.size = w4.heap.size := by omega
          have hs41 : ¬ wr.heap.size = w4.heap.size := by omega
          clear hb4 B4 HZ2
          obtain ⟨W5, e5⟩ : ∃ W5 : World, W5 = ((w4.setCell ⟨w3.heap.size, 2, none⟩ (.int .i64 (lo - (yu - yl)))).setCell ⟨w3.heap.size, 3, none⟩ (.int .i64 (up + (yu - yl)))).alloc (.cells #[.int .i64 yk, .int .i64 yf, .int .i64 yl, .int .i64 yu, .bool yb] 30) := ⟨_, rfl⟩
          go_wp2_with fail
          rw [← e5]
          have z2 : W5.cell? ⟨w3.heap.size, 2, none⟩ = some (.int .i64 (lo - (yu - yl))) := by
            rw [e5]
            exact cell_below (below_alloc (Below.refl _ _)) ((World.cell?_setCell_other _ _ _ _ (by simp)).trans (World.cell?_setCell_same _ _ _ z2))
          have z3 : W5.cell? ⟨w3.heap.size, 3, none⟩ = some (.int .i64 (up + (yu - yl))) := by
            rw [e5]
            exact cell_below (below_alloc (Below.refl _ _)) (World.cell?_setCell_same _ _ _ ((World.cell?_setCell_other _ _ _ _ (by simp)).trans z3))
          have hset : ∀ {a : Addr} {v : Value}, w4.cell? a = some v → a.block ≠ w3.heap.size → W5.cell? a = some v := by
            intro a v h1 h2
            rw [e5]
            exact cell_below (below_alloc (Below.refl _ _)) (cell_set_far (cell_set_far h1 (fun e => h2 e.symm) _) (fun e => h2 e.symm) _)
          have hrw : wr.heap.size ≠ w3.heap.size := hs3'
          have c0 := hset c0 hs0'
          have c1 := hset c1 hs0'
          have y0 := hset y0 (by omega)
          have v0 := hset v0 hs3'
          have v1 := hset v1 hs3'
          have hne : some w3.heap.size ≠ u5.ownBlock := own_ne O.out Tz.out (by decide)
          have O := Lib.hid (show W5.ownsRow w2.heap.size 46 4 u5 i _ from by rw [e5]; exact own_below (own_set (own_set O.out hne _) hne _) (below_alloc (Below.refl _ _)))
          have B := Lib.hid (show Below w2.heap.size w2 W5 from by rw [e5]; exact below_alloc (below_set (below_set B.out (by dsimp only; omega) _) (by dsimp only; omega) _))
          clear hset fz0 fz1 fz2 fz3 fz4 z0 z1 z4 Tz hne
          obtain ⟨lo1, elo⟩ : ∃ x : Int, x = lo - (yu - yl) := ⟨_, rfl⟩
          obtain ⟨up1, eup⟩ : ∃ x : Int, x = up + (yu - yl) := ⟨_, rfl⟩
          rw [← elo] at z2
          rw [← eup] at z3
          have hd9 : dimOf1 name nom ki ⟨zk, zf, lo, up, true⟩ ⟨yk, yf, yl, yu, yb⟩ = ⟨name ++ suf ki, nom, lo1, up1⟩ := by rw [elo, eup]; rfl
          rw [hd9] at hdim
          have hs5 : w3.heap.size < W5.heap.size := World.block_lt_of_cell? W5 _ z2
          have hs50 : ¬ w.heap.size = W5.heap.size := by omega
          have hs51 : ¬ wr.heap.size = W5.heap.size := by omega
          have hs53 : ¬ w3.heap.size = W5.heap.size := by omega
          have hs54 : ¬ (af.add (fe * 6)).block = W5.heap.size := by have := World.block_lt_of_cell? W5 _ y0; omega
          clear e5 elo eup hd9 bz1 bz2 bz3 bz4 bw1 bw2 bw3 bw4
          have hl1 : ¬ 9223372036854775807 < name.size := by omega
          have hl2 : ¬ 9223372036854775807 < name.size + 5 := by omega
          have hsf : (name ++ suf ki).size ≤ 35 := by rw [ByteArray.size_append]; have := suf_size ki; omega
          rcases hk with rfl | rfl | rfl
          · refine wp_region_held_drew (S := fun w' => w'.cell? ⟨w.heap.size, 0, none⟩ = some (.slice (some af) n c) ∧ w'.cell? ⟨wr.heap.size, 0, none⟩ = some (.int .i64 (fe : Int)) ∧ w'.cell? ⟨wr.heap.size, 1, none⟩ = some (.int .i64 1) ∧ w'.cell? (af.add (fe * 6)) = some (.string name)) (by kernel_rfl) ⟨c0, v0, v1, y0⟩ (fun hHeld => ?_)
            (refine wpAnyH_take (i := 0) (v := ?_) rfl (by kernel_rfl) (by kernel_rfl) (by kernel_rfl) (fun _ _ _ h => h) (Or.inl ⟨by rfl, ?_⟩) (by assumption) ?_; rotate_left 1; (focus (intro w hSw; (try dsimp only at hSw); (try simp only [List.getElem_toArray, List.getElem_cons_zero, List.getElem_cons_succ]); go_simp; (try with_reducible rfl))); (try simp only [Act.put, List.setIfInBounds_toArray, List.set_cons_zero, List.set_cons_succ, List.getElem_toArray, List.getElem_cons_zero, List.getElem_cons_succ])); (refine wpAnyH_take (i := 1) (v := ?_) rfl (by kernel_rfl) (by kernel_rfl) (by kernel_rfl) (fun _ _ _ h => h) (Or.inl ⟨by rfl, ?_⟩) (by assumption) ?_; rotate_left 1; (focus (intro w hSw; (try dsimp only at hSw); (try simp only [List.getElem_toArray, List.getElem_cons_zero, List.getElem_cons_succ]); go_simp; (try with_reducible rfl))); (try simp only [Act.put, List.setIfInBounds_toArray, List.set_cons_zero, List.set_cons_succ, List.getElem_toArray, List.getElem_cons_zero, List.getElem_cons_succ])); (refine wpAnyH_take (i := 2) (v := ?_) rfl (by kernel_rfl) (by kernel_rfl) (by kernel_rfl) (fun _ _ _ h => h) (Or.inl ⟨by rfl, ?_⟩) (by assumption) ?_; rotate_left 1; (focus (intro w hSw; (try dsimp only at hSw); (try simp only [List.getElem_toArray, List.getElem_cons_zero, List.getElem_cons_succ]); go_simp; (try with_reducible rfl))); (try simp only [Act.put, List.setIfInBounds_toArray, List.set_cons_zero, List.set_cons_succ, List.getElem_toArray, List.getElem_cons_zero, List.getElem_cons_succ])); (refine wpAnyH_take (i := 3) (v := ?_) rfl (by kernel_rfl) (by kernel_rfl) (by kernel_rfl) (fun _ _ _ h => h) (Or.inl ⟨by rfl, ?_⟩) (by assumption) ?_; rotate_left 1; (focus (intro w hSw; (try dsimp only at hSw); (try simp only [List.getElem_toArray, List.getElem_cons_zero, List.getElem_cons_succ]); go_simp; (try with_reducible rfl))); (try simp only [Act.put, List.setIfInBounds_toArray, List.set_cons_zero, List.set_cons_succ, List.getElem_toArray, List.getElem_cons_zero, List.getElem_cons_succ])); (refine wpAnyH_take (i := 4) (v := ?_) rfl (by kernel_rfl) (by kernel_rfl) (by kernel_rfl) (fun _ _ _ h => h) (Or.inl ⟨by rfl, ?_⟩) (by assumption) ?_; rotate_left 1; (focus (intro w hSw; (try dsimp only at hSw); (try simp only [List.getElem_toArray, List.getElem_cons_zero, List.getElem_cons_succ]); go_simp; (try with_reducible rfl))); (try simp only [Act.put, List.setIfInBounds_toArray, List.set_cons_zero, List.set_cons_succ, List.getElem_toArray, List.getElem_cons_zero, List.getElem_cons_succ])); (refine wpAnyH_take (i := 5) (v := ?_) rfl (by kernel_rfl) (by kernel_rfl) (by kernel_rfl) (fun _ _ _ h => h) (Or.inl ⟨by rfl, ?_⟩) (by assumption) ?_; rotate_left 1; (focus (intro w hSw; (try dsimp only at hSw); (try simp only [List.getElem_toArray, List.getElem_cons_zero, List.getElem_cons_succ]); go_simp; (try with_reducible rfl))); (try simp only [Act.put, List.setIfInBounds_toArray, List.set_cons_zero, List.set_cons_succ, List.getElem_toArray, List.getElem_cons_zero, List.getElem_cons_succ])); (refine wpAnyH_take (i := 6) (v := ?_) rfl (by kernel_rfl) (by kernel_rfl) (by kernel_rfl) (fun _ _ _ h => h) (Or.inl ⟨by rfl, ?_⟩) (by assumption) ?_; rotate_left 1; (focus (intro w hSw; (try dsimp only at hSw); (try simp only [List.getElem_toArray, List.getElem_cons_zero, List.getElem_cons_succ]); go_simp; (try with_reducible rfl))); (try simp only [Act.put, List.setIfInBounds_toArray, List.set_cons_zero, List.set_cons_succ, List.getElem_toArray, List.getElem_cons_zero, List.getElem_cons_succ])); (refine wpAnyH_take (i := 8) (v := ?_) rfl (by kernel_rfl) (by kernel_rfl) (by kernel_rfl) (fun _ _ _ h => h) (Or.inl ⟨by rfl, ?_⟩) (by assumption) ?_; rotate_left 1; (focus (intro w hSw; (try dsimp only at hSw); (try simp only [List.getElem_toArray, List.getElem_cons_zero, List.getElem_cons_succ]); go_simp; (try with_reducible rfl))); (try simp only [Act.put, List.setIfInBounds_toArray, List.set_cons_zero, List.set_cons_succ, List.getElem_toArray, List.getElem_cons_zero, List.getElem_cons_succ])); (refine wpAnyH_take (i := 9) (v := ?_) rfl (by kernel_rfl) (by kernel_rfl) (by kernel_rfl) (fun _ _ _ h => h) (Or.inl ⟨by rfl, ?_⟩) (by assumption) ?_; rotate_left 1; (focus (intro w hSw; (try dsimp only at hSw); (try simp only [List.getElem_toArray, List.getElem_cons_zero, List.getElem_cons_succ]); go_simp; (try with_reducible rfl))); (try simp only [Act.put, List.setIfInBounds_toArray, List.set_cons_zero, List.set_cons_succ, List.getElem_toArray, List.getElem_cons_zero, List.getElem_cons_succ]))
            (refine wpAnyH_ready (rs := [7]) (by kernel_rfl) (by simp) ?_; refine AllReadyH.cons rfl (fun K hK => ?_) AllReadyH.nil; (try simp only [List.getElem_toArray, List.getElem_cons_zero, List.getElem_cons_succ]))
            go_simp
            (refine hK.out _ _ ?_ (fun hHeld => ?_); (focus (exact ⟨cell_below (by repeat (first | exact Below.refl _ _ | apply below_alloc | apply below_drewN | apply below_drew)) c0, cell_below (by repeat (first | exact Below.refl _ _ | apply below_alloc | apply below_drewN | apply below_drew)) v0, cell_below (by repeat (first | exact Below.refl _ _ | apply below_alloc | apply below_drewN | apply below_drew)) v1, cell_below (by repeat (first | exact Below.refl _ _ | apply below_alloc | apply below_drewN | apply below_drew)) y0⟩)); clear hK K; (try simp only [Act.put, List.setIfInBounds_toArray, List.set_cons_zero, List.set_cons_succ, List.getElem_toArray, List.getElem_cons_zero, List.getElem_cons_succ]))
            (refine wpAnyH_take (i := 10) (v := ?_) rfl (by kernel_rfl) (by kernel_rfl) (by kernel_rfl) (fun _ _ _ h => h) (Or.inl ⟨by rfl, ?_⟩) (by assumption) ?_; rotate_left 1; (focus (intro w hSw; (try dsimp only at hSw); (try simp only [List.getElem_toArray, List.getElem_cons_zero, List.getElem_cons_succ]); go_simp; (try with_reducible rfl))); (try simp only [Act.put, List.setIfInBounds_toArray, List.set_cons_zero, List.set_cons_succ, List.getElem_toArray, List.getElem_cons_zero, List.getElem_cons_succ]))
            (refine wpAnyH_ready (rs := [11]) (by kernel_rfl) (by simp) ?_; refine AllReadyH.cons rfl (fun K hK => ?_) AllReadyH.nil; (try simp only [List.getElem_toArray, List.getElem_cons_zero, List.getElem_cons_succ]))
            go_simp
            (refine hK.out _ _ ?_ (fun hHeld => ?_); (focus (exact ⟨cell_below (by repeat (first | exact Below.refl _ _ | apply below_alloc | apply below_drewN | apply below_drew)) c0, cell_below (by repeat (first | exact Below.refl _ _ | apply below_alloc | apply below_drewN | apply below_drew)) v0, cell_below (by repeat (first | exact Below.refl _ _ | apply below_alloc | apply below_drewN | apply below_drew)) v1, cell_below (by repeat (first | exact Below.refl _ _ | apply below_alloc | apply below_drewN | apply below_drew)) y0⟩)); clear hK K; (try simp only [Act.put, List.setIfInBounds_toArray, List.set_cons_zero, List.set_cons_succ, List.getElem_toArray, List.getElem_cons_zero, List.getElem_cons_succ]))
            (refine wpAnyH_take (i := 12) (v := ?_) rfl (by kernel_rfl) (by kernel_rfl) (by kernel_rfl) (fun _ _ _ h => h) (Or.inl ⟨by rfl, ?_⟩) (by assumption) ?_; rotate_left 1; (focus (intro w hSw; (try dsimp only at hSw); (try simp only [List.getElem_toArray, List.getElem_cons_zero, List.getElem_cons_succ]); go_simp; (try with_reducible rfl))); (try simp only [Act.put, List.setIfInBounds_toArray, List.set_cons_zero, List.set_cons_succ, List.getElem_toArray, List.getElem_cons_zero, List.getElem_cons_succ])); (refine wpAnyH_take (i := 13) (v := ?_) rfl (by kernel_rfl) (by kernel_rfl) (by kernel_rfl) (fun _ _ _ h => h) (Or.inl ⟨by rfl, ?_⟩) (by assumption) ?_; rotate_left 1; (focus (intro w hSw; (try dsimp only at hSw); (try simp only [List.getElem_toArray, List.getElem_cons_zero, List.getElem_cons_succ]); go_simp; (try with_reducible rfl))); (try simp only [Act.put, List.setIfInBounds_toArray, List.set_cons_zero, List.set_cons_succ, List.getElem_toArray, List.getElem_cons_zero, List.getElem_cons_succ]))
            refine wpAnyH_done (by kernel_rfl) ?_ _
            go_wp2_with fail
            go_region_held3 (fun w' => w'.cell? ⟨w.heap.size, 0, none⟩ = some (.slice (some af) n c) ∧ w'.cell? ⟨w.heap.size, 1, none⟩ = some (.slice Bz m d) ∧ w'.cell? ⟨wr.heap.size, 0, none⟩ = some (.int .i64 (fe : Int)) ∧ w'.cell? ⟨wr.heap.size, 1, none⟩ = some (.int .i64 1) ∧ w'.cell? ⟨w3.heap.size, 2, none⟩ = some (.int .i64 lo1) ∧ w'.cell? ⟨w3.heap.size, 3, none⟩ = some (.int .i64 up1))
              (first
                | exact ⟨q0, q1, q2, q3, q4, q5⟩
                | exact ⟨p0, p1, p2, p3, p4, p5⟩
                | (refine ⟨cell_below ?_ p0, cell_below ?_ p1, cell_below ?_ p2, cell_below ?_ p3, cell_below ?_ p4, cell_below ?_ p5⟩ <;> exact (by repeat (first | exact Below.refl _ _ | apply below_alloc | apply below_drewN | apply below_drew)))
                | (refine ⟨cell_below ?_ c0, cell_below ?_ c1, cell_below ?_ v0, cell_below ?_ v1, cell_below ?_ z2, cell_below ?_ z3⟩ <;> exact (by repeat (first | exact Below.refl _ _ | apply below_alloc | apply below_drewN | apply below_drew))))
              (first
                | (go_at_call 31; refine (HN1.out _ (by repeat (first | exact B.out | exact Below.refl _ _ | apply below_alloc | apply below_drewN | apply below_drew))).mono ?_; rintro e w7 ⟨rfl, hb7⟩; have p0 := cell_below hb7 (cell_below (by repeat (first | exact Below.refl _ _ | apply below_alloc | apply below_drewN | apply below_drew)) c0); have p1 := cell_below hb7 (cell_below (by repeat (first | exact Below.refl _ _ | apply below_alloc | apply below_drewN | apply below_drew)) c1); have p2 := cell_below hb7 (cell_below (by repeat (first | exact Below.refl _ _ | apply below_alloc | apply below_drewN | apply below_drew)) v0); have p3 := cell_below hb7 (cell_below (by repeat (first | exact Below.refl _ _ | apply below_alloc | apply below_drewN | apply below_drew)) v1); have p4 := cell_below hb7 (cell_below (by repeat (first | exact Below.refl _ _ | apply below_alloc | apply below_drewN | apply below_drew)) z2); have p5 := cell_below hb7 (cell_below (by repeat (first | exact Below.refl _ _ | apply below_alloc | apply below_drewN | apply below_drew)) z3); have O7 := Lib.hid (own_below (own_below O.out (by repeat (first | exact Below.refl _ _ | apply below_alloc | apply below_drewN | apply below_drew))) hb7); have B7 := Lib.hid (below_then (w := w2) (by repeat (first | exact B.out | exact Below.refl _ _ | apply below_alloc | apply below_drewN | apply below_drew)) hb7); clear hb7)
                | (refine step_append_cells w2.heap.size rfl (.tmp 72) (.tmp 82) 31 46 (.agg #[.string ByteArray.empty, .int .i64 0, .int .i64 0, .int .i64 0]) 4 40 rfl Tryz.underlying31 info_dim rfl (by decide) (by decide) u5 i (flat encD ((dimsOf s).take i)) [.string (name ++ suf 1), .int .i64 nom, .int .i64 lo1, .int .i64 up1] rfl rfl rfl (by simp [Value.oneCell']) O7.out B7.out.size (by omega) ?_; intro v8 w8 hown8 hgr8; have q0 := grown_cell hgr8 p0 (fun k hk => by have := hk5 k hk; show k ≠ w.heap.size; omega); have q1 := grown_cell hgr8 p1 (fun k hk => by have := hk5 k hk; show k ≠ w.heap.size; omega); have q2 := grown_cell hgr8 p2 (fun k hk => by have := hk5 k hk; show k ≠ wr.heap.size; omega); have q3 := grown_cell hgr8 p3 (fun k hk => by have := hk5 k hk; show k ≠ wr.heap.size; omega); have q4 := grown_cell hgr8 p4 (fun k hk => by have := hk5 k hk; show k ≠ w3.heap.size; omega); have q5 := grown_cell hgr8 p5 (fun k hk => by have := hk5 k hk; show k ≠ w3.heap.size; omega); have B8 := Lib.hid (below_grownB B7.out B7.out.size hgr8 (fun k hk => by have := hk5 k hk; omega)); have O8 := Lib.hid hown8; clear hown8 hgr8))
            go_wp2_with fail
            go_roundw
            case rel => exact ⟨i + 1, by omega, by go_num, Lib.hid (own_cast O8.out rfl (by rw [show dimsOf s = (varsOf s).map (dimOf s) from rfl, hdim.out, flat_app]; rfl)), B8.out⟩
            case measure => simp [intOf]; omega
          · refine wp_region_held_drew (S := fun w' => w'.cell? ⟨w.heap.size, 0, none⟩ = some (.slice (some af) n c) ∧ w'.cell? ⟨wr.heap.size, 0, none⟩ = some (.int .i64 (fe : Int)) ∧ w'.cell? ⟨wr.heap.size, 1, none⟩ = some (.int .i64 2) ∧ w'.cell? (af.add (fe * 6)) = some (.string name)) (by kernel_rfl) ⟨c0, v0, v1, y0⟩ (fun hHeld => ?_)
            (refine wpAnyH_take (i := 0) (v := ?_) rfl (by kernel_rfl) (by kernel_rfl) (by kernel_rfl) (fun _ _ _ h => h) (Or.inl ⟨by rfl, ?_⟩) (by assumption) ?_; rotate_left 1; (focus (intro w hSw; (try dsimp only at hSw); (try simp only [List.getElem_toArray, List.getElem_cons_zero, List.getElem_cons_succ]); go_simp; (try with_reducible rfl))); (try simp only [Act.put, List.setIfInBounds_toArray, List.set_cons_zero, List.set_cons_succ, List.getElem_toArray, List.getElem_cons_zero, List.getElem_cons_succ])); (refine wpAnyH_take (i := 1) (v := ?_) rfl (by kernel_rfl) (by kernel_rfl) (by kernel_rfl) (fun _ _ _ h => h) (Or.inl ⟨by rfl, ?_⟩) (by assumption) ?_; rotate_left 1; (focus (intro w hSw; (try dsimp only at hSw); (try simp only [List.getElem_toArray, List.getElem_cons_zero, List.getElem_cons_succ]); go_simp; (try with_reducible rfl))); (try simp only [Act.put, List.setIfInBounds_toArray, List.set_cons_zero, List.set_cons_succ, List.getElem_toArray, List.getElem_cons_zero, List.getElem_cons_succ])); (refine wpAnyH_take (i := 2) (v := ?_) rfl (by kernel_rfl) (by kernel_rfl) (by kernel_rfl) (fun _ _ _ h => h) (Or.inl ⟨by rfl, ?_⟩) (by assumption) ?_; rotate_left 1; (focus (intro w hSw; (try dsimp only at hSw); (try simp only [List.getElem_toArray, List.getElem_cons_zero, List.getElem_cons_succ]); go_simp; (try with_reducible rfl))); (try simp only [Act.put, List.setIfInBounds_toArray, List.set_cons_zero, List.set_cons_succ, List.getElem_toArray, List.getElem_cons_zero, List.getElem_cons_succ])); (refine wpAnyH_take (i := 3) (v := ?_) rfl (by kernel_rfl) (by kernel_rfl) (by kernel_rfl) (fun _ _ _ h => h) (Or.inl ⟨by rfl, ?_⟩) (by assumption) ?_; rotate_left 1; (focus (intro w hSw; (try dsimp only at hSw); (try simp only [List.getElem_toArray, List.getElem_cons_zero, List.getElem_cons_succ]); go_simp; (try with_reducible rfl))); (try simp only [Act.put, List.setIfInBounds_toArray, List.set_cons_zero, List.set_cons_succ, List.getElem_toArray, List.getElem_cons_zero, List.getElem_cons_succ])); (refine wpAnyH_take (i := 4) (v := ?_) rfl (by kernel_rfl) (by kernel_rfl) (by kernel_rfl) (fun _ _ _ h => h) (Or.inl ⟨by rfl, ?_⟩) (by assumption) ?_; rotate_left 1; (focus (intro w hSw; (try dsimp only at hSw); (try simp only [List.getElem_toArray, List.getElem_cons_zero, List.getElem_cons_succ]); go_simp; (try with_reducible rfl))); (try simp only [Act.put, List.setIfInBounds_toArray, List.set_cons_zero, List.set_cons_succ, List.getElem_toArray, List.getElem_cons_zero, List.getElem_cons_succ])); (refine wpAnyH_take (i := 5) (v := ?_) rfl (by kernel_rfl) (by kernel_rfl) (by kernel_rfl) (fun _ _ _ h => h) (Or.inl ⟨by rfl, ?_⟩) (by assumption) ?_; rotate_left 1; (focus (intro w hSw; (try dsimp only at hSw); (try simp only [List.getElem_toArray, List.getElem_cons_zero, List.getElem_cons_succ]); go_simp; (try with_reducible rfl))); (try simp only [Act.put, List.setIfInBounds_toArray, List.set_cons_zero, List.set_cons_succ, List.getElem_toArray, List.getElem_cons_zero, List.getElem_cons_succ])); (refine wpAnyH_take (i := 6) (v := ?_) rfl (by kernel_rfl) (by kernel_rfl) (by kernel_rfl) (fun _ _ _ h => h) (Or.inl ⟨by rfl, ?_⟩) (by assumption) ?_; rotate_left 1; (focus (intro w hSw; (try dsimp only at hSw); (try simp only [List.getElem_toArray, List.getElem_cons_zero, List.getElem_cons_succ]); go_simp; (try with_reducible rfl))); (try simp only [Act.put, List.setIfInBounds_toArray, List.set_cons_zero, List.set_cons_succ, List.getElem_toArray, List.getElem_cons_zero, List.getElem_cons_succ])); (refine wpAnyH_take (i := 8) (v := ?_) rfl (by kernel_rfl) (by kernel_rfl) (by kernel_rfl) (fun _ _ _ h => h) (Or.inl ⟨by rfl, ?_⟩) (by assumption) ?_; rotate_left 1; (focus (intro w hSw; (try dsimp only at hSw); (try simp only [List.getElem_toArray, List.getElem_cons_zero, List.getElem_cons_succ]); go_simp; (try with_reducible rfl))); (try simp only [Act.put, List.setIfInBounds_toArray, List.set_cons_zero, List.set_cons_succ, List.getElem_toArray, List.getElem_cons_zero, List.getElem_cons_succ])); (refine wpAnyH_take (i := 9) (v := ?_) rfl (by kernel_rfl) (by kernel_rfl) (by kernel_rfl) (fun _ _ _ h => h) (Or.inl ⟨by rfl, ?_⟩) (by assumption) ?_; rotate_left 1; (focus (intro w hSw; (try dsimp only at hSw); (try simp only [List.getElem_toArray, List.getElem_cons_zero, List.getElem_cons_succ]); go_simp; (try with_reducible rfl))); (try simp only [Act.put, List.setIfInBounds_toArray, List.set_cons_zero, List.set_cons_succ, List.getElem_toArray, List.getElem_cons_zero, List.getElem_cons_succ]))
            (refine wpAnyH_ready (rs := [7]) (by kernel_rfl) (by simp) ?_; refine AllReadyH.cons rfl (fun K hK => ?_) AllReadyH.nil; (try simp only [List.getElem_toArray, List.getElem_cons_zero, List.getElem_cons_succ]))
            go_simp
            (refine hK.out _ _ ?_ (fun hHeld => ?_); (focus (exact ⟨cell_below (by repeat (first | exact Below.refl _ _ | apply below_alloc | apply below_drewN | apply below_drew)) c0, cell_below (by repeat (first | exact Below.refl _ _ | apply below_alloc | apply below_drewN | apply below_drew)) v0, cell_below (by repeat (first | exact Below.refl _ _ | apply below_alloc | apply below_drewN | apply below_drew)) v1, cell_below (by repeat (first | exact Below.refl _ _ | apply below_alloc | apply below_drewN | apply below_drew)) y0⟩)); clear hK K; (try simp only [Act.put, List.setIfInBounds_toArray, List.set_cons_zero, List.set_cons_succ, List.getElem_toArray, List.getElem_cons_zero, List.getElem_cons_succ]))
            (refine wpAnyH_take (i := 10) (v := ?_) rfl (by kernel_rfl) (by kernel_rfl) (by kernel_rfl) (fun _ _ _ h => h) (Or.inl ⟨by rfl, ?_⟩) (by assumption) ?_; rotate_left 1; (focus (intro w hSw; (try dsimp only at hSw); (try simp only [List.getElem_toArray, List.getElem_cons_zero, List.getElem_cons_succ]); go_simp; (try with_reducible rfl))); (try simp only [Act.put, List.setIfInBounds_toArray, List.set_cons_zero, List.set_cons_succ, List.getElem_toArray, List.getElem_cons_zero, List.getElem_cons_succ]))
            (refine wpAnyH_ready (rs := [11]) (by kernel_rfl) (by simp) ?_; refine AllReadyH.cons rfl (fun K hK => ?_) AllReadyH.nil; (try simp only [List.getElem_toArray, List.getElem_cons_zero, List.getElem_cons_succ]))
            go_simp
            (refine hK.out _ _ ?_ (fun hHeld => ?_); (focus (exact ⟨cell_below (by repeat (first | exact Below.refl _ _ | apply below_alloc | apply below_drewN | apply below_drew)) c0, cell_below (by repeat (first | exact Below.refl _ _ | apply below_alloc | apply below_drewN | apply below_drew)) v0, cell_below (by repeat (first | exact Below.refl _ _ | apply below_alloc | apply below_drewN | apply below_drew)) v1, cell_below (by repeat (first | exact Below.refl _ _ | apply below_alloc | apply below_drewN | apply below_drew)) y0⟩)); clear hK K; (try simp only [Act.put, List.setIfInBounds_toArray, List.set_cons_zero, List.set_cons_succ, List.getElem_toArray, List.getElem_cons_zero, List.getElem_cons_succ]))
            (refine wpAnyH_take (i := 12) (v := ?_) rfl (by kernel_rfl) (by kernel_rfl) (by kernel_rfl) (fun _ _ _ h => h) (Or.inl ⟨by rfl, ?_⟩) (by assumption) ?_; rotate_left 1; (focus (intro w hSw; (try dsimp only at hSw); (try simp only [List.getElem_toArray, List.getElem_cons_zero, List.getElem_cons_succ]); go_simp; (try with_reducible rfl))); (try simp only [Act.put, List.setIfInBounds_toArray, List.set_cons_zero, List.set_cons_succ, List.getElem_toArray, List.getElem_cons_zero, List.getElem_cons_succ])); (refine wpAnyH_take (i := 13) (v := ?_) rfl (by kernel_rfl) (by kernel_rfl) (by kernel_rfl) (fun _ _ _ h => h) (Or.inl ⟨by rfl, ?_⟩) (by assumption) ?_; rotate_left 1; (focus (intro w hSw; (try dsimp only at hSw); (try simp only [List.getElem_toArray, List.getElem_cons_zero, List.getElem_cons_succ]); go_simp; (try with_reducible rfl))); (try simp only [Act.put, List.setIfInBounds_toArray, List.set_cons_zero, List.set_cons_succ, List.getElem_toArray, List.getElem_cons_zero, List.getElem_cons_succ]))
            refine wpAnyH_done (by kernel_rfl) ?_ _
            go_wp2_with fail
            go_region_held3 (fun w' => w'.cell? ⟨w.heap.size, 0, none⟩ = some (.slice (some af) n c) ∧ w'.cell? ⟨w.heap.size, 1, none⟩ = some (.slice Bz m d) ∧ w'.cell? ⟨wr.heap.size, 0, none⟩ = some (.int .i64 (fe : Int)) ∧ w'.cell? ⟨wr.heap.size, 1, none⟩ = some (.int .i64 2) ∧ w'.cell? ⟨w3.heap.size, 2, none⟩ = some (.int .i64 lo1) ∧ w'.cell? ⟨w3.heap.size, 3, none⟩ = some (.int .i64 up1))
              (first
                | exact ⟨q0, q1, q2, q3, q4, q5⟩
                | exact ⟨p0, p1, p2, p3, p4, p5⟩
                | (refine ⟨cell_below ?_ p0, cell_below ?_ p1, cell_below ?_ p2, cell_below ?_ p3, cell_below ?_ p4, cell_below ?_ p5⟩ <;> exact (by repeat (first | exact Below.refl _ _ | apply below_alloc | apply below_drewN | apply below_drew)))
                | (refine ⟨cell_below ?_ c0, cell_below ?_ c1, cell_below ?_ v0, cell_below ?_ v1, cell_below ?_ z2, cell_below ?_ z3⟩ <;> exact (by repeat (first | exact Below.refl _ _ | apply below_alloc | apply below_drewN | apply below_drew))))
              (first
                | (go_at_call 31; refine (HN1.out _ (by repeat (first | exact B.out | exact Below.refl _ _ | apply below_alloc | apply below_drewN | apply below_drew))).mono ?_; rintro e w7 ⟨rfl, hb7⟩; have p0 := cell_below hb7 (cell_below (by repeat (first | exact Below.refl _ _ | apply below_alloc | apply below_drewN | apply below_drew)) c0); have p1 := cell_below hb7 (cell_below (by repeat (first | exact Below.refl _ _ | apply below_alloc | apply below_drewN | apply below_drew)) c1); have p2 := cell_below hb7 (cell_below (by repeat (first | exact Below.refl _ _ | apply below_alloc | apply below_drewN | apply below_drew)) v0); have p3 := cell_below hb7 (cell_below (by repeat (first | exact Below.refl _ _ | apply below_alloc | apply below_drewN | apply below_drew)) v1); have p4 := cell_below hb7 (cell_below (by repeat (first | exact Below.refl _ _ | apply below_alloc | apply below_drewN | apply below_drew)) z2); have p5 := cell_below hb7 (cell_below (by repeat (first | exact Below.refl _ _ | apply below_alloc | apply below_drewN | apply below_drew)) z3); have O7 := Lib.hid (own_below (own_below O.out (by repeat (first | exact Below.refl _ _ | apply below_alloc | apply below_drewN | apply below_drew))) hb7); have B7 := Lib.hid (below_then (w := w2) (by repeat (first | exact B.out | exact Below.refl _ _ | apply below_alloc | apply below_drewN | apply below_drew)) hb7); clear hb7)
                | (refine step_append_cells w2.heap.size rfl (.tmp 72) (.tmp 82) 31 46 (.agg #[.string ByteArray.empty, .int .i64 0, .int .i64 0, .int .i64 0]) 4 40 rfl Tryz.underlying31 info_dim rfl (by decide) (by decide) u5 i (flat encD ((dimsOf s).take i)) [.string (name ++ suf 2), .int .i64 nom, .int .i64 lo1, .int .i64 up1] rfl rfl rfl (by simp [Value.oneCell']) O7.out B7.out.size (by omega) ?_; intro v8 w8 hown8 hgr8; have q0 := grown_cell hgr8 p0 (fun k hk => by have := hk5 k hk; show k ≠ w.heap.size; omega); have q1 := grown_cell hgr8 p1 (fun k hk => by have := hk5 k hk; show k ≠ w.heap.size; omega); have q2 := grown_cell hgr8 p2 (fun k hk => by have := hk5 k hk; show k ≠ wr.heap.size; omega); have q3 := grown_cell hgr8 p3 (fun k hk => by have := hk5 k hk; show k ≠ wr.heap.size; omega); have q4 := grown_cell hgr8 p4 (fun k hk => by have := hk5 k hk; show k ≠ w3.heap.size; omega); have q5 := grown_cell hgr8 p5 (fun k hk => by have := hk5 k hk; show k ≠ w3.heap.size; omega); have B8 := Lib.hid (below_grownB B7.out B7.out.size hgr8 (fun k hk => by have := hk5 k hk; omega)); have O8 := Lib.hid hown8; clear hown8 hgr8))
            go_wp2_with fail
            go_roundw
            case rel => exact ⟨i + 1, by omega, by go_num, Lib.hid (own_cast O8.out rfl (by rw [show dimsOf s = (varsOf s).map (dimOf s) from rfl, hdim.out, flat_app]; rfl)), B8.out⟩
            case measure => simp [intOf]; omega
          · refine wp_region_held_drew (S := fun w' => w'.cell? ⟨w.heap.size, 0, none⟩ = some (.slice (some af) n c) ∧ w'.cell? ⟨wr.heap.size, 0, none⟩ = some (.int .i64 (fe : Int)) ∧ w'.cell? ⟨wr.heap.size, 1, none⟩ = some (.int .i64 3) ∧ w'.cell? (af.add (fe * 6)) = some (.string name)) (by kernel_rfl) ⟨c0, v0, v1, y0⟩ (fun hHeld => ?_)
            (refine wpAnyH_take (i := 0) (v := ?_) rfl (by kernel_rfl) (by kernel_rfl) (by kernel_rfl) (fun _ _ _ h => h) (Or.inl ⟨by rfl, ?_⟩) (by assumption) ?_; rotate_left 1; (focus (intro w hSw; (try dsimp only at hSw); (try simp only [List.getElem_toArray, List.getElem_cons_zero, List.getElem_cons_succ]); go_simp; (try with_reducible rfl))); (try simp only [Act.put, List.setIfInBounds_toArray, List.set_cons_zero, List.set_cons_succ, List.getElem_toArray, List.getElem_cons_zero, List.getElem_cons_succ])); (refine wpAnyH_take (i := 1) (v := ?_) rfl (by kernel_rfl) (by kernel_rfl) (by kernel_rfl) (fun _ _ _ h => h) (Or.inl ⟨by rfl, ?_⟩) (by assumption) ?_; rotate_left 1; (focus (intro w hSw; (try dsimp only at hSw); (try simp only [List.getElem_toArray, List.getElem_cons_zero, List.getElem_cons_succ]); go_simp; (try with_reducible rfl))); (try simp only [Act.put, List.setIfInBounds_toArray, List.set_cons_zero, List.set_cons_succ, List.getElem_toArray, List.getElem_cons_zero, List.getElem_cons_succ])); (refine wpAnyH_take (i := 2) (v := ?_) rfl (by kernel_rfl) (by kernel_rfl) (by kernel_rfl) (fun _ _ _ h => h) (Or.inl ⟨by rfl, ?_⟩) (by assumption) ?_; rotate_left 1; (focus (intro w hSw; (try dsimp only at hSw); (try simp only [List.getElem_toArray, List.getElem_cons_zero, List.getElem_cons_succ]); go_simp; (try with_reducible rfl))); (try simp only [Act.put, List.setIfInBounds_toArray, List.set_cons_zero, List.set_cons_succ, List.getElem_toArray, List.getElem_cons_zero, List.getElem_cons_succ])); (refine wpAnyH_take (i := 3) (v := ?_) rfl (by kernel_rfl) (by kernel_rfl) (by kernel_rfl) (fun _ _ _ h => h) (Or.inl ⟨by rfl, ?_⟩) (by assumption) ?_; rotate_left 1; (focus (intro w hSw; (try dsimp only at hSw); (try simp only [List.getElem_toArray, List.getElem_cons_zero, List.getElem_cons_succ]); go_simp; (try with_reducible rfl))); (try simp only [Act.put, List.setIfInBounds_toArray, List.set_cons_zero, List.set_cons_succ, List.getElem_toArray, List.getElem_cons_zero, List.getElem_cons_succ])); (refine wpAnyH_take (i := 4) (v := ?_) rfl (by kernel_rfl) (by kernel_rfl) (by kernel_rfl) (fun _ _ _ h => h) (Or.inl ⟨by rfl, ?_⟩) (by assumption) ?_; rotate_left 1; (focus (intro w hSw; (try dsimp only at hSw); (try simp only [List.getElem_toArray, List.getElem_cons_zero, List.getElem_cons_succ]); go_simp; (try with_reducible rfl))); (try simp only [Act.put, List.setIfInBounds_toArray, List.set_cons_zero, List.set_cons_succ, List.getElem_toArray, List.getElem_cons_zero, List.getElem_cons_succ])); (refine wpAnyH_take (i := 5) (v := ?_) rfl (by kernel_rfl) (by kernel_rfl) (by kernel_rfl) (fun _ _ _ h => h) (Or.inl ⟨by rfl, ?_⟩) (by assumption) ?_; rotate_left 1; (focus (intro w hSw; (try dsimp only at hSw); (try simp only [List.getElem_toArray, List.getElem_cons_zero, List.getElem_cons_succ]); go_simp; (try with_reducible rfl))); (try simp only [Act.put, List.setIfInBounds_toArray, List.set_cons_zero, List.set_cons_succ, List.getElem_toArray, List.getElem_cons_zero, List.getElem_cons_succ])); (refine wpAnyH_take (i := 6) (v := ?_) rfl (by kernel_rfl) (by kernel_rfl) (by kernel_rfl) (fun _ _ _ h => h) (Or.inl ⟨by rfl, ?_⟩) (by assumption) ?_; rotate_left 1; (focus (intro w hSw; (try dsimp only at hSw); (try simp only [List.getElem_toArray, List.getElem_cons_zero, List.getElem_cons_succ]); go_simp; (try with_reducible rfl))); (try simp only [Act.put, List.setIfInBounds_toArray, List.set_cons_zero, List.set_cons_succ, List.getElem_toArray, List.getElem_cons_zero, List.getElem_cons_succ])); (refine wpAnyH_take (i := 8) (v := ?_) rfl (by kernel_rfl) (by kernel_rfl) (by kernel_rfl) (fun _ _ _ h => h) (Or.inl ⟨by rfl, ?_⟩) (by assumption) ?_; rotate_left 1; (focus (intro w hSw; (try dsimp only at hSw); (try simp only [List.getElem_toArray, List.getElem_cons_zero, List.getElem_cons_succ]); go_simp; (try with_reducible rfl))); (try simp only [Act.put, List.setIfInBounds_toArray, List.set_cons_zero, List.set_cons_succ, List.getElem_toArray, List.getElem_cons_zero, List.getElem_cons_succ])); (refine wpAnyH_take (i := 9) (v := ?_) rfl (by kernel_rfl) (by kernel_rfl) (by kernel_rfl) (fun _ _ _ h => h) (Or.inl ⟨by rfl, ?_⟩) (by assumption) ?_; rotate_left 1; (focus (intro w hSw; (try dsimp only at hSw); (try simp only [List.getElem_toArray, List.getElem_cons_zero, List.getElem_cons_succ]); go_simp; (try with_reducible rfl))); (try simp only [Act.put, List.setIfInBounds_toArray, List.set_cons_zero, List.set_cons_succ, List.getElem_toArray, List.getElem_cons_zero, List.getElem_cons_succ]))
            (refine wpAnyH_ready (rs := [7]) (by kernel_rfl) (by simp) ?_; refine AllReadyH.cons rfl (fun K hK => ?_) AllReadyH.nil; (try simp only [List.getElem_toArray, List.getElem_cons_zero, List.getElem_cons_succ]))
            go_simp
            (refine hK.out _ _ ?_ (fun hHeld => ?_); (focus (exact ⟨cell_below (by repeat (first | exact Below.refl _ _ | apply below_alloc | apply below_drewN | apply below_drew)) c0, cell_below (by repeat (first | exact Below.refl _ _ | apply below_alloc | apply below_drewN | apply below_drew)) v0, cell_below (by repeat (first | exact Below.refl _ _ | apply below_alloc | apply below_drewN | apply below_drew)) v1, cell_below (by repeat (first | exact Below.refl _ _ | apply below_alloc | apply below_drewN | apply below_drew)) y0⟩)); clear hK K; (try simp only [Act.put, List.setIfInBounds_toArray, List.set_cons_zero, List.set_cons_succ, List.getElem_toArray, List.getElem_cons_zero, List.getElem_cons_succ]))
            (refine wpAnyH_take (i := 10) (v := ?_) rfl (by kernel_rfl) (by kernel_rfl) (by kernel_rfl) (fun _ _ _ h => h) (Or.inl ⟨by rfl, ?_⟩) (by assumption) ?_; rotate_left 1; (focus (intro w hSw; (try dsimp only at hSw); (try simp only [List.getElem_toArray, List.getElem_cons_zero, List.getElem_cons_succ]); go_simp; (try with_reducible rfl))); (try simp only [Act.put, List.setIfInBounds_toArray, List.set_cons_zero, List.set_cons_succ, List.getElem_toArray, List.getElem_cons_zero, List.getElem_cons_succ]))
            (refine wpAnyH_ready (rs := [11]) (by kernel_rfl) (by simp) ?_; refine AllReadyH.cons rfl (fun K hK => ?_) AllReadyH.nil; (try simp only [List.getElem_toArray, List.getElem_cons_zero, List.getElem_cons_succ]))
            go_simp
            (refine hK.out _ _ ?_ (fun hHeld => ?_); (focus (exact ⟨cell_below (by repeat (first | exact Below.refl _ _ | apply below_alloc | apply below_drewN | apply below_drew)) c0, cell_below (by repeat (first | exact Below.refl _ _ | apply below_alloc | apply below_drewN | apply below_drew)) v0, cell_below (by repeat (first | exact Below.refl _ _ | apply below_alloc | apply below_drewN | apply below_drew)) v1, cell_below (by repeat (first | exact Below.refl _ _ | apply below_alloc | apply below_drewN | apply below_drew)) y0⟩)); clear hK K; (try simp only [Act.put, List.setIfInBounds_toArray, List.set_cons_zero, List.set_cons_succ, List.getElem_toArray, List.getElem_cons_zero, List.getElem_cons_succ]))
            (refine wpAnyH_take (i := 12) (v := ?_) rfl (by kernel_rfl) (by kernel_rfl) (by kernel_rfl) (fun _ _ _ h => h) (Or.inl ⟨by rfl, ?_⟩) (by assumption) ?_; rotate_left 1; (focus (intro w hSw; (try dsimp only at hSw); (try simp only [List.getElem_toArray, List.getElem_cons_zero, List.getElem_cons_succ]); go_simp; (try with_reducible rfl))); (try simp only [Act.put, List.setIfInBounds_toArray, List.set_cons_zero, List.set_cons_succ, List.getElem_toArray, List.getElem_cons_zero, List.getElem_cons_succ])); (refine wpAnyH_take (i := 13) (v := ?_) rfl (by kernel_rfl) (by kernel_rfl) (by kernel_rfl) (fun _ _ _ h => h) (Or.inl ⟨by rfl, ?_⟩) (by assumption) ?_; rotate_left 1; (focus (intro w hSw; (try dsimp only at hSw); (try simp only [List.getElem_toArray, List.getElem_cons_zero, List.getElem_cons_succ]); go_simp; (try with_reducible rfl))); (try simp only [Act.put, List.setIfInBounds_toArray, List.set_cons_zero, List.set_cons_succ, List.getElem_toArray, List.getElem_cons_zero, List.getElem_cons_succ]))
            refine wpAnyH_done (by kernel_rfl) ?_ _
            go_wp2_with fail
            go_region_held3 (fun w' => w'.cell? ⟨w.heap.size, 0, none⟩ = some (.slice (some af) n c) ∧ w'.cell? ⟨w.heap.size, 1, none⟩ = some (.slice Bz m d) ∧ w'.cell? ⟨wr.heap.size, 0, none⟩ = some (.int .i64 (fe : Int)) ∧ w'.cell? ⟨wr.heap.size, 1, none⟩ = some (.int .i64 3) ∧ w'.cell? ⟨w3.heap.size, 2, none⟩ = some (.int .i64 lo1) ∧ w'.cell? ⟨w3.heap.size, 3, none⟩ = some (.int .i64 up1))
              (first
                | exact ⟨q0, q1, q2, q3, q4, q5⟩
                | exact ⟨p0, p1, p2, p3, p4, p5⟩
                | (refine ⟨cell_below ?_ p0, cell_below ?_ p1, cell_below ?_ p2, cell_below ?_ p3, cell_below ?_ p4, cell_below ?_ p5⟩ <;> exact (by repeat (first | exact Below.refl _ _ | apply below_alloc | apply below_drewN | apply below_drew)))
                | (refine ⟨cell_below ?_ c0, cell_below ?_ c1, cell_below ?_ v0, cell_below ?_ v1, cell_below ?_ z2, cell_below ?_ z3⟩ <;> exact (by repeat (first | exact Below.refl _ _ | apply below_alloc | apply below_drewN | apply below_drew))))
              (first
                | (go_at_call 31; refine (HN1.out _ (by repeat (first | exact B.out | exact Below.refl _ _ | apply below_alloc | apply below_drewN | apply below_drew))).mono ?_; rintro e w7 ⟨rfl, hb7⟩; have p0 := cell_below hb7 (cell_below (by repeat (first | exact Below.refl _ _ | apply below_alloc | apply below_drewN | apply below_drew)) c0); have p1 := cell_below hb7 (cell_below (by repeat (first | exact Below.refl _ _ | apply below_alloc | apply below_drewN | apply below_drew)) c1); have p2 := cell_below hb7 (cell_below (by repeat (first | exact Below.refl _ _ | apply below_alloc | apply below_drewN | apply below_drew)) v0); have p3 := cell_below hb7 (cell_below (by repeat (first | exact Below.refl _ _ | apply below_alloc | apply below_drewN | apply below_drew)) v1); have p4 := cell_below hb7 (cell_below (by repeat (first | exact Below.refl _ _ | apply below_alloc | apply below_drewN | apply below_drew)) z2); have p5 := cell_below hb7 (cell_below (by repeat (first | exact Below.refl _ _ | apply below_alloc | apply below_drewN | apply below_drew)) z3); have O7 := Lib.hid (own_below (own_below O.out (by repeat (first | exact Below.refl _ _ | apply below_alloc | apply below_drewN | apply below_drew))) hb7); have B7 := Lib.hid (below_then (w := w2) (by repeat (first | exact B.out | exact Below.refl _ _ | apply below_alloc | apply below_drewN | apply below_drew)) hb7); clear hb7)
                | (refine step_append_cells w2.heap.size rfl (.tmp 72) (.tmp 82) 31 46 (.agg #[.string ByteArray.empty, .int .i64 0, .int .i64 0, .int .i64 0]) 4 40 rfl Tryz.underlying31 info_dim rfl (by decide) (by decide) u5 i (flat encD ((dimsOf s).take i)) [.string (name ++ suf 3), .int .i64 nom, .int .i64 lo1, .int .i64 up1] rfl rfl rfl (by simp [Value.oneCell']) O7.out B7.out.size (by omega) ?_; intro v8 w8 hown8 hgr8; have q0 := grown_cell hgr8 p0 (fun k hk => by have := hk5 k hk; show k ≠ w.heap.size; omega); have q1 := grown_cell hgr8 p1 (fun k hk => by have := hk5 k hk; show k ≠ w.heap.size; omega); have q2 := grown_cell hgr8 p2 (fun k hk => by have := hk5 k hk; show k ≠ wr.heap.size; omega); have q3 := grown_cell hgr8 p3 (fun k hk => by have := hk5 k hk; show k ≠ wr.heap.size; omega); have q4 := grown_cell hgr8 p4 (fun k hk => by have := hk5 k hk; show k ≠ w3.heap.size; omega); have q5 := grown_cell hgr8 p5 (fun k hk => by have := hk5 k hk; show k ≠ w3.heap.size; omega); have B8 := Lib.hid (below_grownB B7.out B7.out.size hgr8 (fun k hk => by have := hk5 k hk; omega)); have O8 := Lib.hid hown8; clear hown8 hgr8))
            go_wp2_with fail
            go_roundw
            case rel => exact ⟨i + 1, by omega, by go_num, Lib.hid (own_cast O8.out rfl (by rw [show dimsOf s = (varsOf s).map (dimOf s) from rfl, hdim.out, flat_app]; rfl)), B8.out⟩
            case measure => simp [intOf]; omega
      · obtain rfl : i = n' := by omega
        obtain ⟨A9, c9, rfl, hc9⟩ := own_slice hown.out
        go_wp2_with fail
        go_ret2
        have e9 : (dimsOf s).take i = dimsOf s := List.take_of_length_le (by unfold dimsOf; rw [List.length_map, hnl.out]; exact Nat.le_refl _)
        have h9 := hown.out
        rw [e9] at h9
        exact ⟨A9, _, c9, rfl, ⟨by unfold dimsOf; rw [List.length_map, hnl.out], hc9, Reads.of_own h9⟩, below_then B2.out hb⟩
  · rw [if_neg hE]
    generalize checkE s = E at *
    clear hf hz
    have hEd : (E != 0) = true := by simpa using hE
    go_enter Tryz.func8, Tryz.ntmps8
    go_wp2_with fail
    refine (H.out _ (by repeat (first | exact Below.refl _ _ | with_reducible assumption | apply below_alloc | apply below_drewN | apply below_drew | refine below_set ?_ (by simp; try omega) _ | refine below_then ?_ (by with_reducible assumption)))).mono ?_
    rintro e w1 ⟨rfl, hb⟩
    have B1 := Lib.hid (below_then (w := w) (by repeat (first | exact Below.refl _ _ | with_reducible assumption | apply below_alloc | apply below_drewN | apply below_drew | refine below_set ?_ (by simp; try omega) _ | refine below_then ?_ (by with_reducible assumption))) hb)
    clear hb H
    go_wp2_with fail
    go_ret2
    exact ⟨none, 0, 0, rfl, ⟨rfl, Nat.le_refl _, Reads.nil⟩, B1.out⟩
end Go.Proofs.YtpifbaiibhaklaaGreatDoor
