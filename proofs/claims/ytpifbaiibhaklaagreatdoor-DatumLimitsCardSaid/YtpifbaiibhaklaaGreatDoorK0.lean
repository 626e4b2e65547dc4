/- The model's check. (Printed by gend6.py.)
DatumLimits: the schemes that it makes.
DatumLimits: the walk.
DatumLimits: from the walk to the row.
DatumLimits: the card. -/
import Derived.Test.YtpifbaiibhaklaaGreatDoorL4
import Derived.Test.YtpifbaiibhaklaaGreatDoorL9
import Derived.Laws.StructEq
import Derived.Maps.Own
import Derived.Deep.RegionLaw
import Derived.Orders
import Derived.RegionTactic
import Derived.Deep.DeepCutAuto
import Derived.Test.YtpifbaiibhaklaaGreatDoorCards
import Derived.Test.YtpifbaiibhaklaaGreatDoorTie
import Derived.ProofKit
import Derived.OpenShut
import Derived.Below
import Derived.ChangeSame
import Derived.Deep.DeepHandedRow
import Derived.Lib.LaidTab
namespace Go.Proofs.YtpifbaiibhaklaaGreatDoor
open Go.RowKit Big
set_option maxHeartbeats 40000000
set_option linter.unusedVariables false
set_option linter.unusedSimpArgs false

theorem zone_first {zs : List Zon} {j : Nat} (hj : j < zs.length) : (idxI (zoneP (zs.getD j zd).feature (zs.getD j zd).kind) zs != (j : Int)) = (zs.take j).any (dupP (zs.getD j zd)) := by
  have hpe : zoneP (zs.getD j zd).feature (zs.getD j zd).kind = dupP (zs.getD j zd) := by
    funext z
    unfold zoneP dupP
    exact Bool.and_comm _ _
  rw [hpe]
  have hp : dupP (zs.getD j zd) (zs.getD j zd) = true := by unfold dupP; simp
  generalize hq : dupP (zs.getD j zd) = p at hp ⊢
  cases h : (zs.take j).any p with
  | false => rw [idxI_found p zs zd j hj h hp]; simp
  | true =>
    rw [bne_iff_ne]
    intro e
    obtain ⟨x, hx, hpx⟩ := List.any_eq_true.1 h
    obtain ⟨k, hk, rfl⟩ := List.mem_iff_getElem.1 hx
    have hk2 : k < j := by simp at hk; omega
    have hany : zs.any p = true := List.any_eq_true.2 ⟨_, List.mem_of_mem_take hx, hpx⟩
    unfold idxI at e
    rw [if_pos hany] at e
    have e : zs.findIdx p = j := by omega
    have := List.not_of_lt_findIdx (p := p) (xs := zs) (i := k) (by omega)
    rw [List.getElem_take] at hpx
    simp [hpx] at this
theorem mze_0 (kind feature lower upper : Int) (bonus slot dup : Bool) (n : Nat) (a1 : kind < 1) : zoneErr1 ⟨kind, feature, lower, upper, bonus⟩ n slot dup = 12 := by
  simp only [zoneErr1] <;> (repeat' split) <;> first | rfl | omega | simp_all
theorem mze_1 (kind feature lower upper : Int) (bonus slot dup : Bool) (n : Nat) (a1 : ¬ kind < 1) (a2 : 3 < kind) : zoneErr1 ⟨kind, feature, lower, upper, bonus⟩ n slot dup = 12 := by
  simp only [zoneErr1] <;> (repeat' split) <;> first | rfl | omega | simp_all
theorem mze_2 (kind feature lower upper : Int) (bonus slot dup : Bool) (n : Nat) (a1 : ¬ kind < 1) (a2 : ¬ 3 < kind) (a3 : feature < 0) : zoneErr1 ⟨kind, feature, lower, upper, bonus⟩ n slot dup = 10 := by
  simp only [zoneErr1] <;> (repeat' split) <;> first | rfl | omega | simp_all
theorem mze_3 (kind feature lower upper : Int) (bonus slot dup : Bool) (n : Nat) (a1 : ¬ kind < 1) (a2 : ¬ 3 < kind) (a3 : ¬ feature < 0) (a4 : (n : Int) ≤ feature) : zoneErr1 ⟨kind, feature, lower, upper, bonus⟩ n slot dup = 10 := by
  simp only [zoneErr1] <;> (repeat' split) <;> first | rfl | omega | simp_all
theorem mze_4 (kind feature lower upper : Int) (bonus slot dup : Bool) (n : Nat) (a1 : ¬ 1 < 1) (a2 : ¬ 3 < 1) (a3 : ¬ feature < 0) (a4 : ¬ (n : Int) ≤ feature) (e3 : farB lower = false) (e4 : farB upper = false) (b1 : upper < lower) : zoneErr1 ⟨1, feature, lower, upper, false⟩ n false dup = 8 := by
  simp only [zoneErr1, e3, e4] <;> (repeat' split) <;> first | rfl | omega | simp_all
theorem mze_5 (kind feature lower upper : Int) (bonus slot dup : Bool) (n : Nat) (a1 : ¬ 1 < 1) (a2 : ¬ 3 < 1) (a3 : ¬ feature < 0) (a4 : ¬ (n : Int) ≤ feature) (e3 : farB lower = false) (e4 : farB upper = false) (b1 : ¬ upper < lower) : zoneErr1 ⟨1, feature, lower, upper, false⟩ n false false = 0 := by
  simp only [zoneErr1, e3, e4] <;> (repeat' split) <;> first | rfl | omega | simp_all
theorem mze_6 (kind feature lower upper : Int) (bonus slot dup : Bool) (n : Nat) (a1 : ¬ 1 < 1) (a2 : ¬ 3 < 1) (a3 : ¬ feature < 0) (a4 : ¬ (n : Int) ≤ feature) (e3 : farB lower = false) (e4 : farB upper = false) (b1 : ¬ upper < lower) : zoneErr1 ⟨1, feature, lower, upper, false⟩ n false true = 9 := by
  simp only [zoneErr1, e3, e4] <;> (repeat' split) <;> first | rfl | omega | simp_all
theorem mze_7 (kind feature lower upper : Int) (bonus slot dup : Bool) (n : Nat) (a1 : ¬ 1 < 1) (a2 : ¬ 3 < 1) (a3 : ¬ feature < 0) (a4 : ¬ (n : Int) ≤ feature) (e3 : farB lower = false) (e4 : farB upper = true) : zoneErr1 ⟨1, feature, lower, upper, false⟩ n false dup = 2 := by
  simp only [zoneErr1, e3, e4] <;> (repeat' split) <;> first | rfl | omega | simp_all
theorem mze_8 (kind feature lower upper : Int) (bonus slot dup : Bool) (n : Nat) (a1 : ¬ 1 < 1) (a2 : ¬ 3 < 1) (a3 : ¬ feature < 0) (a4 : ¬ (n : Int) ≤ feature) (e3 : farB lower = true) : zoneErr1 ⟨1, feature, lower, upper, false⟩ n false dup = 2 := by
  simp only [zoneErr1, e3] <;> (repeat' split) <;> first | rfl | omega | simp_all
theorem mze_9 (kind feature lower upper : Int) (bonus slot dup : Bool) (n : Nat) (a1 : ¬ 1 < 1) (a2 : ¬ 3 < 1) (a3 : ¬ feature < 0) (a4 : ¬ (n : Int) ≤ feature) : zoneErr1 ⟨1, feature, lower, upper, true⟩ n false dup = 3 := by
  simp only [zoneErr1] <;> (repeat' split) <;> first | rfl | omega | simp_all
theorem mze_10 (kind feature lower upper : Int) (bonus slot dup : Bool) (n : Nat) (a1 : ¬ 1 < 1) (a2 : ¬ 3 < 1) (a3 : ¬ feature < 0) (a4 : ¬ (n : Int) ≤ feature) (e3 : farB lower = false) (e4 : farB upper = false) (b1 : upper < lower) : zoneErr1 ⟨1, feature, lower, upper, false⟩ n true dup = 8 := by
  simp only [zoneErr1, e3, e4] <;> (repeat' split) <;> first | rfl | omega | simp_all
theorem mze_11 (kind feature lower upper : Int) (bonus slot dup : Bool) (n : Nat) (a1 : ¬ 1 < 1) (a2 : ¬ 3 < 1) (a3 : ¬ feature < 0) (a4 : ¬ (n : Int) ≤ feature) (e3 : farB lower = false) (e4 : farB upper = false) (b1 : ¬ upper < lower) : zoneErr1 ⟨1, feature, lower, upper, false⟩ n true false = 0 := by
  simp only [zoneErr1, e3, e4] <;> (repeat' split) <;> first | rfl | omega | simp_all
theorem mze_12 (kind feature lower upper : Int) (bonus slot dup : Bool) (n : Nat) (a1 : ¬ 1 < 1) (a2 : ¬ 3 < 1) (a3 : ¬ feature < 0) (a4 : ¬ (n : Int) ≤ feature) (e3 : farB lower = false) (e4 : farB upper = false) (b1 : ¬ upper < lower) : zoneErr1 ⟨1, feature, lower, upper, false⟩ n true true = 9 := by
  simp only [zoneErr1, e3, e4] <;> (repeat' split) <;> first | rfl | omega | simp_all
theorem mze_13 (kind feature lower upper : Int) (bonus slot dup : Bool) (n : Nat) (a1 : ¬ 1 < 1) (a2 : ¬ 3 < 1) (a3 : ¬ feature < 0) (a4 : ¬ (n : Int) ≤ feature) (e3 : farB lower = false) (e4 : farB upper = true) : zoneErr1 ⟨1, feature, lower, upper, false⟩ n true dup = 2 := by
  simp only [zoneErr1, e3, e4] <;> (repeat' split) <;> first | rfl | omega | simp_all
theorem mze_14 (kind feature lower upper : Int) (bonus slot dup : Bool) (n : Nat) (a1 : ¬ 1 < 1) (a2 : ¬ 3 < 1) (a3 : ¬ feature < 0) (a4 : ¬ (n : Int) ≤ feature) (e3 : farB lower = true) : zoneErr1 ⟨1, feature, lower, upper, false⟩ n true dup = 2 := by
  simp only [zoneErr1, e3] <;> (repeat' split) <;> first | rfl | omega | simp_all
theorem mze_15 (kind feature lower upper : Int) (bonus slot dup : Bool) (n : Nat) (a1 : ¬ 1 < 1) (a2 : ¬ 3 < 1) (a3 : ¬ feature < 0) (a4 : ¬ (n : Int) ≤ feature) (e3 : farB lower = false) (e4 : farB upper = false) (b1 : upper < lower) : zoneErr1 ⟨1, feature, lower, upper, true⟩ n true dup = 8 := by
  simp only [zoneErr1, e3, e4] <;> (repeat' split) <;> first | rfl | omega | simp_all
theorem mze_16 (kind feature lower upper : Int) (bonus slot dup : Bool) (n : Nat) (a1 : ¬ 1 < 1) (a2 : ¬ 3 < 1) (a3 : ¬ feature < 0) (a4 : ¬ (n : Int) ≤ feature) (e3 : farB lower = false) (e4 : farB upper = false) (b1 : ¬ upper < lower) : zoneErr1 ⟨1, feature, lower, upper, true⟩ n true false = 0 := by
  simp only [zoneErr1, e3, e4] <;> (repeat' split) <;> first | rfl | omega | simp_all
theorem mze_17 (kind feature lower upper : Int) (bonus slot dup : Bool) (n : Nat) (a1 : ¬ 1 < 1) (a2 : ¬ 3 < 1) (a3 : ¬ feature < 0) (a4 : ¬ (n : Int) ≤ feature) (e3 : farB lower = false) (e4 : farB upper = false) (b1 : ¬ upper < lower) : zoneErr1 ⟨1, feature, lower, upper, true⟩ n true true = 9 := by
  simp only [zoneErr1, e3, e4] <;> (repeat' split) <;> first | rfl | omega | simp_all
theorem mze_18 (kind feature lower upper : Int) (bonus slot dup : Bool) (n : Nat) (a1 : ¬ 1 < 1) (a2 : ¬ 3 < 1) (a3 : ¬ feature < 0) (a4 : ¬ (n : Int) ≤ feature) (e3 : farB lower = false) (e4 : farB upper = true) : zoneErr1 ⟨1, feature, lower, upper, true⟩ n true dup = 2 := by
  simp only [zoneErr1, e3, e4] <;> (repeat' split) <;> first | rfl | omega | simp_all
theorem mze_19 (kind feature lower upper : Int) (bonus slot dup : Bool) (n : Nat) (a1 : ¬ 1 < 1) (a2 : ¬ 3 < 1) (a3 : ¬ feature < 0) (a4 : ¬ (n : Int) ≤ feature) (e3 : farB lower = true) : zoneErr1 ⟨1, feature, lower, upper, true⟩ n true dup = 2 := by
  simp only [zoneErr1, e3] <;> (repeat' split) <;> first | rfl | omega | simp_all
theorem mze_20 (kind feature lower upper : Int) (bonus slot dup : Bool) (n : Nat) (a1 : ¬ 2 < 1) (a2 : ¬ 3 < 2) (a3 : ¬ feature < 0) (a4 : ¬ (n : Int) ≤ feature) : zoneErr1 ⟨2, feature, lower, upper, false⟩ n false dup = 3 := by
  simp only [zoneErr1] <;> (repeat' split) <;> first | rfl | omega | simp_all
theorem mze_21 (kind feature lower upper : Int) (bonus slot dup : Bool) (n : Nat) (a1 : ¬ 2 < 1) (a2 : ¬ 3 < 2) (a3 : ¬ feature < 0) (a4 : ¬ (n : Int) ≤ feature) : zoneErr1 ⟨2, feature, lower, upper, true⟩ n false dup = 3 := by
  simp only [zoneErr1] <;> (repeat' split) <;> first | rfl | omega | simp_all
theorem mze_22 (kind feature lower upper : Int) (bonus slot dup : Bool) (n : Nat) (a1 : ¬ 2 < 1) (a2 : ¬ 3 < 2) (a3 : ¬ feature < 0) (a4 : ¬ (n : Int) ≤ feature) (e3 : farB lower = false) (e4 : farB upper = false) (b1 : upper < lower) : zoneErr1 ⟨2, feature, lower, upper, false⟩ n true dup = 8 := by
  simp only [zoneErr1, e3, e4] <;> (repeat' split) <;> first | rfl | omega | simp_all
theorem mze_23 (kind feature lower upper : Int) (bonus slot dup : Bool) (n : Nat) (a1 : ¬ 2 < 1) (a2 : ¬ 3 < 2) (a3 : ¬ feature < 0) (a4 : ¬ (n : Int) ≤ feature) (e3 : farB lower = false) (e4 : farB upper = false) (b1 : ¬ upper < lower) : zoneErr1 ⟨2, feature, lower, upper, false⟩ n true false = 0 := by
  simp only [zoneErr1, e3, e4] <;> (repeat' split) <;> first | rfl | omega | simp_all
theorem mze_24 (kind feature lower upper : Int) (bonus slot dup : Bool) (n : Nat) (a1 : ¬ 2 < 1) (a2 : ¬ 3 < 2) (a3 : ¬ feature < 0) (a4 : ¬ (n : Int) ≤ feature) (e3 : farB lower = false) (e4 : farB upper = false) (b1 : ¬ upper < lower) : zoneErr1 ⟨2, feature, lower, upper, false⟩ n true true = 9 := by
  simp only [zoneErr1, e3, e4] <;> (repeat' split) <;> first | rfl | omega | simp_all
theorem mze_25 (kind feature lower upper : Int) (bonus slot dup : Bool) (n : Nat) (a1 : ¬ 2 < 1) (a2 : ¬ 3 < 2) (a3 : ¬ feature < 0) (a4 : ¬ (n : Int) ≤ feature) (e3 : farB lower = false) (e4 : farB upper = true) : zoneErr1 ⟨2, feature, lower, upper, false⟩ n true dup = 2 := by
  simp only [zoneErr1, e3, e4] <;> (repeat' split) <;> first | rfl | omega | simp_all
theorem mze_26 (kind feature lower upper : Int) (bonus slot dup : Bool) (n : Nat) (a1 : ¬ 2 < 1) (a2 : ¬ 3 < 2) (a3 : ¬ feature < 0) (a4 : ¬ (n : Int) ≤ feature) (e3 : farB lower = true) : zoneErr1 ⟨2, feature, lower, upper, false⟩ n true dup = 2 := by
  simp only [zoneErr1, e3] <;> (repeat' split) <;> first | rfl | omega | simp_all
theorem mze_27 (kind feature lower upper : Int) (bonus slot dup : Bool) (n : Nat) (a1 : ¬ 2 < 1) (a2 : ¬ 3 < 2) (a3 : ¬ feature < 0) (a4 : ¬ (n : Int) ≤ feature) : zoneErr1 ⟨2, feature, lower, upper, true⟩ n true dup = 3 := by
  simp only [zoneErr1] <;> (repeat' split) <;> first | rfl | omega | simp_all
theorem mze_28 (kind feature lower upper : Int) (bonus slot dup : Bool) (n : Nat) (a1 : ¬ 3 < 1) (a2 : ¬ 3 < 3) (a3 : ¬ feature < 0) (a4 : ¬ (n : Int) ≤ feature) (e3 : farB lower = false) (e4 : farB upper = false) (b1 : upper < lower) : zoneErr1 ⟨3, feature, lower, upper, false⟩ n false dup = 8 := by
  simp only [zoneErr1, e3, e4] <;> (repeat' split) <;> first | rfl | omega | simp_all
theorem mze_29 (kind feature lower upper : Int) (bonus slot dup : Bool) (n : Nat) (a1 : ¬ 3 < 1) (a2 : ¬ 3 < 3) (a3 : ¬ feature < 0) (a4 : ¬ (n : Int) ≤ feature) (e3 : farB lower = false) (e4 : farB upper = false) (b1 : ¬ upper < lower) : zoneErr1 ⟨3, feature, lower, upper, false⟩ n false false = 0 := by
  simp only [zoneErr1, e3, e4] <;> (repeat' split) <;> first | rfl | omega | simp_all
theorem mze_30 (kind feature lower upper : Int) (bonus slot dup : Bool) (n : Nat) (a1 : ¬ 3 < 1) (a2 : ¬ 3 < 3) (a3 : ¬ feature < 0) (a4 : ¬ (n : Int) ≤ feature) (e3 : farB lower = false) (e4 : farB upper = false) (b1 : ¬ upper < lower) : zoneErr1 ⟨3, feature, lower, upper, false⟩ n false true = 9 := by
  simp only [zoneErr1, e3, e4] <;> (repeat' split) <;> first | rfl | omega | simp_all
theorem mze_31 (kind feature lower upper : Int) (bonus slot dup : Bool) (n : Nat) (a1 : ¬ 3 < 1) (a2 : ¬ 3 < 3) (a3 : ¬ feature < 0) (a4 : ¬ (n : Int) ≤ feature) (e3 : farB lower = false) (e4 : farB upper = true) : zoneErr1 ⟨3, feature, lower, upper, false⟩ n false dup = 2 := by
  simp only [zoneErr1, e3, e4] <;> (repeat' split) <;> first | rfl | omega | simp_all
theorem mze_32 (kind feature lower upper : Int) (bonus slot dup : Bool) (n : Nat) (a1 : ¬ 3 < 1) (a2 : ¬ 3 < 3) (a3 : ¬ feature < 0) (a4 : ¬ (n : Int) ≤ feature) (e3 : farB lower = true) : zoneErr1 ⟨3, feature, lower, upper, false⟩ n false dup = 2 := by
  simp only [zoneErr1, e3] <;> (repeat' split) <;> first | rfl | omega | simp_all
theorem mze_33 (kind feature lower upper : Int) (bonus slot dup : Bool) (n : Nat) (a1 : ¬ 3 < 1) (a2 : ¬ 3 < 3) (a3 : ¬ feature < 0) (a4 : ¬ (n : Int) ≤ feature) : zoneErr1 ⟨3, feature, lower, upper, true⟩ n false dup = 3 := by
  simp only [zoneErr1] <;> (repeat' split) <;> first | rfl | omega | simp_all
theorem mze_34 (kind feature lower upper : Int) (bonus slot dup : Bool) (n : Nat) (a1 : ¬ 3 < 1) (a2 : ¬ 3 < 3) (a3 : ¬ feature < 0) (a4 : ¬ (n : Int) ≤ feature) : zoneErr1 ⟨3, feature, lower, upper, false⟩ n true dup = 3 := by
  simp only [zoneErr1] <;> (repeat' split) <;> first | rfl | omega | simp_all
theorem mze_35 (kind feature lower upper : Int) (bonus slot dup : Bool) (n : Nat) (a1 : ¬ 3 < 1) (a2 : ¬ 3 < 3) (a3 : ¬ feature < 0) (a4 : ¬ (n : Int) ≤ feature) : zoneErr1 ⟨3, feature, lower, upper, true⟩ n true dup = 3 := by
  simp only [zoneErr1] <;> (repeat' split) <;> first | rfl | omega | simp_all

set_option maxRecDepth 100000 in
theorem mcheck_any (base : Nat) (A Bz : Option Addr) (n c m d : Nat) (fs : List Feat) (zs : List Zon) (w : World) (hf : IsFs base 28 w A n c fs) (hzs : IsZs base 30 w Bz m d zs) :
    Calls Tryz.prog 9 #[.agg #[.slice A n c, .slice Bz m d]] w fun e w' => e = .returned (.int .i64 (checkE ⟨fs, zs⟩)) ∧ Below w.heap.size w w' := by
  unfold checkE
  dsimp only
  rw [hf.len, hzs.len]
  by_cases h1 : 16 < n
  · have h1d : decide (16 < n) = true := decide_eq_true h1
    have h1e : decide ((16 : Int) < (n : Int)) = true := decide_eq_true (by omega)
    rw [if_pos h1]
    go_enter Tryz.func9, Tryz.ntmps9
    go_wp2_with fail
    go_ret
    exact ⟨rfl, (by repeat (first | exact Below.refl _ _ | with_reducible assumption | apply below_alloc | apply below_drewN | apply below_drew | refine below_set ?_ (by simp; try omega) _ | refine below_then ?_ (by with_reducible assumption)))⟩
  · have h1d : decide (16 < n) = false := decide_eq_false h1
    have h1e : decide ((16 : Int) < (n : Int)) = false := decide_eq_false (by omega)
    rw [if_neg h1]
    by_cases h2 : 32 < m
    · have h2d : decide (32 < m) = true := decide_eq_true h2
      have h2e : decide ((32 : Int) < (m : Int)) = true := decide_eq_true (by omega)
      rw [if_pos h2]
      go_enter Tryz.func9, Tryz.ntmps9
      go_wp2_with fail
      go_ret
      exact ⟨rfl, (by repeat (first | exact Below.refl _ _ | with_reducible assumption | apply below_alloc | apply below_drewN | apply below_drew | refine below_set ?_ (by simp; try omega) _ | refine below_then ?_ (by with_reducible assumption)))⟩
    · have h2d : decide (32 < m) = false := decide_eq_false h2
      have h2e : decide ((32 : Int) < (m : Int)) = false := decide_eq_false (by omega)
      rw [if_neg h2]
      have H1 := Lib.hid (fun i (hi : i < n) W (hW : Below w.heap.size w W) => mfeature_any base A Bz n c m d fs i W (hf.below hW) hi (by omega))
      have S1 := Lib.hid (fun i (hi : i < n) => firstErr_step (featErr fs) n i hi)
      have S2 := Lib.hid (fun i (hi : i < m) => firstErr_step (zoneErr fs zs) m i hi)
      generalize featErr fs = fe at H1 S1 ⊢
      obtain ⟨F, hF⟩ : ∃ F, F = firstErr fe 0 n := ⟨_, rfl⟩
      obtain ⟨G, hG⟩ : ∃ G, G = firstErr (zoneErr fs zs) 0 m := ⟨_, rfl⟩
      rw [← hF, ← hG]
      obtain ⟨R, hR⟩ : ∃ R, R = if F ≠ 0 then F else G := ⟨_, rfl⟩
      rw [← hR]
      have HZ3 := Lib.hid hF
      have HZ4 := Lib.hid hG
      have HR := Lib.hid hR
      clear hF hG hR
      go_enter Tryz.func9, Tryz.ntmps9
      go_wp2_with fail
      go_loopw [21] (fun q wr => ∃ (i : Nat), i ≤ n ∧ q = .int .i64 (i : Int) ∧ Hid (F = firstErr fe i (n - i)) ∧ Below w.heap.size w wr ∧ wr.cell? ⟨w.heap.size, 0, none⟩ = some (.slice A n c) ∧ wr.cell? ⟨w.heap.size, 1, none⟩ = some (.slice Bz m d)) (fun q _ => n - (intOf q).toNat)
      case atStart => exact ⟨0, Nat.zero_le _, rfl, HZ3, (by repeat (first | exact Below.refl _ _ | with_reducible assumption | apply below_alloc | apply below_drewN | apply below_drew | refine below_set ?_ (by simp; try omega) _ | refine below_then ?_ (by with_reducible assumption))), by simp [go_sem], by simp [go_sem]⟩
      case round =>
        obtain ⟨i, hi, rfl, hF, hb, c0, c1⟩ := hrel
        have Hb := Lib.hid hb
        by_cases hlt : i < n
        · clear hb
          go_wp2_with fail
          refine (H1.out i hlt _ Hb.out).mono ?_
          rintro e w1 ⟨rfl, hb1⟩
          have st := S1.out i hlt
          rw [← hF.out] at st
          have d0 := keptc hb1 _ _ _ c0
          have d1 := keptc hb1 _ _ _ c1
          have B1 := Lib.hid (below_then Hb.out hb1)
          clear hb1
          generalize fe i = v at st
          by_cases hv : v = 0
          · subst hv
            have st := Lib.hid st
            go_wp2_with fail
            go_roundw
            case rel => exact ⟨i + 1, by omega, by go_num, Lib.hid (by have := st.out; rwa [if_neg (by simp)] at this), B1.out, d0, d1⟩
            case measure => simp [intOf]; omega
          · have hv2 : (v != 0) = true := by simpa using hv
            have hv3 : (v == 0) = false := by simpa using hv
            rw [if_pos hv] at st
            have st := Lib.hid st
            have hRv : R = v := by rw [HR.out, st.out, if_pos hv]
            go_wp2_with fail
            go_ret
            exact ⟨by first | rfl | (rw [hRv]; rfl), B1.out⟩
        · obtain rfl : n = i := by omega
          have F0 : F = 0 := by have := hF.out; rwa [Nat.sub_self] at this
          have R0 : R = G := by rw [HR.out, F0, if_neg (by simp)]
          subst R0
          clear hb hF S1 H1 HZ3 HR F0
          go_wp2_with fail
          go_loopw [34] (fun q wr => ∃ (j : Nat), j ≤ m ∧ q = .int .i64 (j : Int) ∧ Hid (R = firstErr (zoneErr fs zs) j (m - j)) ∧ Below w.heap.size w wr ∧ wr.cell? ⟨w.heap.size, 0, none⟩ = some (.slice A n c) ∧ wr.cell? ⟨w.heap.size, 1, none⟩ = some (.slice Bz m d)) (fun q _ => m - (intOf q).toNat)
          case atStart => exact ⟨0, Nat.zero_le _, rfl, HZ4, Hb.out, c0, c1⟩
          case round =>
            obtain ⟨j, hj, rfl, hF, hb, c0, c1⟩ := hrel
            by_cases hlt : j < m
            · obtain ⟨ad, ea, z0, z1, z2, z3, z4⟩ := IsZs.cells (hzs.below hb) j hlt
              subst ea
              have hze := S2.out j hlt
              rw [← hF.out] at hze
              obtain ⟨tl, htl⟩ : ∃ tl, tl = firstErr (zoneErr fs zs) (j + 1) (m - (j + 1)) := ⟨_, rfl⟩
              rw [← htl] at hze
              have htl' := Lib.hid htl
              clear htl
              have hix := zone_first (zs := zs) (j := j) (by rw [hzs.len]; exact hlt)
              have H3 := Lib.hid (fun W (hW : Below wr.heap.size wr W) => mzone_any base A (some ad) n c m d zs (zs.getD j zd).feature (zs.getD j zd).kind W (hzs.below (below_then hb hW)) (by omega))
              generalize idxI (zoneP (zs.getD j zd).feature (zs.getD j zd).kind) zs = ix at H3 hix
              unfold zoneErr at hze
              rw [hf.len] at hze
              generalize hsl : ((fs.getD (zs.getD j zd).feature.toNat fd).kind == 2) = slot at hze
              generalize (zs.take j).any (dupP (zs.getD j zd)) = dup at hix hze
              generalize zs.getD j zd = f at z0 z1 z2 z3 z4 hze H3 hsl
              obtain ⟨kind, feature, lower, upper, bonus⟩ := f
              dsimp only at z0 z1 z2 z3 z4 H3 hsl
              have H5 := Lib.hid (fun W => mfar_any lower W)
              have H6 := Lib.hid (fun W => mfar_any upper W)
              have hlt1 := World.block_lt_of_cell? wr _ z0
              have hne1 : ¬ (ad.add (j * 5)).block = wr.heap.size := Nat.ne_of_lt hlt1
              have hw1 : w.heap.size < wr.heap.size := World.block_lt_of_cell? wr _ c0
              have hw2 : ¬ w.heap.size = wr.heap.size := by omega
              have i0 : (0 : Int) ≤ (j : Int) := by omega
              have i1 : (j : Int) < (m : Int) := by omega
              have hze' := Lib.hid hze
              clear hze
              have hze := hze'
              clear hze'
              have hix' := Lib.hid hix
              clear hix
              have hix := hix'
              clear hix' hF
              generalize e3 : farB lower = f1 at H5
              generalize e4 : farB upper = f2 at H6
              by_cases a1 : kind < 1
              · have a1d : decide (kind < 1) = true := decide_eq_true a1
                have hv : zoneErr1 ⟨kind, feature, lower, upper, bonus⟩ n slot dup = 12 := mze_0 _ _ _ _ _ _ _ _ (by omega)
                have hz := hze.out
                rw [hv, if_pos (by decide)] at hz
                have hz := Lib.hid hz
                go_wp2_with fail
                go_ret
                exact ⟨by first | rfl | (rw [hz.out]; rfl), below_alloc hb⟩
              · have a1d : decide (kind < 1) = false := decide_eq_false a1
                by_cases a2 : 3 < kind
                · have a2d : decide (3 < kind) = true := decide_eq_true a2
                  have hv : zoneErr1 ⟨kind, feature, lower, upper, bonus⟩ n slot dup = 12 := mze_1 _ _ _ _ _ _ _ _ (by omega) (by omega)
                  have hz := hze.out
                  rw [hv, if_pos (by decide)] at hz
                  have hz := Lib.hid hz
                  go_wp2_with fail
                  go_ret
                  exact ⟨by first | rfl | (rw [hz.out]; rfl), below_alloc hb⟩
                · have a2d : decide (3 < kind) = false := decide_eq_false a2
                  by_cases a3 : feature < 0
                  · have a3d : decide (feature < 0) = true := decide_eq_true a3
                    have hv : zoneErr1 ⟨kind, feature, lower, upper, bonus⟩ n slot dup = 10 := mze_2 _ _ _ _ _ _ _ _ (by omega) (by omega) (by omega)
                    have hz := hze.out
                    rw [hv, if_pos (by decide)] at hz
                    have hz := Lib.hid hz
                    go_wp2_with fail
                    go_ret
                    exact ⟨by first | rfl | (rw [hz.out]; rfl), below_alloc hb⟩
                  · have a3d : decide (feature < 0) = false := decide_eq_false a3
                    by_cases a4 : (n : Int) ≤ feature
                    · have a4d : decide ((n : Int) ≤ feature) = true := decide_eq_true a4
                      have hv : zoneErr1 ⟨kind, feature, lower, upper, bonus⟩ n slot dup = 10 := mze_3 _ _ _ _ _ _ _ _ (by omega) (by omega) (by omega) (by omega)
                      have hz := hze.out
                      rw [hv, if_pos (by decide)] at hz
                      have hz := Lib.hid hz
                      go_wp2_with fail
                      go_ret
                      exact ⟨by first | rfl | (rw [hz.out]; rfl), below_alloc hb⟩
                    · have a4d : decide ((n : Int) ≤ feature) = false := decide_eq_false a4
                      obtain ⟨kk, rfl⟩ := Int.eq_ofNat_of_zero_le (show 0 ≤ feature by omega)
                      have kk1 : kk < n := by omega
                      have kk2 : (0 : Int) ≤ (kk : Int) := by omega
                      have kk3 : (kk : Int) < (n : Int) := by omega
                      obtain ⟨af, ea, -, y1, -⟩ := IsFs.cells (hf.below hb) kk kk1
                      subst ea
                      rw [show ((kk : Nat) : Int).toNat = kk from rfl] at hsl
                      have flt : (af.add (kk * 6)).block < wr.heap.size := by have := World.block_lt_of_cell? wr _ y1; exact this
                      have fne : ¬ (af.add (kk * 6)).block = wr.heap.size := Nat.ne_of_lt flt
                      generalize (fs.getD kk fd).kind = kf at hsl y1
                      have kcase : kind = 1 ∨ kind = 2 ∨ kind = 3 := by omega
                      rcases kcase with rfl | rfl | rfl
                      · cases slot
                        · cases bonus
                          · skip
                            go_wp2_with fail
                            refine (H5.out _).mono ?_
                            rintro e w4 ⟨rfl, rfl⟩
                            cases f1
                            · skip
                              go_wp2_with fail
                              refine (H6.out _).mono ?_
                              rintro e w5 ⟨rfl, rfl⟩
                              cases f2
                              · skip
                                by_cases b1 : upper < lower
                                · have b1d : decide (upper < lower) = true := decide_eq_true b1
                                  have hv : zoneErr1 ⟨1, (kk : Int), lower, upper, false⟩ n false dup = 8 := mze_4 0 _ _ _ false false _ _ (by omega) (by omega) (by omega) (by omega) e3 e4 (by omega)
                                  have hz := hze.out
                                  rw [hv, if_pos (by decide)] at hz
                                  have hz := Lib.hid hz
                                  go_wp2_with fail
                                  go_ret
                                  exact ⟨by first | rfl | (rw [hz.out]; rfl), below_alloc hb⟩
                                · have b1d : decide (upper < lower) = false := decide_eq_false b1
                                  go_wp2_with fail
                                  refine (H3.out _ (by repeat (first | exact Below.refl _ _ | apply below_alloc | apply below_drewN | apply below_drew))).mono ?_
                                  rintro e w3 ⟨rfl, hb9⟩
                                  cases dup
                                  · have hix2 : ix = (j : Int) := by have := hix.out; simpa using this
                                    subst hix2
                                    have hv : zoneErr1 ⟨1, (kk : Int), lower, upper, false⟩ n false false = 0 := mze_5 0 _ _ _ false false false _ (by omega) (by omega) (by omega) (by omega) e3 e4 (by omega)
                                    have hz := hze.out
                                    rw [hv, if_neg (fun e => e rfl)] at hz
                                    go_wp2_with fail
                                    go_roundw
                                    case rel => exact ⟨j + 1, by omega, by go_num, Lib.hid (by rw [← htl'.out]; exact hz), below_then hb (below_then (w := wr) (by repeat (first | exact Below.refl _ _ | apply below_alloc | apply below_drewN | apply below_drew)) hb9), (cell_below (below_then (w := wr) (by repeat (first | exact Below.refl _ _ | apply below_alloc | apply below_drewN | apply below_drew)) hb9) c0), (cell_below (below_then (w := wr) (by repeat (first | exact Below.refl _ _ | apply below_alloc | apply below_drewN | apply below_drew)) hb9) c1)⟩
                                    case measure => simp [intOf]; omega
                                  · have hix2 : (ix != (j : Int)) = true := hix.out
                                    have hv : zoneErr1 ⟨1, (kk : Int), lower, upper, false⟩ n false true = 9 := mze_6 0 _ _ _ false false false _ (by omega) (by omega) (by omega) (by omega) e3 e4 (by omega)
                                    have hz := hze.out
                                    rw [hv, if_pos (by decide)] at hz
                                    have hz := Lib.hid hz
                                    go_wp2_with fail
                                    go_ret
                                    exact ⟨by first | rfl | (rw [hz.out]; rfl), below_then hb (below_then (w := wr) (by repeat (first | exact Below.refl _ _ | apply below_alloc | apply below_drewN | apply below_drew)) hb9)⟩
                              · skip
                                have hv : zoneErr1 ⟨1, (kk : Int), lower, upper, false⟩ n false dup = 2 := mze_7 0 _ _ _ false false _ _ (by omega) (by omega) (by omega) (by omega) e3 e4
                                have hz := hze.out
                                rw [hv, if_pos (by decide)] at hz
                                have hz := Lib.hid hz
                                go_wp2_with fail
                                go_ret
                                exact ⟨by first | rfl | (rw [hz.out]; rfl), below_alloc hb⟩
                            · skip
                              have hv : zoneErr1 ⟨1, (kk : Int), lower, upper, false⟩ n false dup = 2 := mze_8 0 _ _ _ false false _ _ (by omega) (by omega) (by omega) (by omega) e3
                              have hz := hze.out
                              rw [hv, if_pos (by decide)] at hz
                              have hz := Lib.hid hz
                              go_wp2_with fail
                              go_ret
                              exact ⟨by first | rfl | (rw [hz.out]; rfl), below_alloc hb⟩
                          · skip
                            have hv : zoneErr1 ⟨1, (kk : Int), lower, upper, true⟩ n false dup = 3 := mze_9 0 _ _ _ false false _ _ (by omega) (by omega) (by omega) (by omega)
                            have hz := hze.out
                            rw [hv, if_pos (by decide)] at hz
                            have hz := Lib.hid hz
                            go_wp2_with fail
                            go_ret
                            exact ⟨by first | rfl | (rw [hz.out]; rfl), below_alloc hb⟩
                        · cases bonus
                          · skip
                            go_wp2_with fail
                            refine (H5.out _).mono ?_
                            rintro e w4 ⟨rfl, rfl⟩
                            cases f1
                            · skip
                              go_wp2_with fail
                              refine (H6.out _).mono ?_
                              rintro e w5 ⟨rfl, rfl⟩
                              cases f2
                              · skip
                                by_cases b1 : upper < lower
                                · have b1d : decide (upper < lower) = true := decide_eq_true b1
                                  have hv : zoneErr1 ⟨1, (kk : Int), lower, upper, false⟩ n true dup = 8 := mze_10 0 _ _ _ false false _ _ (by omega) (by omega) (by omega) (by omega) e3 e4 (by omega)
                                  have hz := hze.out
                                  rw [hv, if_pos (by decide)] at hz
                                  have hz := Lib.hid hz
                                  go_wp2_with fail
                                  go_ret
                                  exact ⟨by first | rfl | (rw [hz.out]; rfl), below_alloc hb⟩
                                · have b1d : decide (upper < lower) = false := decide_eq_false b1
                                  go_wp2_with fail
                                  refine (H3.out _ (by repeat (first | exact Below.refl _ _ | apply below_alloc | apply below_drewN | apply below_drew))).mono ?_
                                  rintro e w3 ⟨rfl, hb9⟩
                                  cases dup
                                  · have hix2 : ix = (j : Int) := by have := hix.out; simpa using this
                                    subst hix2
                                    have hv : zoneErr1 ⟨1, (kk : Int), lower, upper, false⟩ n true false = 0 := mze_11 0 _ _ _ false false false _ (by omega) (by omega) (by omega) (by omega) e3 e4 (by omega)
                                    have hz := hze.out
                                    rw [hv, if_neg (fun e => e rfl)] at hz
                                    go_wp2_with fail
                                    go_roundw
                                    case rel => exact ⟨j + 1, by omega, by go_num, Lib.hid (by rw [← htl'.out]; exact hz), below_then hb (below_then (w := wr) (by repeat (first | exact Below.refl _ _ | apply below_alloc | apply below_drewN | apply below_drew)) hb9), (cell_below (below_then (w := wr) (by repeat (first | exact Below.refl _ _ | apply below_alloc | apply below_drewN | apply below_drew)) hb9) c0), (cell_below (below_then (w := wr) (by repeat (first | exact Below.refl _ _ | apply below_alloc | apply below_drewN | apply below_drew)) hb9) c1)⟩
                                    case measure => simp [intOf]; omega
                                  · have hix2 : (ix != (j : Int)) = true := hix.out
                                    have hv : zoneErr1 ⟨1, (kk : Int), lower, upper, false⟩ n true true = 9 := mze_12 0 _ _ _ false false false _ (by omega) (by omega) (by omega) (by omega) e3 e4 (by omega)
                                    have hz := hze.out
                                    rw [hv, if_pos (by decide)] at hz
                                    have hz := Lib.hid hz
                                    go_wp2_with fail
                                    go_ret
                                    exact ⟨by first | rfl | (rw [hz.out]; rfl), below_then hb (below_then (w := wr) (by repeat (first | exact Below.refl _ _ | apply below_alloc | apply below_drewN | apply below_drew)) hb9)⟩
                              · skip
                                have hv : zoneErr1 ⟨1, (kk : Int), lower, upper, false⟩ n true dup = 2 := mze_13 0 _ _ _ false false _ _ (by omega) (by omega) (by omega) (by omega) e3 e4
                                have hz := hze.out
                                rw [hv, if_pos (by decide)] at hz
                                have hz := Lib.hid hz
                                go_wp2_with fail
                                go_ret
                                exact ⟨by first | rfl | (rw [hz.out]; rfl), below_alloc hb⟩
                            · skip
                              have hv : zoneErr1 ⟨1, (kk : Int), lower, upper, false⟩ n true dup = 2 := mze_14 0 _ _ _ false false _ _ (by omega) (by omega) (by omega) (by omega) e3
                              have hz := hze.out
                              rw [hv, if_pos (by decide)] at hz
                              have hz := Lib.hid hz
                              go_wp2_with fail
                              go_ret
                              exact ⟨by first | rfl | (rw [hz.out]; rfl), below_alloc hb⟩
                          · skip
                            go_wp2_with fail
                            refine (H5.out _).mono ?_
                            rintro e w4 ⟨rfl, rfl⟩
                            cases f1
                            · skip
                              go_wp2_with fail
                              refine (H6.out _).mono ?_
                              rintro e w5 ⟨rfl, rfl⟩
                              cases f2
                              · skip
                                by_cases b1 : upper < lower
                                · have b1d : decide (upper < lower) = true := decide_eq_true b1
                                  have hv : zoneErr1 ⟨1, (kk : Int), lower, upper, true⟩ n true dup = 8 := mze_15 0 _ _ _ false false _ _ (by omega) (by omega) (by omega) (by omega) e3 e4 (by omega)
                                  have hz := hze.out
                                  rw [hv, if_pos (by decide)] at hz
                                  have hz := Lib.hid hz
                                  go_wp2_with fail
                                  go_ret
                                  exact ⟨by first | rfl | (rw [hz.out]; rfl), below_alloc hb⟩
                                · have b1d : decide (upper < lower) = false := decide_eq_false b1
                                  go_wp2_with fail
                                  refine (H3.out _ (by repeat (first | exact Below.refl _ _ | apply below_alloc | apply below_drewN | apply below_drew))).mono ?_
                                  rintro e w3 ⟨rfl, hb9⟩
                                  cases dup
                                  · have hix2 : ix = (j : Int) := by have := hix.out; simpa using this
                                    subst hix2
                                    have hv : zoneErr1 ⟨1, (kk : Int), lower, upper, true⟩ n true false = 0 := mze_16 0 _ _ _ false false false _ (by omega) (by omega) (by omega) (by omega) e3 e4 (by omega)
                                    have hz := hze.out
                                    rw [hv, if_neg (fun e => e rfl)] at hz
                                    go_wp2_with fail
                                    go_roundw
                                    case rel => exact ⟨j + 1, by omega, by go_num, Lib.hid (by rw [← htl'.out]; exact hz), below_then hb (below_then (w := wr) (by repeat (first | exact Below.refl _ _ | apply below_alloc | apply below_drewN | apply below_drew)) hb9), (cell_below (below_then (w := wr) (by repeat (first | exact Below.refl _ _ | apply below_alloc | apply below_drewN | apply below_drew)) hb9) c0), (cell_below (below_then (w := wr) (by repeat (first | exact Below.refl _ _ | apply below_alloc | apply below_drewN | apply below_drew)) hb9) c1)⟩
                                    case measure => simp [intOf]; omega
                                  · have hix2 : (ix != (j : Int)) = true := hix.out
                                    have hv : zoneErr1 ⟨1, (kk : Int), lower, upper, true⟩ n true true = 9 := mze_17 0 _ _ _ false false false _ (by omega) (by omega) (by omega) (by omega) e3 e4 (by omega)
                                    have hz := hze.out
                                    rw [hv, if_pos (by decide)] at hz
                                    have hz := Lib.hid hz
                                    go_wp2_with fail
                                    go_ret
                                    exact ⟨by first | rfl | (rw [hz.out]; rfl), below_then hb (below_then (w := wr) (by repeat (first | exact Below.refl _ _ | apply below_alloc | apply below_drewN | apply below_drew)) hb9)⟩
                              · skip
                                have hv : zoneErr1 ⟨1, (kk : Int), lower, upper, true⟩ n true dup = 2 := mze_18 0 _ _ _ false false _ _ (by omega) (by omega) (by omega) (by omega) e3 e4
                                have hz := hze.out
                                rw [hv, if_pos (by decide)] at hz
                                have hz := Lib.hid hz
                                go_wp2_with fail
                                go_ret
                                exact ⟨by first | rfl | (rw [hz.out]; rfl), below_alloc hb⟩
                            · skip
                              have hv : zoneErr1 ⟨1, (kk : Int), lower, upper, true⟩ n true dup = 2 := mze_19 0 _ _ _ false false _ _ (by omega) (by omega) (by omega) (by omega) e3
                              have hz := hze.out
                              rw [hv, if_pos (by decide)] at hz
                              have hz := Lib.hid hz
                              go_wp2_with fail
                              go_ret
                              exact ⟨by first | rfl | (rw [hz.out]; rfl), below_alloc hb⟩
                      · cases slot
                        · cases bonus
                          · skip
                            have hv : zoneErr1 ⟨2, (kk : Int), lower, upper, false⟩ n false dup = 3 := mze_20 0 _ _ _ false false _ _ (by omega) (by omega) (by omega) (by omega)
                            have hz := hze.out
                            rw [hv, if_pos (by decide)] at hz
                            have hz := Lib.hid hz
                            go_wp2_with fail
                            go_ret
                            exact ⟨by first | rfl | (rw [hz.out]; rfl), below_alloc hb⟩
                          · skip
                            have hv : zoneErr1 ⟨2, (kk : Int), lower, upper, true⟩ n false dup = 3 := mze_21 0 _ _ _ false false _ _ (by omega) (by omega) (by omega) (by omega)
                            have hz := hze.out
                            rw [hv, if_pos (by decide)] at hz
                            have hz := Lib.hid hz
                            go_wp2_with fail
                            go_ret
                            exact ⟨by first | rfl | (rw [hz.out]; rfl), below_alloc hb⟩
                        · cases bonus
                          · skip
                            go_wp2_with fail
                            refine (H5.out _).mono ?_
                            rintro e w4 ⟨rfl, rfl⟩
                            cases f1
                            · skip
                              go_wp2_with fail
                              refine (H6.out _).mono ?_
                              rintro e w5 ⟨rfl, rfl⟩
                              cases f2
                              · skip
                                by_cases b1 : upper < lower
                                · have b1d : decide (upper < lower) = true := decide_eq_true b1
                                  have hv : zoneErr1 ⟨2, (kk : Int), lower, upper, false⟩ n true dup = 8 := mze_22 0 _ _ _ false false _ _ (by omega) (by omega) (by omega) (by omega) e3 e4 (by omega)
                                  have hz := hze.out
                                  rw [hv, if_pos (by decide)] at hz
                                  have hz := Lib.hid hz
                                  go_wp2_with fail
                                  go_ret
                                  exact ⟨by first | rfl | (rw [hz.out]; rfl), below_alloc hb⟩
                                · have b1d : decide (upper < lower) = false := decide_eq_false b1
                                  go_wp2_with fail
                                  refine (H3.out _ (by repeat (first | exact Below.refl _ _ | apply below_alloc | apply below_drewN | apply below_drew))).mono ?_
                                  rintro e w3 ⟨rfl, hb9⟩
                                  cases dup
                                  · have hix2 : ix = (j : Int) := by have := hix.out; simpa using this
                                    subst hix2
                                    have hv : zoneErr1 ⟨2, (kk : Int), lower, upper, false⟩ n true false = 0 := mze_23 0 _ _ _ false false false _ (by omega) (by omega) (by omega) (by omega) e3 e4 (by omega)
                                    have hz := hze.out
                                    rw [hv, if_neg (fun e => e rfl)] at hz
                                    go_wp2_with fail
                                    go_roundw
                                    case rel => exact ⟨j + 1, by omega, by go_num, Lib.hid (by rw [← htl'.out]; exact hz), below_then hb (below_then (w := wr) (by repeat (first | exact Below.refl _ _ | apply below_alloc | apply below_drewN | apply below_drew)) hb9), (cell_below (below_then (w := wr) (by repeat (first | exact Below.refl _ _ | apply below_alloc | apply below_drewN | apply below_drew)) hb9) c0), (cell_below (below_then (w := wr) (by repeat (first | exact Below.refl _ _ | apply below_alloc | apply below_drewN | apply below_drew)) hb9) c1)⟩
                                    case measure => simp [intOf]; omega
                                  · have hix2 : (ix != (j : Int)) = true := hix.out
                                    have hv : zoneErr1 ⟨2, (kk : Int), lower, upper, false⟩ n true true = 9 := mze_24 0 _ _ _ false false false _ (by omega) (by omega) (by omega) (by omega) e3 e4 (by omega)
                                    have hz := hze.out
                                    rw [hv, if_pos (by decide)] at hz
                                    have hz := Lib.hid hz
                                    go_wp2_with fail
                                    go_ret
                                    exact ⟨by first | rfl | (rw [hz.out]; rfl), below_then hb (below_then (w := wr) (by repeat (first | exact Below.refl _ _ | apply below_alloc | apply below_drewN | apply below_drew)) hb9)⟩
                              · skip
                                have hv : zoneErr1 ⟨2, (kk : Int), lower, upper, false⟩ n true dup = 2 := mze_25 0 _ _ _ false false _ _ (by omega) (by omega) (by omega) (by omega) e3 e4
                                have hz := hze.out
                                rw [hv, if_pos (by decide)] at hz
                                have hz := Lib.hid hz
                                go_wp2_with fail
                                go_ret
                                exact ⟨by first | rfl | (rw [hz.out]; rfl), below_alloc hb⟩
                            · skip
                              have hv : zoneErr1 ⟨2, (kk : Int), lower, upper, false⟩ n true dup = 2 := mze_26 0 _ _ _ false false _ _ (by omega) (by omega) (by omega) (by omega) e3
                              have hz := hze.out
                              rw [hv, if_pos (by decide)] at hz
                              have hz := Lib.hid hz
                              go_wp2_with fail
                              go_ret
                              exact ⟨by first | rfl | (rw [hz.out]; rfl), below_alloc hb⟩
                          · skip
                            have hv : zoneErr1 ⟨2, (kk : Int), lower, upper, true⟩ n true dup = 3 := mze_27 0 _ _ _ false false _ _ (by omega) (by omega) (by omega) (by omega)
                            have hz := hze.out
                            rw [hv, if_pos (by decide)] at hz
                            have hz := Lib.hid hz
                            go_wp2_with fail
                            go_ret
                            exact ⟨by first | rfl | (rw [hz.out]; rfl), below_alloc hb⟩
                      · cases slot
                        · cases bonus
                          · skip
                            go_wp2_with fail
                            refine (H5.out _).mono ?_
                            rintro e w4 ⟨rfl, rfl⟩
                            cases f1
                            · skip
                              go_wp2_with fail
                              refine (H6.out _).mono ?_
                              rintro e w5 ⟨rfl, rfl⟩
                              cases f2
                              · skip
                                by_cases b1 : upper < lower
                                · have b1d : decide (upper < lower) = true := decide_eq_true b1
                                  have hv : zoneErr1 ⟨3, (kk : Int), lower, upper, false⟩ n false dup = 8 := mze_28 0 _ _ _ false false _ _ (by omega) (by omega) (by omega) (by omega) e3 e4 (by omega)
                                  have hz := hze.out
                                  rw [hv, if_pos (by decide)] at hz
                                  have hz := Lib.hid hz
                                  go_wp2_with fail
                                  go_ret
                                  exact ⟨by first | rfl | (rw [hz.out]; rfl), below_alloc hb⟩
                                · have b1d : decide (upper < lower) = false := decide_eq_false b1
                                  go_wp2_with fail
                                  refine (H3.out _ (by repeat (first | exact Below.refl _ _ | apply below_alloc | apply below_drewN | apply below_drew))).mono ?_
                                  rintro e w3 ⟨rfl, hb9⟩
                                  cases dup
                                  · have hix2 : ix = (j : Int) := by have := hix.out; simpa using this
                                    subst hix2
                                    have hv : zoneErr1 ⟨3, (kk : Int), lower, upper, false⟩ n false false = 0 := mze_29 0 _ _ _ false false false _ (by omega) (by omega) (by omega) (by omega) e3 e4 (by omega)
                                    have hz := hze.out
                                    rw [hv, if_neg (fun e => e rfl)] at hz
                                    go_wp2_with fail
                                    go_roundw
                                    case rel => exact ⟨j + 1, by omega, by go_num, Lib.hid (by rw [← htl'.out]; exact hz), below_then hb (below_then (w := wr) (by repeat (first | exact Below.refl _ _ | apply below_alloc | apply below_drewN | apply below_drew)) hb9), (cell_below (below_then (w := wr) (by repeat (first | exact Below.refl _ _ | apply below_alloc | apply below_drewN | apply below_drew)) hb9) c0), (cell_below (below_then (w := wr) (by repeat (first | exact Below.refl _ _ | apply below_alloc | apply below_drewN | apply below_drew)) hb9) c1)⟩
                                    case measure => simp [intOf]; omega
                                  · have hix2 : (ix != (j : Int)) = true := hix.out
                                    have hv : zoneErr1 ⟨3, (kk : Int), lower, upper, false⟩ n false true = 9 := mze_30 0 _ _ _ false false false _ (by omega) (by omega) (by omega) (by omega) e3 e4 (by omega)
                                    have hz := hze.out
                                    rw [hv, if_pos (by decide)] at hz
                                    have hz := Lib.hid hz
                                    go_wp2_with fail
                                    go_ret
                                    exact ⟨by first | rfl | (rw [hz.out]; rfl), below_then hb (below_then (w := wr) (by repeat (first | exact Below.refl _ _ | apply below_alloc | apply below_drewN | apply below_drew)) hb9)⟩
                              · skip
                                have hv : zoneErr1 ⟨3, (kk : Int), lower, upper, false⟩ n false dup = 2 := mze_31 0 _ _ _ false false _ _ (by omega) (by omega) (by omega) (by omega) e3 e4
                                have hz := hze.out
                                rw [hv, if_pos (by decide)] at hz
                                have hz := Lib.hid hz
                                go_wp2_with fail
                                go_ret
                                exact ⟨by first | rfl | (rw [hz.out]; rfl), below_alloc hb⟩
                            · skip
                              have hv : zoneErr1 ⟨3, (kk : Int), lower, upper, false⟩ n false dup = 2 := mze_32 0 _ _ _ false false _ _ (by omega) (by omega) (by omega) (by omega) e3
                              have hz := hze.out
                              rw [hv, if_pos (by decide)] at hz
                              have hz := Lib.hid hz
                              go_wp2_with fail
                              go_ret
                              exact ⟨by first | rfl | (rw [hz.out]; rfl), below_alloc hb⟩
                          · skip
                            have hv : zoneErr1 ⟨3, (kk : Int), lower, upper, true⟩ n false dup = 3 := mze_33 0 _ _ _ false false _ _ (by omega) (by omega) (by omega) (by omega)
                            have hz := hze.out
                            rw [hv, if_pos (by decide)] at hz
                            have hz := Lib.hid hz
                            go_wp2_with fail
                            go_ret
                            exact ⟨by first | rfl | (rw [hz.out]; rfl), below_alloc hb⟩
                        · cases bonus
                          · skip
                            have hv : zoneErr1 ⟨3, (kk : Int), lower, upper, false⟩ n true dup = 3 := mze_34 0 _ _ _ false false _ _ (by omega) (by omega) (by omega) (by omega)
                            have hz := hze.out
                            rw [hv, if_pos (by decide)] at hz
                            have hz := Lib.hid hz
                            go_wp2_with fail
                            go_ret
                            exact ⟨by first | rfl | (rw [hz.out]; rfl), below_alloc hb⟩
                          · skip
                            have hv : zoneErr1 ⟨3, (kk : Int), lower, upper, true⟩ n true dup = 3 := mze_35 0 _ _ _ false false _ _ (by omega) (by omega) (by omega) (by omega)
                            have hz := hze.out
                            rw [hv, if_pos (by decide)] at hz
                            have hz := Lib.hid hz
                            go_wp2_with fail
                            go_ret
                            exact ⟨by first | rfl | (rw [hz.out]; rfl), below_alloc hb⟩
            · obtain rfl : m = j := by omega
              have R0 : R = 0 := by have := hF.out; rwa [Nat.sub_self] at this
              subst R0
              go_wp2_with fail
              go_ret
              exact ⟨rfl, hb⟩
end Go.Proofs.YtpifbaiibhaklaaGreatDoor
namespace Go.Proofs.YtpifbaiibhaklaaGreatDoor
open Go.RowKit Big Go.ChangeMaps
set_option maxHeartbeats 400000
set_option linter.unusedVariables false
set_option linter.unusedSimpArgs false

def limName (i : Nat) : ByteArray := ⟨#[102]⟩ ++ Utf8.encode (97 + i)
def limF1 (i : Nat) : Feat := ⟨limName i, 2, 0, (i : Int) - 1, 0, 1⟩
def limF (k : Nat) : List Feat := (List.range k).map limF1
def limZ1 (i : Nat) : Zon := ⟨1 + ((i % 2 : Nat) : Int), ((i / 2 : Nat) : Int), 0, 0, false⟩
def limZ (q : Nat) : List Zon := (List.range q).map limZ1
def limS (k q : Nat) : Sch := ⟨limF k, limZ q⟩
theorem limF_succ (k : Nat) : limF (k + 1) = limF k ++ [limF1 k] := by simp [limF, List.range_succ]
theorem limZ_succ (k : Nat) : limZ (k + 1) = limZ k ++ [limZ1 k] := by simp [limZ, List.range_succ]
theorem limF_len (k : Nat) : (limF k).length = k := by simp [limF]
theorem limZ_len (k : Nat) : (limZ k).length = k := by simp [limZ]
theorem lim_noform (q : Nat) (fe : Int) : zoneOf (limZ q) fe 3 = none := by
  unfold zoneOf
  rw [List.find?_eq_none]
  intro z hz
  obtain ⟨i, _, rfl⟩ := List.mem_map.1 hz
  unfold zoneP limZ1
  simp
  intro _
  omega
theorem lim_vars (k q n : Nat) (hn : n ≤ k) : (varsTo (limS k q) n).length = 2 * n := by
  induction n with
  | zero => rfl
  | succ n ih =>
    have hk : ((limS k q).fs.getD n fd).kind = 2 := by
      show ((limF k).getD n fd).kind = 2
      rw [List.getD_eq_getElem?_getD, List.getElem?_eq_getElem (by rw [limF_len]; omega)]
      simp [limF, limF1]
    unfold varsTo varsAt
    rw [if_pos hk, show zoneOf (limS k q).zs n 3 = none from lim_noform q n, List.length_append, ih (by omega)]
    simp
    omega
theorem lim_dims (k q : Nat) : (dimsOf (limS k q)).length = 2 * k := by
  unfold dimsOf varsOf
  rw [List.length_map, show (limS k q).fs.length = k from limF_len k]
  exact lim_vars k q k (Nat.le_refl _)
end Go.Proofs.YtpifbaiibhaklaaGreatDoor
namespace Go.Proofs.YtpifbaiibhaklaaGreatDoor
open Go.RowKit Big Go.ChangeMaps
set_option maxHeartbeats 40000000
set_option linter.unusedVariables false
set_option linter.unusedSimpArgs false

theorem info_feat : (Tryz.prog.info? 28).map (fun i => (i.zero, i.size, i.bytes)) = some (some (.agg #[.string ByteArray.empty, .int .i64 0, .int .i64 0, .int .i64 0, .int .i64 0, .int .i64 0]), 6, 56) := by kernel_rfl
theorem info_zone : (Tryz.prog.info? 30).map (fun i => (i.zero, i.size, i.bytes)) = some (some (.agg #[.int .i64 0, .int .i64 0, .int .i64 0, .int .i64 0, .bool false]), 5, 40) := by kernel_rfl
set_option maxRecDepth 100000 in
theorem DatumLimits_any (a b : Nat) (ha : a < 256) (hb : b < 256) (w : World) (hg : Good w) :
    Calls Tryz.prog 3 #[.int .u8 (a : Int), .int .u8 (b : Int)] w fun e w' => e = .returned (.bool true) ∧ Below w.heap.size w w' := by
  have HG := Lib.hid (fun W (hW : Below w.heap.size w W) => hg.below hW)
  obtain ⟨k, hk⟩ : ∃ k, k = a % 18 := ⟨_, rfl⟩
  have hk18 : k < 18 := by omega
  have hkm : Int.tmod (a : Int) 18 = (k : Int) := by rw [hk]; rfl
  have hk' := Lib.hid hk
  clear hk
  obtain ⟨qb, hqb⟩ : ∃ qb, qb = b % 34 := ⟨_, rfl⟩
  have hqb34 : qb < 34 := by omega
  have hqm : Int.tmod (b : Int) 34 = (qb : Int) := by rw [hqb]; rfl
  have hqb' := Lib.hid hqb
  clear hqb
  go_enter Tryz.func3, Tryz.ntmps3
  go_wp2_with fail
  refine (known_any _ hg).mono ?_
  rintro e w1 ⟨rfl, hb1⟩
  obtain ⟨W5, e5⟩ : ∃ W5 : World, W5 = w1.alloc (.cells #[.slice none 0 0, .slice none 0 0] 26) := ⟨_, rfl⟩
  go_wp2_with fail
  rw [← e5]
  go_loopw [16] (fun q wr => ∃ (i : Nat) (v : Value), i ≤ k ∧ q = .int .i64 (i : Int) ∧ wr.cell? ⟨w1.heap.size, 0, none⟩ = some v ∧ wr.cell? ⟨w1.heap.size, 1, none⟩ = some (.slice none 0 0) ∧ wr.frozen? ⟨w1.heap.size, 0, none⟩ = false ∧ wr.frozen? ⟨w1.heap.size, 1, none⟩ = false ∧ Hid (typ wr w1.heap.size = some 26) ∧
      Hid (wr.ownsRow (w1.heap.size + 1) 28 6 v i (flat encF (limF i))) ∧ Below w1.heap.size w1 wr) (fun q _ => k - (intOf q).toNat)
  case atStart => exact ⟨0, .slice none 0 0, Nat.zero_le _, rfl, by rw [e5]; simp [go_sem], by rw [e5]; simp [go_sem], by rw [e5]; simp [go_sem], by rw [e5]; simp [go_sem], by rw [e5]; exact Lib.hid (by simp [typ_alloc, otyp_cells]), Lib.hid (own_nil _ _ _ _), by rw [e5]; exact below_alloc (Below.refl _ _)⟩
  case round =>
    obtain ⟨i, v, hi, rfl, p0, p1, pf0, pf1, pT, hown, hb⟩ := hrel
    obtain ⟨A', c', rfl, hc'⟩ := own_slice hown.out
    clear e5
    have hgs : w1.heap.size < wr.heap.size := World.block_lt_of_cell? wr _ p0
    by_cases hlt : i < k
    · have hc : i = 0 ∨ i = 1 ∨ i = 2 ∨ i = 3 ∨ i = 4 ∨ i = 5 ∨ i = 6 ∨ i = 7 ∨ i = 8 ∨ i = 9 ∨ i = 10 ∨ i = 11 ∨ i = 12 ∨ i = 13 ∨ i = 14 ∨ i = 15 ∨ i = 16 := by omega
      rcases hc with rfl | rfl | rfl | rfl | rfl | rfl | rfl | rfl | rfl | rfl | rfl | rfl | rfl | rfl | rfl | rfl | rfl
      · go_wp2_with (at_builtin; go_must (refine append_cells (w1.heap.size + 1) rfl (.tmp 20) (.tmp 29) 23 28 (.agg #[.string ByteArray.empty, .int .i64 0, .int .i64 0, .int .i64 0, .int .i64 0, .int .i64 0]) 6 56 rfl Tryz.underlying23 info_feat rfl (by decide) (by decide) (.slice A' 0 c') 0 (flat encF (limF 0)) [.string (limName 0), .int .i64 2, .int .i64 0, .int .i64 (-1), .int .i64 0, .int .i64 1] rfl rfl rfl (by simp [Value.oneCell']) hown.out hgs (by omega) ?_); intro v8 w8 hown8 hgr8 _; obtain ⟨A8, c8, rfl, hc8⟩ := own_slice hown8; have q0 := grown_cell hgr8 p0 (fun k hk => by have := own_base hown.out k hk; show k ≠ w1.heap.size; omega); have q1 := grown_cell hgr8 p1 (fun k hk => by have := own_base hown.out k hk; show k ≠ w1.heap.size; omega); have qf0 := (hgr8.frozen_far ⟨w1.heap.size, 0, none⟩ hgs (fun e => Nat.not_succ_le_self _ (own_base hown.out _ e.symm))).trans pf0; have qf1 := (hgr8.frozen_far ⟨w1.heap.size, 1, none⟩ hgs (fun e => Nat.not_succ_le_self _ (own_base hown.out _ e.symm))).trans pf1; have B8 := below_grownB hb hb.size hgr8 (fun k hk => by have := own_base hown.out k hk; omega); have T8 : typ w8 w1.heap.size = some 26 := (by rw [← pT.out]; unfold typ; rw [hgr8.block _ hgs (fun e => Nat.not_succ_le_self _ (own_base hown.out _ e.symm))]); have O8 := Lib.hid hown8; clear hown8 hgr8)
        go_roundw
        case rel => exact ⟨0 + 1, _, by omega, by go_num, World.cell?_setCell_same _ _ _ q0, (World.cell?_setCell_other _ _ _ _ (by simp)).trans q1, (World.frozen?_setCell _ _ _ _).trans qf0, (World.frozen?_setCell _ _ _ _).trans qf1, Lib.hid ((typ_set _ _ _ _).trans T8), Lib.hid (own_cast (own_set O8.out (fun e => Nat.not_succ_le_self _ (own_base O8.out _ e.symm)) _) rfl (by rw [limF_succ, flat_app]; rfl)), below_set B8 (by simp) _⟩
        case measure => simp [intOf] <;> omega
      · go_wp2_with (at_builtin; go_must (refine append_cells (w1.heap.size + 1) rfl (.tmp 20) (.tmp 29) 23 28 (.agg #[.string ByteArray.empty, .int .i64 0, .int .i64 0, .int .i64 0, .int .i64 0, .int .i64 0]) 6 56 rfl Tryz.underlying23 info_feat rfl (by decide) (by decide) (.slice A' 1 c') 1 (flat encF (limF 1)) [.string (limName 1), .int .i64 2, .int .i64 0, .int .i64 0, .int .i64 0, .int .i64 1] rfl rfl rfl (by simp [Value.oneCell']) hown.out hgs (by omega) ?_); intro v8 w8 hown8 hgr8 _; obtain ⟨A8, c8, rfl, hc8⟩ := own_slice hown8; have q0 := grown_cell hgr8 p0 (fun k hk => by have := own_base hown.out k hk; show k ≠ w1.heap.size; omega); have q1 := grown_cell hgr8 p1 (fun k hk => by have := own_base hown.out k hk; show k ≠ w1.heap.size; omega); have qf0 := (hgr8.frozen_far ⟨w1.heap.size, 0, none⟩ hgs (fun e => Nat.not_succ_le_self _ (own_base hown.out _ e.symm))).trans pf0; have qf1 := (hgr8.frozen_far ⟨w1.heap.size, 1, none⟩ hgs (fun e => Nat.not_succ_le_self _ (own_base hown.out _ e.symm))).trans pf1; have B8 := below_grownB hb hb.size hgr8 (fun k hk => by have := own_base hown.out k hk; omega); have T8 : typ w8 w1.heap.size = some 26 := (by rw [← pT.out]; unfold typ; rw [hgr8.block _ hgs (fun e => Nat.not_succ_le_self _ (own_base hown.out _ e.symm))]); have O8 := Lib.hid hown8; clear hown8 hgr8)
        go_roundw
        case rel => exact ⟨1 + 1, _, by omega, by go_num, World.cell?_setCell_same _ _ _ q0, (World.cell?_setCell_other _ _ _ _ (by simp)).trans q1, (World.frozen?_setCell _ _ _ _).trans qf0, (World.frozen?_setCell _ _ _ _).trans qf1, Lib.hid ((typ_set _ _ _ _).trans T8), Lib.hid (own_cast (own_set O8.out (fun e => Nat.not_succ_le_self _ (own_base O8.out _ e.symm)) _) rfl (by rw [limF_succ, flat_app]; rfl)), below_set B8 (by simp) _⟩
        case measure => simp [intOf] <;> omega
      · go_wp2_with (at_builtin; go_must (refine append_cells (w1.heap.size + 1) rfl (.tmp 20) (.tmp 29) 23 28 (.agg #[.string ByteArray.empty, .int .i64 0, .int .i64 0, .int .i64 0, .int .i64 0, .int .i64 0]) 6 56 rfl Tryz.underlying23 info_feat rfl (by decide) (by decide) (.slice A' 2 c') 2 (flat encF (limF 2)) [.string (limName 2), .int .i64 2, .int .i64 0, .int .i64 1, .int .i64 0, .int .i64 1] rfl rfl rfl (by simp [Value.oneCell']) hown.out hgs (by omega) ?_); intro v8 w8 hown8 hgr8 _; obtain ⟨A8, c8, rfl, hc8⟩ := own_slice hown8; have q0 := grown_cell hgr8 p0 (fun k hk => by have := own_base hown.out k hk; show k ≠ w1.heap.size; omega); have q1 := grown_cell hgr8 p1 (fun k hk => by have := own_base hown.out k hk; show k ≠ w1.heap.size; omega); have qf0 := (hgr8.frozen_far ⟨w1.heap.size, 0, none⟩ hgs (fun e => Nat.not_succ_le_self _ (own_base hown.out _ e.symm))).trans pf0; have qf1 := (hgr8.frozen_far ⟨w1.heap.size, 1, none⟩ hgs (fun e => Nat.not_succ_le_self _ (own_base hown.out _ e.symm))).trans pf1; have B8 := below_grownB hb hb.size hgr8 (fun k hk => by have := own_base hown.out k hk; omega); have T8 : typ w8 w1.heap.size = some 26 := (by rw [← pT.out]; unfold typ; rw [hgr8.block _ hgs (fun e => Nat.not_succ_le_self _ (own_base hown.out _ e.symm))]); have O8 := Lib.hid hown8; clear hown8 hgr8)
        go_roundw
        case rel => exact ⟨2 + 1, _, by omega, by go_num, World.cell?_setCell_same _ _ _ q0, (World.cell?_setCell_other _ _ _ _ (by simp)).trans q1, (World.frozen?_setCell _ _ _ _).trans qf0, (World.frozen?_setCell _ _ _ _).trans qf1, Lib.hid ((typ_set _ _ _ _).trans T8), Lib.hid (own_cast (own_set O8.out (fun e => Nat.not_succ_le_self _ (own_base O8.out _ e.symm)) _) rfl (by rw [limF_succ, flat_app]; rfl)), below_set B8 (by simp) _⟩
        case measure => simp [intOf] <;> omega
      · go_wp2_with (at_builtin; go_must (refine append_cells (w1.heap.size + 1) rfl (.tmp 20) (.tmp 29) 23 28 (.agg #[.string ByteArray.empty, .int .i64 0, .int .i64 0, .int .i64 0, .int .i64 0, .int .i64 0]) 6 56 rfl Tryz.underlying23 info_feat rfl (by decide) (by decide) (.slice A' 3 c') 3 (flat encF (limF 3)) [.string (limName 3), .int .i64 2, .int .i64 0, .int .i64 2, .int .i64 0, .int .i64 1] rfl rfl rfl (by simp [Value.oneCell']) hown.out hgs (by omega) ?_); intro v8 w8 hown8 hgr8 _; obtain ⟨A8, c8, rfl, hc8⟩ := own_slice hown8; have q0 := grown_cell hgr8 p0 (fun k hk => by have := own_base hown.out k hk; show k ≠ w1.heap.size; omega); have q1 := grown_cell hgr8 p1 (fun k hk => by have := own_base hown.out k hk; show k ≠ w1.heap.size; omega); have qf0 := (hgr8.frozen_far ⟨w1.heap.size, 0, none⟩ hgs (fun e => Nat.not_succ_le_self _ (own_base hown.out _ e.symm))).trans pf0; have qf1 := (hgr8.frozen_far ⟨w1.heap.size, 1, none⟩ hgs (fun e => Nat.not_succ_le_self _ (own_base hown.out _ e.symm))).trans pf1; have B8 := below_grownB hb hb.size hgr8 (fun k hk => by have := own_base hown.out k hk; omega); have T8 : typ w8 w1.heap.size = some 26 := (by rw [← pT.out]; unfold typ; rw [hgr8.block _ hgs (fun e => Nat.not_succ_le_self _ (own_base hown.out _ e.symm))]); have O8 := Lib.hid hown8; clear hown8 hgr8)
        go_roundw
        case rel => exact ⟨3 + 1, _, by omega, by go_num, World.cell?_setCell_same _ _ _ q0, (World.cell?_setCell_other _ _ _ _ (by simp)).trans q1, (World.frozen?_setCell _ _ _ _).trans qf0, (World.frozen?_setCell _ _ _ _).trans qf1, Lib.hid ((typ_set _ _ _ _).trans T8), Lib.hid (own_cast (own_set O8.out (fun e => Nat.not_succ_le_self _ (own_base O8.out _ e.symm)) _) rfl (by rw [limF_succ, flat_app]; rfl)), below_set B8 (by simp) _⟩
        case measure => simp [intOf] <;> omega
      · go_wp2_with (at_builtin; go_must (refine append_cells (w1.heap.size + 1) rfl (.tmp 20) (.tmp 29) 23 28 (.agg #[.string ByteArray.empty, .int .i64 0, .int .i64 0, .int .i64 0, .int .i64 0, .int .i64 0]) 6 56 rfl Tryz.underlying23 info_feat rfl (by decide) (by decide) (.slice A' 4 c') 4 (flat encF (limF 4)) [.string (limName 4), .int .i64 2, .int .i64 0, .int .i64 3, .int .i64 0, .int .i64 1] rfl rfl rfl (by simp [Value.oneCell']) hown.out hgs (by omega) ?_); intro v8 w8 hown8 hgr8 _; obtain ⟨A8, c8, rfl, hc8⟩ := own_slice hown8; have q0 := grown_cell hgr8 p0 (fun k hk => by have := own_base hown.out k hk; show k ≠ w1.heap.size; omega); have q1 := grown_cell hgr8 p1 (fun k hk => by have := own_base hown.out k hk; show k ≠ w1.heap.size; omega); have qf0 := (hgr8.frozen_far ⟨w1.heap.size, 0, none⟩ hgs (fun e => Nat.not_succ_le_self _ (own_base hown.out _ e.symm))).trans pf0; have qf1 := (hgr8.frozen_far ⟨w1.heap.size, 1, none⟩ hgs (fun e => Nat.not_succ_le_self _ (own_base hown.out _ e.symm))).trans pf1; have B8 := below_grownB hb hb.size hgr8 (fun k hk => by have := own_base hown.out k hk; omega); have T8 : typ w8 w1.heap.size = some 26 := (by rw [← pT.out]; unfold typ; rw [hgr8.block _ hgs (fun e => Nat.not_succ_le_self _ (own_base hown.out _ e.symm))]); have O8 := Lib.hid hown8; clear hown8 hgr8)
        go_roundw
        case rel => exact ⟨4 + 1, _, by omega, by go_num, World.cell?_setCell_same _ _ _ q0, (World.cell?_setCell_other _ _ _ _ (by simp)).trans q1, (World.frozen?_setCell _ _ _ _).trans qf0, (World.frozen?_setCell _ _ _ _).trans qf1, Lib.hid ((typ_set _ _ _ _).trans T8), Lib.hid (own_cast (own_set O8.out (fun e => Nat.not_succ_le_self _ (own_base O8.out _ e.symm)) _) rfl (by rw [limF_succ, flat_app]; rfl)), below_set B8 (by simp) _⟩
        case measure => simp [intOf] <;> omega
      · go_wp2_with (at_builtin; go_must (refine append_cells (w1.heap.size + 1) rfl (.tmp 20) (.tmp 29) 23 28 (.agg #[.string ByteArray.empty, .int .i64 0, .int .i64 0, .int .i64 0, .int .i64 0, .int .i64 0]) 6 56 rfl Tryz.underlying23 info_feat rfl (by decide) (by decide) (.slice A' 5 c') 5 (flat encF (limF 5)) [.string (limName 5), .int .i64 2, .int .i64 0, .int .i64 4, .int .i64 0, .int .i64 1] rfl rfl rfl (by simp [Value.oneCell']) hown.out hgs (by omega) ?_); intro v8 w8 hown8 hgr8 _; obtain ⟨A8, c8, rfl, hc8⟩ := own_slice hown8; have q0 := grown_cell hgr8 p0 (fun k hk => by have := own_base hown.out k hk; show k ≠ w1.heap.size; omega); have q1 := grown_cell hgr8 p1 (fun k hk => by have := own_base hown.out k hk; show k ≠ w1.heap.size; omega); have qf0 := (hgr8.frozen_far ⟨w1.heap.size, 0, none⟩ hgs (fun e => Nat.not_succ_le_self _ (own_base hown.out _ e.symm))).trans pf0; have qf1 := (hgr8.frozen_far ⟨w1.heap.size, 1, none⟩ hgs (fun e => Nat.not_succ_le_self _ (own_base hown.out _ e.symm))).trans pf1; have B8 := below_grownB hb hb.size hgr8 (fun k hk => by have := own_base hown.out k hk; omega); have T8 : typ w8 w1.heap.size = some 26 := (by rw [← pT.out]; unfold typ; rw [hgr8.block _ hgs (fun e => Nat.not_succ_le_self _ (own_base hown.out _ e.symm))]); have O8 := Lib.hid hown8; clear hown8 hgr8)
        go_roundw
        case rel => exact ⟨5 + 1, _, by omega, by go_num, World.cell?_setCell_same _ _ _ q0, (World.cell?_setCell_other _ _ _ _ (by simp)).trans q1, (World.frozen?_setCell _ _ _ _).trans qf0, (World.frozen?_setCell _ _ _ _).trans qf1, Lib.hid ((typ_set _ _ _ _).trans T8), Lib.hid (own_cast (own_set O8.out (fun e => Nat.not_succ_le_self _ (own_base O8.out _ e.symm)) _) rfl (by rw [limF_succ, flat_app]; rfl)), below_set B8 (by simp) _⟩
        case measure => simp [intOf] <;> omega
      · go_wp2_with (at_builtin; go_must (refine append_cells (w1.heap.size + 1) rfl (.tmp 20) (.tmp 29) 23 28 (.agg #[.string ByteArray.empty, .int .i64 0, .int .i64 0, .int .i64 0, .int .i64 0, .int .i64 0]) 6 56 rfl Tryz.underlying23 info_feat rfl (by decide) (by decide) (.slice A' 6 c') 6 (flat encF (limF 6)) [.string (limName 6), .int .i64 2, .int .i64 0, .int .i64 5, .int .i64 0, .int .i64 1] rfl rfl rfl (by simp [Value.oneCell']) hown.out hgs (by omega) ?_); intro v8 w8 hown8 hgr8 _; obtain ⟨A8, c8, rfl, hc8⟩ := own_slice hown8; have q0 := grown_cell hgr8 p0 (fun k hk => by have := own_base hown.out k hk; show k ≠ w1.heap.size; omega); have q1 := grown_cell hgr8 p1 (fun k hk => by have := own_base hown.out k hk; show k ≠ w1.heap.size; omega); have qf0 := (hgr8.frozen_far ⟨w1.heap.size, 0, none⟩ hgs (fun e => Nat.not_succ_le_self _ (own_base hown.out _ e.symm))).trans pf0; have qf1 := (hgr8.frozen_far ⟨w1.heap.size, 1, none⟩ hgs (fun e => Nat.not_succ_le_self _ (own_base hown.out _ e.symm))).trans pf1; have B8 := below_grownB hb hb.size hgr8 (fun k hk => by have := own_base hown.out k hk; omega); have T8 : typ w8 w1.heap.size = some 26 := (by rw [← pT.out]; unfold typ; rw [hgr8.block _ hgs (fun e => Nat.not_succ_le_self _ (own_base hown.out _ e.symm))]); have O8 := Lib.hid hown8; clear hown8 hgr8)
        go_roundw
        case rel => exact ⟨6 + 1, _, by omega, by go_num, World.cell?_setCell_same _ _ _ q0, (World.cell?_setCell_other _ _ _ _ (by simp)).trans q1, (World.frozen?_setCell _ _ _ _).trans qf0, (World.frozen?_setCell _ _ _ _).trans qf1, Lib.hid ((typ_set _ _ _ _).trans T8), Lib.hid (own_cast (own_set O8.out (fun e => Nat.not_succ_le_self _ (own_base O8.out _ e.symm)) _) rfl (by rw [limF_succ, flat_app]; rfl)), below_set B8 (by simp) _⟩
        case measure => simp [intOf] <;> omega
      · go_wp2_with (at_builtin; go_must (refine append_cells (w1.heap.size + 1) rfl (.tmp 20) (.tmp 29) 23 28 (.agg #[.string ByteArray.empty, .int .i64 0, .int .i64 0, .int .i64 0, .int .i64 0, .int .i64 0]) 6 56 rfl Tryz.underlying23 info_feat rfl (by decide) (by decide) (.slice A' 7 c') 7 (flat encF (limF 7)) [.string (limName 7), .int .i64 2, .int .i64 0, .int .i64 6, .int .i64 0, .int .i64 1] rfl rfl rfl (by simp [Value.oneCell']) hown.out hgs (by omega) ?_); intro v8 w8 hown8 hgr8 _; obtain ⟨A8, c8, rfl, hc8⟩ := own_slice hown8; have q0 := grown_cell hgr8 p0 (fun k hk => by have := own_base hown.out k hk; show k ≠ w1.heap.size; omega); have q1 := grown_cell hgr8 p1 (fun k hk => by have := own_base hown.out k hk; show k ≠ w1.heap.size; omega); have qf0 := (hgr8.frozen_far ⟨w1.heap.size, 0, none⟩ hgs (fun e => Nat.not_succ_le_self _ (own_base hown.out _ e.symm))).trans pf0; have qf1 := (hgr8.frozen_far ⟨w1.heap.size, 1, none⟩ hgs (fun e => Nat.not_succ_le_self _ (own_base hown.out _ e.symm))).trans pf1; have B8 := below_grownB hb hb.size hgr8 (fun k hk => by have := own_base hown.out k hk; omega); have T8 : typ w8 w1.heap.size = some 26 := (by rw [← pT.out]; unfold typ; rw [hgr8.block _ hgs (fun e => Nat.not_succ_le_self _ (own_base hown.out _ e.symm))]); have O8 := Lib.hid hown8; clear hown8 hgr8)
        go_roundw
        case rel => exact ⟨7 + 1, _, by omega, by go_num, World.cell?_setCell_same _ _ _ q0, (World.cell?_setCell_other _ _ _ _ (by simp)).trans q1, (World.frozen?_setCell _ _ _ _).trans qf0, (World.frozen?_setCell _ _ _ _).trans qf1, Lib.hid ((typ_set _ _ _ _).trans T8), Lib.hid (own_cast (own_set O8.out (fun e => Nat.not_succ_le_self _ (own_base O8.out _ e.symm)) _) rfl (by rw [limF_succ, flat_app]; rfl)), below_set B8 (by simp) _⟩
        case measure => simp [intOf] <;> omega
      · go_wp2_with (at_builtin; go_must (refine append_cells (w1.heap.size + 1) rfl (.tmp 20) (.tmp 29) 23 28 (.agg #[.string ByteArray.empty, .int .i64 0, .int .i64 0, .int .i64 0, .int .i64 0, .int .i64 0]) 6 56 rfl Tryz.underlying23 info_feat rfl (by decide) (by decide) (.slice A' 8 c') 8 (flat encF (limF 8)) [.string (limName 8), .int .i64 2, .int .i64 0, .int .i64 7, .int .i64 0, .int .i64 1] rfl rfl rfl (by simp [Value.oneCell']) hown.out hgs (by omega) ?_); intro v8 w8 hown8 hgr8 _; obtain ⟨A8, c8, rfl, hc8⟩ := own_slice hown8; have q0 := grown_cell hgr8 p0 (fun k hk => by have := own_base hown.out k hk; show k ≠ w1.heap.size; omega); have q1 := grown_cell hgr8 p1 (fun k hk => by have := own_base hown.out k hk; show k ≠ w1.heap.size; omega); have qf0 := (hgr8.frozen_far ⟨w1.heap.size, 0, none⟩ hgs (fun e => Nat.not_succ_le_self _ (own_base hown.out _ e.symm))).trans pf0; have qf1 := (hgr8.frozen_far ⟨w1.heap.size, 1, none⟩ hgs (fun e => Nat.not_succ_le_self _ (own_base hown.out _ e.symm))).trans pf1; have B8 := below_grownB hb hb.size hgr8 (fun k hk => by have := own_base hown.out k hk; omega); have T8 : typ w8 w1.heap.size = some 26 := (by rw [← pT.out]; unfold typ; rw [hgr8.block _ hgs (fun e => Nat.not_succ_le_self _ (own_base hown.out _ e.symm))]); have O8 := Lib.hid hown8; clear hown8 hgr8)
        go_roundw
        case rel => exact ⟨8 + 1, _, by omega, by go_num, World.cell?_setCell_same _ _ _ q0, (World.cell?_setCell_other _ _ _ _ (by simp)).trans q1, (World.frozen?_setCell _ _ _ _).trans qf0, (World.frozen?_setCell _ _ _ _).trans qf1, Lib.hid ((typ_set _ _ _ _).trans T8), Lib.hid (own_cast (own_set O8.out (fun e => Nat.not_succ_le_self _ (own_base O8.out _ e.symm)) _) rfl (by rw [limF_succ, flat_app]; rfl)), below_set B8 (by simp) _⟩
        case measure => simp [intOf] <;> omega
      · go_wp2_with (at_builtin; go_must (refine append_cells (w1.heap.size + 1) rfl (.tmp 20) (.tmp 29) 23 28 (.agg #[.string ByteArray.empty, .int .i64 0, .int .i64 0, .int .i64 0, .int .i64 0, .int .i64 0]) 6 56 rfl Tryz.underlying23 info_feat rfl (by decide) (by decide) (.slice A' 9 c') 9 (flat encF (limF 9)) [.string (limName 9), .int .i64 2, .int .i64 0, .int .i64 8, .int .i64 0, .int .i64 1] rfl rfl rfl (by simp [Value.oneCell']) hown.out hgs (by omega) ?_); intro v8 w8 hown8 hgr8 _; obtain ⟨A8, c8, rfl, hc8⟩ := own_slice hown8; have q0 := grown_cell hgr8 p0 (fun k hk => by have := own_base hown.out k hk; show k ≠ w1.heap.size; omega); have q1 := grown_cell hgr8 p1 (fun k hk => by have := own_base hown.out k hk; show k ≠ w1.heap.size; omega); have qf0 := (hgr8.frozen_far ⟨w1.heap.size, 0, none⟩ hgs (fun e => Nat.not_succ_le_self _ (own_base hown.out _ e.symm))).trans pf0; have qf1 := (hgr8.frozen_far ⟨w1.heap.size, 1, none⟩ hgs (fun e => Nat.not_succ_le_self _ (own_base hown.out _ e.symm))).trans pf1; have B8 := below_grownB hb hb.size hgr8 (fun k hk => by have := own_base hown.out k hk; omega); have T8 : typ w8 w1.heap.size = some 26 := (by rw [← pT.out]; unfold typ; rw [hgr8.block _ hgs (fun e => Nat.not_succ_le_self _ (own_base hown.out _ e.symm))]); have O8 := Lib.hid hown8; clear hown8 hgr8)
        go_roundw
        case rel => exact ⟨9 + 1, _, by omega, by go_num, World.cell?_setCell_same _ _ _ q0, (World.cell?_setCell_other _ _ _ _ (by simp)).trans q1, (World.frozen?_setCell _ _ _ _).trans qf0, (World.frozen?_setCell _ _ _ _).trans qf1, Lib.hid ((typ_set _ _ _ _).trans T8), Lib.hid (own_cast (own_set O8.out (fun e => Nat.not_succ_le_self _ (own_base O8.out _ e.symm)) _) rfl (by rw [limF_succ, flat_app]; rfl)), below_set B8 (by simp) _⟩
        case measure => simp [intOf] <;> omega
      · go_wp2_with (at_builtin; go_must (refine append_cells (w1.heap.size + 1) rfl (.tmp 20) (.tmp 29) 23 28 (.agg #[.string ByteArray.empty, .int .i64 0, .int .i64 0, .int .i64 0, .int .i64 0, .int .i64 0]) 6 56 rfl Tryz.underlying23 info_feat rfl (by decide) (by decide) (.slice A' 10 c') 10 (flat encF (limF 10)) [.string (limName 10), .int .i64 2, .int .i64 0, .int .i64 9, .int .i64 0, .int .i64 1] rfl rfl rfl (by simp [Value.oneCell']) hown.out hgs (by omega) ?_); intro v8 w8 hown8 hgr8 _; obtain ⟨A8, c8, rfl, hc8⟩ := own_slice hown8; have q0 := grown_cell hgr8 p0 (fun k hk => by have := own_base hown.out k hk; show k ≠ w1.heap.size; omega); have q1 := grown_cell hgr8 p1 (fun k hk => by have := own_base hown.out k hk; show k ≠ w1.heap.size; omega); have qf0 := (hgr8.frozen_far ⟨w1.heap.size, 0, none⟩ hgs (fun e => Nat.not_succ_le_self _ (own_base hown.out _ e.symm))).trans pf0; have qf1 := (hgr8.frozen_far ⟨w1.heap.size, 1, none⟩ hgs (fun e => Nat.not_succ_le_self _ (own_base hown.out _ e.symm))).trans pf1; have B8 := below_grownB hb hb.size hgr8 (fun k hk => by have := own_base hown.out k hk; omega); have T8 : typ w8 w1.heap.size = some 26 := (by rw [← pT.out]; unfold typ; rw [hgr8.block _ hgs (fun e => Nat.not_succ_le_self _ (own_base hown.out _ e.symm))]); have O8 := Lib.hid hown8; clear hown8 hgr8)
        go_roundw
        case rel => exact ⟨10 + 1, _, by omega, by go_num, World.cell?_setCell_same _ _ _ q0, (World.cell?_setCell_other _ _ _ _ (by simp)).trans q1, (World.frozen?_setCell _ _ _ _).trans qf0, (World.frozen?_setCell _ _ _ _).trans qf1, Lib.hid ((typ_set _ _ _ _).trans T8), Lib.hid (own_cast (own_set O8.out (fun e => Nat.not_succ_le_self _ (own_base O8.out _ e.symm)) _) rfl (by rw [limF_succ, flat_app]; rfl)), below_set B8 (by simp) _⟩
        case measure => simp [intOf] <;> omega
      · go_wp2_with (at_builtin; go_must (refine append_cells (w1.heap.size + 1) rfl (.tmp 20) (.tmp 29) 23 28 (.agg #[.string ByteArray.empty, .int .i64 0, .int .i64 0, .int .i64 0, .int .i64 0, .int .i64 0]) 6 56 rfl Tryz.underlying23 info_feat rfl (by decide) (by decide) (.slice A' 11 c') 11 (flat encF (limF 11)) [.string (limName 11), .int .i64 2, .int .i64 0, .int .i64 10, .int .i64 0, .int .i64 1] rfl rfl rfl (by simp [Value.oneCell']) hown.out hgs (by omega) ?_); intro v8 w8 hown8 hgr8 _; obtain ⟨A8, c8, rfl, hc8⟩ := own_slice hown8; have q0 := grown_cell hgr8 p0 (fun k hk => by have := own_base hown.out k hk; show k ≠ w1.heap.size; omega); have q1 := grown_cell hgr8 p1 (fun k hk => by have := own_base hown.out k hk; show k ≠ w1.heap.size; omega); have qf0 := (hgr8.frozen_far ⟨w1.heap.size, 0, none⟩ hgs (fun e => Nat.not_succ_le_self _ (own_base hown.out _ e.symm))).trans pf0; have qf1 := (hgr8.frozen_far ⟨w1.heap.size, 1, none⟩ hgs (fun e => Nat.not_succ_le_self _ (own_base hown.out _ e.symm))).trans pf1; have B8 := below_grownB hb hb.size hgr8 (fun k hk => by have := own_base hown.out k hk; omega); have T8 : typ w8 w1.heap.size = some 26 := (by rw [← pT.out]; unfold typ; rw [hgr8.block _ hgs (fun e => Nat.not_succ_le_self _ (own_base hown.out _ e.symm))]); have O8 := Lib.hid hown8; clear hown8 hgr8)
        go_roundw
        case rel => exact ⟨11 + 1, _, by omega, by go_num, World.cell?_setCell_same _ _ _ q0, (World.cell?_setCell_other _ _ _ _ (by simp)).trans q1, (World.frozen?_setCell _ _ _ _).trans qf0, (World.frozen?_setCell _ _ _ _).trans qf1, Lib.hid ((typ_set _ _ _ _).trans T8), Lib.hid (own_cast (own_set O8.out (fun e => Nat.not_succ_le_self _ (own_base O8.out _ e.symm)) _) rfl (by rw [limF_succ, flat_app]; rfl)), below_set B8 (by simp) _⟩
        case measure => simp [intOf] <;> omega
      · go_wp2_with (at_builtin; go_must (refine append_cells (w1.heap.size + 1) rfl (.tmp 20) (.tmp 29) 23 28 (.agg #[.string ByteArray.empty, .int .i64 0, .int .i64 0, .int .i64 0, .int .i64 0, .int .i64 0]) 6 56 rfl Tryz.underlying23 info_feat rfl (by decide) (by decide) (.slice A' 12 c') 12 (flat encF (limF 12)) [.string (limName 12), .int .i64 2, .int .i64 0, .int .i64 11, .int .i64 0, .int .i64 1] rfl rfl rfl (by simp [Value.oneCell']) hown.out hgs (by omega) ?_); intro v8 w8 hown8 hgr8 _; obtain ⟨A8, c8, rfl, hc8⟩ := own_slice hown8; have q0 := grown_cell hgr8 p0 (fun k hk => by have := own_base hown.out k hk; show k ≠ w1.heap.size; omega); have q1 := grown_cell hgr8 p1 (fun k hk => by have := own_base hown.out k hk; show k ≠ w1.heap.size; omega); have qf0 := (hgr8.frozen_far ⟨w1.heap.size, 0, none⟩ hgs (fun e => Nat.not_succ_le_self _ (own_base hown.out _ e.symm))).trans pf0; have qf1 := (hgr8.frozen_far ⟨w1.heap.size, 1, none⟩ hgs (fun e => Nat.not_succ_le_self _ (own_base hown.out _ e.symm))).trans pf1; have B8 := below_grownB hb hb.size hgr8 (fun k hk => by have := own_base hown.out k hk; omega); have T8 : typ w8 w1.heap.size = some 26 := (by rw [← pT.out]; unfold typ; rw [hgr8.block _ hgs (fun e => Nat.not_succ_le_self _ (own_base hown.out _ e.symm))]); have O8 := Lib.hid hown8; clear hown8 hgr8)
        go_roundw
        case rel => exact ⟨12 + 1, _, by omega, by go_num, World.cell?_setCell_same _ _ _ q0, (World.cell?_setCell_other _ _ _ _ (by simp)).trans q1, (World.frozen?_setCell _ _ _ _).trans qf0, (World.frozen?_setCell _ _ _ _).trans qf1, Lib.hid ((typ_set _ _ _ _).trans T8), Lib.hid (own_cast (own_set O8.out (fun e => Nat.not_succ_le_self _ (own_base O8.out _ e.symm)) _) rfl (by rw [limF_succ, flat_app]; rfl)), below_set B8 (by simp) _⟩
        case measure => simp [intOf] <;> omega
      · go_wp2_with (at_builtin; go_must (refine append_cells (w1.heap.size + 1) rfl (.tmp 20) (.tmp 29) 23 28 (.agg #[.string ByteArray.empty, .int .i64 0, .int .i64 0, .int .i64 0, .int .i64 0, .int .i64 0]) 6 56 rfl Tryz.underlying23 info_feat rfl (by decide) (by decide) (.slice A' 13 c') 13 (flat encF (limF 13)) [.string (limName 13), .int .i64 2, .int .i64 0, .int .i64 12, .int .i64 0, .int .i64 1] rfl rfl rfl (by simp [Value.oneCell']) hown.out hgs (by omega) ?_); intro v8 w8 hown8 hgr8 _; obtain ⟨A8, c8, rfl, hc8⟩ := own_slice hown8; have q0 := grown_cell hgr8 p0 (fun k hk => by have := own_base hown.out k hk; show k ≠ w1.heap.size; omega); have q1 := grown_cell hgr8 p1 (fun k hk => by have := own_base hown.out k hk; show k ≠ w1.heap.size; omega); have qf0 := (hgr8.frozen_far ⟨w1.heap.size, 0, none⟩ hgs (fun e => Nat.not_succ_le_self _ (own_base hown.out _ e.symm))).trans pf0; have qf1 := (hgr8.frozen_far ⟨w1.heap.size, 1, none⟩ hgs (fun e => Nat.not_succ_le_self _ (own_base hown.out _ e.symm))).trans pf1; have B8 := below_grownB hb hb.size hgr8 (fun k hk => by have := own_base hown.out k hk; omega); have T8 : typ w8 w1.heap.size = some 26 := (by rw [← pT.out]; unfold typ; rw [hgr8.block _ hgs (fun e => Nat.not_succ_le_self _ (own_base hown.out _ e.symm))]); have O8 := Lib.hid hown8; clear hown8 hgr8)
        go_roundw
        case rel => exact ⟨13 + 1, _, by omega, by go_num, World.cell?_setCell_same _ _ _ q0, (World.cell?_setCell_other _ _ _ _ (by simp)).trans q1, (World.frozen?_setCell _ _ _ _).trans qf0, (World.frozen?_setCell _ _ _ _).trans qf1, Lib.hid ((typ_set _ _ _ _).trans T8), Lib.hid (own_cast (own_set O8.out (fun e => Nat.not_succ_le_self _ (own_base O8.out _ e.symm)) _) rfl (by rw [limF_succ, flat_app]; rfl)), below_set B8 (by simp) _⟩
        case measure => simp [intOf] <;> omega
      · go_wp2_with (at_builtin; go_must (refine append_cells (w1.heap.size + 1) rfl (.tmp 20) (.tmp 29) 23 28 (.agg #[.string ByteArray.empty, .int .i64 0, .int .i64 0, .int .i64 0, .int .i64 0, .int .i64 0]) 6 56 rfl Tryz.underlying23 info_feat rfl (by decide) (by decide) (.slice A' 14 c') 14 (flat encF (limF 14)) [.string (limName 14), .int .i64 2, .int .i64 0, .int .i64 13, .int .i64 0, .int .i64 1] rfl rfl rfl (by simp [Value.oneCell']) hown.out hgs (by omega) ?_); intro v8 w8 hown8 hgr8 _; obtain ⟨A8, c8, rfl, hc8⟩ := own_slice hown8; have q0 := grown_cell hgr8 p0 (fun k hk => by have := own_base hown.out k hk; show k ≠ w1.heap.size; omega); have q1 := grown_cell hgr8 p1 (fun k hk => by have := own_base hown.out k hk; show k ≠ w1.heap.size; omega); have qf0 := (hgr8.frozen_far ⟨w1.heap.size, 0, none⟩ hgs (fun e => Nat.not_succ_le_self _ (own_base hown.out _ e.symm))).trans pf0; have qf1 := (hgr8.frozen_far ⟨w1.heap.size, 1, none⟩ hgs (fun e => Nat.not_succ_le_self _ (own_base hown.out _ e.symm))).trans pf1; have B8 := below_grownB hb hb.size hgr8 (fun k hk => by have := own_base hown.out k hk; omega); have T8 : typ w8 w1.heap.size = some 26 := (by rw [← pT.out]; unfold typ; rw [hgr8.block _ hgs (fun e => Nat.not_succ_le_self _ (own_base hown.out _ e.symm))]); have O8 := Lib.hid hown8; clear hown8 hgr8)
        go_roundw
        case rel => exact ⟨14 + 1, _, by omega, by go_num, World.cell?_setCell_same _ _ _ q0, (World.cell?_setCell_other _ _ _ _ (by simp)).trans q1, (World.frozen?_setCell _ _ _ _).trans qf0, (World.frozen?_setCell _ _ _ _).trans qf1, Lib.hid ((typ_set _ _ _ _).trans T8), Lib.hid (own_cast (own_set O8.out (fun e => Nat.not_succ_le_self _ (own_base O8.out _ e.symm)) _) rfl (by rw [limF_succ, flat_app]; rfl)), below_set B8 (by simp) _⟩
        case measure => simp [intOf] <;> omega
      · go_wp2_with (at_builtin; go_must (refine append_cells (w1.heap.size + 1) rfl (.tmp 20) (.tmp 29) 23 28 (.agg #[.string ByteArray.empty, .int .i64 0, .int .i64 0, .int .i64 0, .int .i64 0, .int .i64 0]) 6 56 rfl Tryz.underlying23 info_feat rfl (by decide) (by decide) (.slice A' 15 c') 15 (flat encF (limF 15)) [.string (limName 15), .int .i64 2, .int .i64 0, .int .i64 14, .int .i64 0, .int .i64 1] rfl rfl rfl (by simp [Value.oneCell']) hown.out hgs (by omega) ?_); intro v8 w8 hown8 hgr8 _; obtain ⟨A8, c8, rfl, hc8⟩ := own_slice hown8; have q0 := grown_cell hgr8 p0 (fun k hk => by have := own_base hown.out k hk; show k ≠ w1.heap.size; omega); have q1 := grown_cell hgr8 p1 (fun k hk => by have := own_base hown.out k hk; show k ≠ w1.heap.size; omega); have qf0 := (hgr8.frozen_far ⟨w1.heap.size, 0, none⟩ hgs (fun e => Nat.not_succ_le_self _ (own_base hown.out _ e.symm))).trans pf0; have qf1 := (hgr8.frozen_far ⟨w1.heap.size, 1, none⟩ hgs (fun e => Nat.not_succ_le_self _ (own_base hown.out _ e.symm))).trans pf1; have B8 := below_grownB hb hb.size hgr8 (fun k hk => by have := own_base hown.out k hk; omega); have T8 : typ w8 w1.heap.size = some 26 := (by rw [← pT.out]; unfold typ; rw [hgr8.block _ hgs (fun e => Nat.not_succ_le_self _ (own_base hown.out _ e.symm))]); have O8 := Lib.hid hown8; clear hown8 hgr8)
        go_roundw
        case rel => exact ⟨15 + 1, _, by omega, by go_num, World.cell?_setCell_same _ _ _ q0, (World.cell?_setCell_other _ _ _ _ (by simp)).trans q1, (World.frozen?_setCell _ _ _ _).trans qf0, (World.frozen?_setCell _ _ _ _).trans qf1, Lib.hid ((typ_set _ _ _ _).trans T8), Lib.hid (own_cast (own_set O8.out (fun e => Nat.not_succ_le_self _ (own_base O8.out _ e.symm)) _) rfl (by rw [limF_succ, flat_app]; rfl)), below_set B8 (by simp) _⟩
        case measure => simp [intOf] <;> omega
      · go_wp2_with (at_builtin; go_must (refine append_cells (w1.heap.size + 1) rfl (.tmp 20) (.tmp 29) 23 28 (.agg #[.string ByteArray.empty, .int .i64 0, .int .i64 0, .int .i64 0, .int .i64 0, .int .i64 0]) 6 56 rfl Tryz.underlying23 info_feat rfl (by decide) (by decide) (.slice A' 16 c') 16 (flat encF (limF 16)) [.string (limName 16), .int .i64 2, .int .i64 0, .int .i64 15, .int .i64 0, .int .i64 1] rfl rfl rfl (by simp [Value.oneCell']) hown.out hgs (by omega) ?_); intro v8 w8 hown8 hgr8 _; obtain ⟨A8, c8, rfl, hc8⟩ := own_slice hown8; have q0 := grown_cell hgr8 p0 (fun k hk => by have := own_base hown.out k hk; show k ≠ w1.heap.size; omega); have q1 := grown_cell hgr8 p1 (fun k hk => by have := own_base hown.out k hk; show k ≠ w1.heap.size; omega); have qf0 := (hgr8.frozen_far ⟨w1.heap.size, 0, none⟩ hgs (fun e => Nat.not_succ_le_self _ (own_base hown.out _ e.symm))).trans pf0; have qf1 := (hgr8.frozen_far ⟨w1.heap.size, 1, none⟩ hgs (fun e => Nat.not_succ_le_self _ (own_base hown.out _ e.symm))).trans pf1; have B8 := below_grownB hb hb.size hgr8 (fun k hk => by have := own_base hown.out k hk; omega); have T8 : typ w8 w1.heap.size = some 26 := (by rw [← pT.out]; unfold typ; rw [hgr8.block _ hgs (fun e => Nat.not_succ_le_self _ (own_base hown.out _ e.symm))]); have O8 := Lib.hid hown8; clear hown8 hgr8)
        go_roundw
        case rel => exact ⟨16 + 1, _, by omega, by go_num, World.cell?_setCell_same _ _ _ q0, (World.cell?_setCell_other _ _ _ _ (by simp)).trans q1, (World.frozen?_setCell _ _ _ _).trans qf0, (World.frozen?_setCell _ _ _ _).trans qf1, Lib.hid ((typ_set _ _ _ _).trans T8), Lib.hid (own_cast (own_set O8.out (fun e => Nat.not_succ_le_self _ (own_base O8.out _ e.symm)) _) rfl (by rw [limF_succ, flat_app]; rfl)), below_set B8 (by simp) _⟩
        case measure => simp [intOf] <;> omega
    · obtain rfl : k = i := by omega
      have hgs' : ¬ w1.heap.size = wr.heap.size := by omega
      obtain ⟨mq, hmq⟩ : ∃ mq : Nat, mq = min qb (2 * k + 1) := ⟨_, rfl⟩
      have hmin : min (qb : Int) (2 * (k : Int) + 1) = (mq : Int) := by rw [hmq]; omega
      have hmq33 : mq ≤ 33 := by omega
      have hmq' := Lib.hid hmq
      clear hmq
      have hRF := Lib.hid (Reads.of_own (base := 0) hown.out)
      go_wp2_with fail
      go_loopw [42] (fun q w9 => ∃ (j : Nat) (v : Value), j ≤ mq ∧ q = .int .i64 (j : Int) ∧ w9.cell? ⟨w1.heap.size, 0, none⟩ = some (.slice A' k c') ∧ w9.cell? ⟨w1.heap.size, 1, none⟩ = some v ∧ w9.frozen? ⟨w1.heap.size, 1, none⟩ = false ∧ Hid (typ w9 w1.heap.size = some 26) ∧
          Hid (Reads 0 28 w9 A' (flat encF (limF k))) ∧ Hid (w9.ownsRow (w1.heap.size + 1) 30 5 v j (flat encZ (limZ j))) ∧ Below w1.heap.size w1 w9) (fun q _ => mq - (intOf q).toNat)
      case atStart => exact ⟨0, .slice none 0 0, Nat.zero_le _, rfl, p0, p1, pf1, pT, hRF, Lib.hid (own_nil _ _ _ _), hb⟩
      case round =>
        obtain ⟨j, v, hj, rfl, p0, p1, pf1, pT, hRF, hown, hb⟩ := hrel
        obtain ⟨Az, cz, rfl, hcz⟩ := own_slice hown.out
        have hgs : w1.heap.size < wr.heap.size := World.block_lt_of_cell? wr _ p0
        have hgs' : ¬ w1.heap.size = wr.heap.size := by omega
        by_cases hlt : j < mq
        · have hr2 : Int.tmod (j : Int) 2 = ((j % 2 : Nat) : Int) := rfl
          have hq2 : Int.tdiv (j : Int) 2 = ((j / 2 : Nat) : Int) := rfl
          go_wp2_with (at_builtin; go_must (refine append_cells (w1.heap.size + 1) rfl (.tmp 46) (.tmp 53) 24 30 (.agg #[.int .i64 0, .int .i64 0, .int .i64 0, .int .i64 0, .bool false]) 5 40 rfl Tryz.underlying24 info_zone rfl (by decide) (by decide) (.slice Az j cz) j (flat encZ (limZ j)) [.int .i64 (1 + ((j % 2 : Nat) : Int)), .int .i64 ((j / 2 : Nat) : Int), .int .i64 0, .int .i64 0, .bool false] rfl rfl rfl (by simp [Value.oneCell']) hown.out hgs (by omega) ?_); intro v8 w8 hown8 hgr8 _; obtain ⟨A8, c8, rfl, hc8⟩ := own_slice hown8; have q0 := grown_cell hgr8 p0 (fun k hk => by have := own_base hown.out k hk; show k ≠ w1.heap.size; omega); have q1 := grown_cell hgr8 p1 (fun k hk => by have := own_base hown.out k hk; show k ≠ w1.heap.size; omega); have qf1 := (hgr8.frozen_far ⟨w1.heap.size, 1, none⟩ hgs (fun e => Nat.not_succ_le_self _ (own_base hown.out _ e.symm))).trans pf1; have K8 := Keeps.of_grown (base := 0) (e := 28) hgr8 hown.out (Nat.zero_le _) (by decide); have T8 : typ w8 w1.heap.size = some 26 := (by rw [← pT.out]; unfold typ; rw [hgr8.block _ hgs (fun e => Nat.not_succ_le_self _ (own_base hown.out _ e.symm))]); have R8 := hRF.out.keeps K8; have B8 := below_grownB hb hb.size hgr8 (fun k hk => by have := own_base hown.out k hk; omega); have O8 := Lib.hid hown8; clear hown8 hgr8 K8)
          go_roundw
          case rel => exact ⟨j + 1, _, by omega, by go_num, (World.cell?_setCell_other _ _ _ _ (by simp)).trans q0, World.cell?_setCell_same _ _ _ q1, (World.frozen?_setCell _ _ _ _).trans qf1, Lib.hid ((typ_set _ _ _ _).trans T8), Lib.hid (R8.keeps ((Keeps.refl _ _ _).set (Nat.zero_le _) (by show typ w8 w1.heap.size ≠ _; rw [T8]; decide) _)), Lib.hid (own_cast (own_set O8.out (fun e => Nat.not_succ_le_self _ (own_base O8.out _ e.symm)) _) rfl (by rw [limZ_succ, flat_app]; rfl)), below_set B8 (by simp) _⟩
          case measure => simp [intOf]; omega
        · obtain rfl : mq = j := by omega
          have hf : ∀ W, Below wr.heap.size wr W → IsFs 0 28 W A' k c' (limS k mq).fs := fun W hW => IsRow.below (w := wr) ⟨limF_len k, hc', hRF.out⟩ hW
          have hz : ∀ W, Below wr.heap.size wr W → IsZs 0 30 W Az mq cz (limS k mq).zs := fun W hW => IsRow.below (w := wr) ⟨limZ_len mq, hcz, Reads.of_own hown.out⟩ hW
          have HV := Lib.hid (Variables_any 0 _ _ _ _ _ _ (limS k mq) wr (hf wr (Below.refl _ _)) (hz wr (Below.refl _ _)))
          have HM := Lib.hid (fun W (hW : Below wr.heap.size wr W) => (show Calls Tryz.prog 9 #[.agg #[.slice A' k c', .slice Az mq cz]] W (fun e w' => e = .returned (.int .i64 (checkE (limS k mq))) ∧ Below W.heap.size W w') from mcheck_any 0 _ _ _ _ _ _ (limF k) (limZ mq) W (hf W hW) (hz W hW)))
          have HC := Lib.hid (fun W (hW : Below wr.heap.size wr W) => Check_any 0 _ _ _ _ _ _ (limS k mq) W (hf W hW) (hz W hW))
          have hld := lim_dims k mq
          generalize dimsOf (limS k mq) = ds at HV hld
          generalize checkE (limS k mq) = E at HV HM HC
          clear hf hz hown hRF
          by_cases hE : E = 0
          · subst hE
            rw [if_pos rfl] at HV
            go_wp2_with fail
            refine HV.out.mono ?_
            rintro e w2 ⟨Ad, nd, cd, rfl, hd, hb2⟩
            have hdl := hd.len
            have hnd : (nd : Int) = 2 * (k : Int) := by omega
            have p0 := cell_below hb2 p0
            have p1 := cell_below hb2 p1
            go_wp2_with fail
            refine (HM.out _ hb2).mono ?_
            rintro e w3 ⟨rfl, hb3⟩
            have p0 := cell_below hb3 p0
            have p1 := cell_below hb3 p1
            have B3 := below_then hb2 hb3
            go_wp2_with fail
            refine (HC.out _ B3).mono ?_
            rintro e w4 ⟨rfl, hb4⟩
            have p0 := cell_below hb4 p0
            have p1 := cell_below hb4 p1
            have B4 := below_then hb (below_then B3 hb4)
            clear hd hdl hld HV HM HC
            go_wp2_with fail
            go_ret
            exact ⟨by first | rfl | (simp [hnd]), below_then hb1 B4⟩
          · rw [if_neg hE] at HV
            have hEd : (E != 0) = true := by simpa using hE
            go_wp2_with fail
            refine HV.out.mono ?_
            rintro e w2 ⟨Ad, nd, cd, rfl, hd, hb2⟩
            have p0 := cell_below hb2 p0
            have p1 := cell_below hb2 p1
            go_wp2_with fail
            refine (HM.out _ hb2).mono ?_
            rintro e w3 ⟨rfl, hb3⟩
            have p0 := cell_below hb3 p0
            have p1 := cell_below hb3 p1
            have B3 := below_then hb2 hb3
            go_wp2_with fail
            refine (HC.out _ B3).mono ?_
            rintro e w4 ⟨rfl, hb4⟩
            have p0 := cell_below hb4 p0
            have p1 := cell_below hb4 p1
            have B4 := below_then hb (below_then B3 hb4)
            clear hd hld HV HM HC
            go_wp2_with fail
            go_ret
            exact ⟨by first | rfl | simp, below_then hb1 B4⟩
end Go.Proofs.YtpifbaiibhaklaaGreatDoor
namespace Go.Proofs.YtpifbaiibhaklaaGreatDoor
open Go.ChangeShapes Go.WideShapes Go.ChangeAt Go.RowKit

section
variable {H : Type} {enc : TypeId × Value → H} {P : Program}
theorem post_of_below {f : Func} {s : ChangeSpec} {apart fresh handsOn again : Bool} {W W' : World} {args : Array Value} {v : Value} {ds gs : List (DataW H)} {before pa pv : List MemPlace}
    (hW : DataW.Whole enc P f.params.toList s.vars apart W args.toList ds gs before)
    (hres : ∀ (b : Nat) (sp : Nat → Bool) (hd : Bool), DataW.TrodAll enc P W' b sp hd f.resultTypes.toList (v.resultList f.resultTypes.size) (s.fn H (ds ++ gs)).results [])
    (hargs : ∀ sp : Nat → Bool, (∀ p ∈ before, sp p.block = true) → DataW.TrodAll enc P W' 0 sp true f.params.toList args.toList (s.fn H (ds ++ gs)).args pa)
    (hvars : ∀ sp : Nat → Bool, (∀ p ∈ before, sp p.block = true) → DataW.TrodVars enc P W' sp s.vars (s.fn H (ds ++ gs)).vars pv)
    (hps : before = pa ++ pv) (hb : Below W.heap.size W W')
    (hok : ∀ (j : Nat) (t : TypeId) (r : Value), f.resultTypes[j]? = some t → (v.resultList f.resultTypes.size)[j]? = some r → Value.okWide P W' .any 0 t r) :
    s.post enc P f apart fresh handsOn again W args v W' := by
  have hlt : ∀ p ∈ before, p.block < W.heap.size := fun p hp => hW.lt p hp
  have hold : ∀ p ∈ before, (fun b => decide (b < W.heap.size)) p.block = true := fun p hp => by simpa using hlt p hp
  refine ⟨ds, gs, before, [], pa, pv, hW, hres _ _ _, hargs _ hold, hvars _ hold, World.keptBut_mono (fun p hp => ⟨hp, ?_⟩) (hb.frame (· ∈ before)), fun _ => ?_⟩
  · rw [hps, List.mem_append] at hp
    exact Or.inr hp
  · obtain ⟨_, _, _, _, _, hz, hn⟩ := hW
    refine ⟨hok, _, _, ([] ++ pa) ++ pv, ⟨[] ++ pa, pv, trodAll_append (hargs _ (fun _ _ => rfl)) (hres _ _ _), hvars _ (fun _ _ => rfl), rfl, ?_, ?_⟩, ?_⟩
    · intro b off hp
      have hin : MemPlace.cell b off ∈ before := by rw [hps]; simpa using hp
      rw [hb.frozen (hlt _ hin)]
      exact hz b off hin
    · intro ha
      have := hn ha
      rw [hps] at this
      simpa using this
    · intro p hp _
      rw [hps]
      simpa using hp
end
theorem ownK : ownKnob Tryz.prog.godebug = none := by kernel_rfl
theorem gMax : Tryz.prog.globalNamed "internal/bytealg.MaxLen" = some 0 := by kernel_rfl
theorem gPowType : (Tryz.prog.globals[1]?).map (·.type) = some 217 := by kernel_rfl
theorem cellsPow : Tryz.prog.cellsOf 217 = 20 := by kernel_rfl
theorem cellsU64 : Tryz.prog.cellsOf 135 = 1 := by kernel_rfl
theorem tabPow {W : World} (h : laidMetH Tryz.prog Rows.datumLimitsRow.laid W) : Lib.TabIs Tryz.prog W "internal/strconv.uint64pow10" .u64 Lib.pow10Tab := by
  have h2 := h.filter (fun x => x.1 == "internal/strconv.uint64pow10")
  exact Lib.tabIs_of_head (rest := []) gPow gPowType Tryz.underlying217 Tryz.underlying135 cellsU64 cellsPow h2
theorem size8 {W : World} (hsh : W.ShapedOpen Tryz.prog) : 8 ≤ W.heap.size := by
  have hs : ((begin Tryz.prog (fun _ _ => 0) default).world.heap[7]?.bind Obj.row?).isSome = true := by kernel_rfl
  obtain ⟨⟨z, t⟩, hz⟩ := Option.isSome_iff_exists.1 hs
  obtain ⟨cs, hc, _⟩ := hsh.1 7 z t (of_decide_eq_true (by kernel_rfl)) hz
  exact (Array.getElem?_eq_some_iff.1 hc).1
theorem good_of {W : World} (hL : laidMetH Tryz.prog Rows.datumLimitsRow.laid W) (hsh : W.ShapedOpen Tryz.prog) : Good W :=
  ⟨size8 hsh, tabPow hL, Tryz.laysM219.s1_3 W hsh⟩
set_option maxRecDepth 100000 in
theorem contract (H : Type) (enc : TypeId × Value → H) (W : World) (base : Nat) (args : Array Value) (ds gs : List (DataW H)) (before : List MemPlace)
    (hval : ∀ (j : Nat) t v, Tryz.f3.params[j]? = some t → args[j]? = some v → Value.okWide Tryz.prog W .any base t v)
    (hW : DataW.Whole enc Tryz.prog Tryz.f3.params.toList Rows.datumLimitsSpec.vars false W args.toList ds gs before) (hL : laidMetH Tryz.prog Rows.datumLimitsRow.laid W) (hsh : W.ShapedOpen Tryz.prog) :
    Calls Tryz.prog 3 args W fun e W' => ∃ v, e = .returned v ∧ Rows.datumLimitsSpec.post enc Tryz.prog Tryz.f3 false true false false W args v W' := by
  have hW' := hW
  obtain ⟨p, q, hA0, hV, rfl, hfz, hnd⟩ := hW
  have hA : DataW.TrodAll enc Tryz.prog W 0 (fun _ => true) true Tryz.f3.params.toList args.toList ds p := hA0
  rw [Tryz.params3] at hA hval
  obtain ⟨v0, vs0, d0, ds0, p0, q0, hargs, rfl, rfl, h0, r0⟩ := trodAll_cons hA
  obtain ⟨v1, vs1, d1, ds1, p1, q1, hargs1, rfl, rfl, h1, r1⟩ := trodAll_cons r0
  obtain ⟨rfl, rfl, rfl⟩ := trodAll_nil r1
  subst hargs1
  obtain rfl : args = #[v0, v1] := Array.ext' (by rw [hargs])
  obtain ⟨rfl, rfl⟩ := trodVars_none hV
  obtain ⟨a, rfl, rfl, rfl, wa⟩ := open_int Tryz.underlying5 (hval 0 5 v0 rfl rfl) h0
  obtain ⟨b, rfl, rfl, rfl, wb⟩ := open_int Tryz.underlying5 (hval 1 5 v1 rfl rfl) h1
  clear hA0
  simp only [List.append_nil] at hW'
  have ba := bounds_u8 wa
  have bb := bounds_u8 wb
  obtain ⟨ba1, ba2⟩ := ba
  obtain ⟨bb1, bb2⟩ := bb
  have hg0 := good_of hL hsh
  clear hL hsh hval h0 h1 hA hfz hnd
  obtain ⟨x, rfl⟩ := Int.eq_ofNat_of_zero_le ba1
  obtain ⟨y, rfl⟩ := Int.eq_ofNat_of_zero_le bb1
  refine (DatumLimits_any x y (by omega) (by omega) W hg0).mono fun e W' ⟨he, hg⟩ => ?_
  subst he
  exact ⟨_, rfl, post_of_below (pa := []) (pv := []) hW' (fun _ _ _ => trodAll_cons_mk (shut_bool Tryz.underlying4 _) trodAll_mk0) (fun _ _ => trodAll_cons_mk (shut_int Tryz.underlying5 wa) (trodAll_cons_mk (shut_int Tryz.underlying5 wb) trodAll_mk0)) (fun _ _ => rfl) rfl
    hg (ok_one (by kernel_rfl) rfl (okWide_bool_mk Tryz.underlying4 _))⟩
end Go.Proofs.YtpifbaiibhaklaaGreatDoor
namespace Go.Proofs.YtpifbaiibhaklaaGreatDoor
open Go.ChangeShapes Go.WideShapes Go.ChangeAt Go.RowKit

/-- THE WITNESS's WORLD: the settled one, each listed variable holding what its initialiser lays. -/
noncomputable def low : Nat := (World.holding Tryz.prog default ⟨#[], #[], []⟩).heap.size
def nums (k : IntKind) (l : List Int) : Array Value := (l.map fun z => Value.int k z).toArray
def laidText (d : DataW Unit) : ByteArray := match d with | .iface _ (.ptr (.agg [.lit (.string s)])) => ⟨s.toArray⟩ | _ => ByteArray.empty
mutual
def laidCells : DataW Unit → List Value
  | .lit (.int k z) => [.int k z]
  | .agg l => laidCellsL l
  | _ => []
def laidCellsL : List (DataW Unit) → List Value
  | [] => []
  | d :: l => laidCells d ++ laidCellsL l
end
def cellsOfBlock (g : Nat) : Option (Array Value) :=
  match g with
  | 1 => some (laidCells Rows.laid_internal_strconv_uint64pow10).toArray
  | 2 => some (laidCells Rows.laid_unicode_utf8_first).toArray
  | 3 => some (laidCells Rows.laid_unicode_utf8_acceptRanges).toArray
  | 6 => some (laidCells Rows.laid_math_bits_deBruijn32tab).toArray
  | 7 => some (laidCells Rows.laid_math_bits_deBruijn64tab).toArray
  | _ => none
noncomputable def setBlock (heap : Array Obj) (g : Nat) (cs : List Value) : Array Obj :=
  heap.modify g fun
    | .cells _ t frozen => .cells cs.toArray t frozen
    | o => o
noncomputable def laidWorld (os : Os) : World :=
  let w0 := World.holding Tryz.prog os ⟨#[.cells #[.string (laidText Rows.laid_strconv_ErrSyntax)] 230, .cells #[.string (laidText Rows.laid_strconv_ErrRange)] 230], #[], []⟩
  { w0 with heap := setBlock (setBlock (setBlock (setBlock (setBlock (setBlock (setBlock w0.heap
      1 (laidCells Rows.laid_internal_strconv_uint64pow10)) 2 (laidCells Rows.laid_unicode_utf8_first)) 3 (laidCells Rows.laid_unicode_utf8_acceptRanges))
      6 (laidCells Rows.laid_math_bits_deBruijn32tab)) 7 (laidCells Rows.laid_math_bits_deBruijn64tab))
      4 [.iface 228 (.pointer (some ⟨low, 0, none⟩))]) 5 [.iface 228 (.pointer (some ⟨low + 1, 0, none⟩))] }
theorem laid_met (os : Os) : laidMet Tryz.prog Rows.datumLimitsRow.laid ((laidWorld os).forCall (fun _ _ => 0) ⟨#[], #[.int .u8 0, .int .u8 0], []⟩).memory :=
  laidMet_of_run' 8 (by kernel_rfl) (by kernel_rfl)
theorem reads (os : Os) {H : Type} (enc : TypeId × Value → H) : ∃ places, DataW.whole enc Tryz.prog ((laidWorld os).forCall (fun _ _ => 0) ⟨#[], #[.int .u8 0, .int .u8 0], []⟩).memory Tryz.f3.params.toList Rows.datumLimitsSpec.vars false #[Value.int .u8 0, .int .u8 0].toList 8 = some ([.lit (.int .u8 0), .lit (.int .u8 0)], [], places) :=
  ⟨[], by kernel_rfl⟩

set_option maxRecDepth 100000 in
theorem lifted (os : Os) (started : os.Started) (H : Type) (enc : TypeId × Value → H) (F : Stop.Interp) :
    ReturnsInHanded {} Tryz.checked os 3 .any ((OpenSpec.ofChange Rows.datumLimitsSpec).preRow enc Tryz.prog Tryz.f3 Rows.datumLimitsRow.domain false Rows.datumLimitsRow.laid) (((OpenSpec.ofChange Rows.datumLimitsSpec).at F).post enc Tryz.prog Tryz.f3 false true false false) := by
  obtain ⟨places, hx⟩ := reads os enc
  refine returnsInHanded_of_row (C := Tryz.checked) (s := OpenSpec.ofChange Rows.datumLimitsSpec) ownK started (by kernel_rfl) Tryz.func3
    (witness_row_at (enc := enc) (C := Tryz.checked) false (laidWorld os) #[.int .u8 0, .int .u8 0] rfl (by kernel_rfl) (by kernel_rfl) (by kernel_rfl)
      (OpenSpec.preRow_of_cond 8 hx (by kernel_rfl) (fun k hk => by cases hk) (by kernel_rfl) (laid_met os))) ?_
  intro W base args ds gs before hval hW _ _ _ hL hsh _
  exact contract H enc W base args ds gs before hval hW hL hsh

theorem said : Rows.DatumLimitsSaid :=
  OpenClaim.holds_of_cond 3 Tryz.f3 rfl rfl rfl rfl rfl rfl rfl ⟨rfl, rfl, rfl, rfl, rfl⟩ rfl rfl rfl rfl rfl (by kernel_rfl) Tryz.func3 (by kernel_rfl)
    (of_decide_eq_true (by kernel_rfl)) (by unfold Func.isWrapper; first | (rw [if_pos (by decide +kernel)]; kernel_rfl) | (rw [if_neg (by decide +kernel)]; exact ⟨rfl, rfl⟩))
    (fun os started H enc _ F => by rw [OpenClaim.pre_eq_preRow]; exact lifted os started H enc F)

theorem plain (f : FuncId) (fn : Func) (hf : Tryz.pinned.checked.prog.funcNamed "dowel/dowellaw38.DatumLimits" = some f) (hfn : Tryz.pinned.checked.prog.funcs[f]? = some fn) :
    true = Tryz.pinned.checked.prog.looks [] ∧ ∀ (j : Nat) t, fn.params[j]? = some t → Tryz.pinned.checked.prog.wantsStandIn t = false := by
  obtain rfl : f = 3 := Option.some.inj ((show Tryz.prog.funcNamed "dowel/dowellaw38.DatumLimits" = some 3 by kernel_rfl).symm.trans hf) |>.symm
  obtain rfl : fn = Tryz.f3 := (Option.some.inj (Tryz.func3.symm.trans hfn)).symm
  refine ⟨by kernel_rfl, fun j t ht => ?_⟩
  rw [Tryz.params3] at ht
  obtain rfl : t = 5 := by simpa using Array.mem_of_getElem? ht
  exact (show Tryz.prog.wantsStandIn 5 = false by kernel_rfl)

/-- ████ THE CARD ████ -/
theorem datumLimitsCard : Rows.DatumLimitsCardSaid :=
  Claim7.holds_tied_plain_at .later [] _ _ _ _ said (fun _ h => by cases h) (by kernel_rfl) (fun _ h => by cases h) datumLimits_row_tie rfl ⟨rfl, rfl⟩ (by kernel_rfl) rfl plain (by kernel_rfl)
end Go.Proofs.YtpifbaiibhaklaaGreatDoor
