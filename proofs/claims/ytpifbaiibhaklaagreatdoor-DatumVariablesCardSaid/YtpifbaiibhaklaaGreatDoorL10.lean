/- The model's check. (Printed by gend6.py.)
  An argument that is a scheme (two slices of structs): opened to its cells, and handed back as it was.
  few: whether a scheme is small enough; the model of the law asks it.
  Package datum: with, and the ways of Chain, Variable, Place and Between that it shuts.
  What all cards of this seat share: from a call that leaves old memory as it was to the row; the listed variables; the witness's world. -/
import Derived.Test.YtpifbaiibhaklaaGreatDoorL4
import Derived.Test.YtpifbaiibhaklaaGreatDoorL9
import Derived.Test.YtpifbaiibhaklaaGreatDoorL2
import Derived.ProofKit
import Derived.OpenShut
import Derived.Below
import Derived.ChangeSame
import Derived.Deep.Fields
import Derived.WideKeyArgs
import Derived.Test.YtpifbaiibhaklaaGreatDoorL1
import Derived.Test.YtpifbaiibhaklaaGreatDoorCards
import Derived.Test.YtpifbaiibhaklaaGreatDoorTie
import Derived.Deep.DeepHandedRow
import Derived.Lib.LaidTab
namespace Go.Proofs.YtpifbaiibhaklaaGreatDoor
open Go.RowKit Big
set_option maxHeartbeats 40000000
set_option linter.unusedVariables false
set_option linter.unusedSimpArgs false

theorem zone_first {zs : List Zon} {j : Nat} (hj : j < zs.length) : (idxI (zoneP (zs.getD j zd).feature (zs.getD j zd).kind) zs != (j : Int)) = (zs.take j).any (dupP (zs.getD j zd)) := by
  have hpe : zoneP (zs.getD j zd).feature (zs.getD j zd).kind = dupP (zs.getD j zd) := by
    funext z
    unfold zoneP dupP
    exact Bool.and_comm _ _
  rw [hpe]
  have hp : dupP (zs.getD j zd) (zs.getD j zd) = true := by unfold dupP; simp
  generalize hq : dupP (zs.getD j zd) = p at hp ⊢
  cases h : (zs.take j).any p with
  | false => rw [idxI_found p zs zd j hj h hp]; simp
  | true =>
    rw [bne_iff_ne]
    intro e
    obtain ⟨x, hx, hpx⟩ := List.any_eq_true.1 h
    obtain ⟨k, hk, rfl⟩ := List.mem_iff_getElem.1 hx
    have hk2 : k < j := by simp at hk; omega
    have hany : zs.any p = true := List.any_eq_true.2 ⟨_, List.mem_of_mem_take hx, hpx⟩
    unfold idxI at e
    rw [if_pos hany] at e
    have e : zs.findIdx p = j := by omega
    have := List.not_of_lt_findIdx (p := p) (xs := zs) (i := k) (by omega)
    rw [List.getElem_take] at hpx
    simp [hpx] at this
theorem mze_0 (kind feature lower upper : Int) (bonus slot dup : Bool) (n : Nat) (a1 : kind < 1) : zoneErr1 ⟨kind, feature, lower, upper, bonus⟩ n slot dup = 12 := by
  simp only [zoneErr1] <;> (repeat' split) <;> first | rfl | omega | simp_all
theorem mze_1 (kind feature lower upper : Int) (bonus slot dup : Bool) (n : Nat) (a1 : ¬ kind < 1) (a2 : 3 < kind) : zoneErr1 ⟨kind, feature, lower, upper, bonus⟩ n slot dup = 12 := by
  simp only [zoneErr1] <;> (repeat' split) <;> first | rfl | omega | simp_all
theorem mze_2 (kind feature lower upper : Int) (bonus slot dup : Bool) (n : Nat) (a1 : ¬ kind < 1) (a2 : ¬ 3 < kind) (a3 : feature < 0) : zoneErr1 ⟨kind, feature, lower, upper, bonus⟩ n slot dup = 10 := by
  simp only [zoneErr1] <;> (repeat' split) <;> first | rfl | omega | simp_all
theorem mze_3 (kind feature lower upper : Int) (bonus slot dup : Bool) (n : Nat) (a1 : ¬ kind < 1) (a2 : ¬ 3 < kind) (a3 : ¬ feature < 0) (a4 : (n : Int) ≤ feature) : zoneErr1 ⟨kind, feature, lower, upper, bonus⟩ n slot dup = 10 := by
  simp only [zoneErr1] <;> (repeat' split) <;> first | rfl | omega | simp_all
theorem mze_4 (kind feature lower upper : Int) (bonus slot dup : Bool) (n : Nat) (a1 : ¬ 1 < 1) (a2 : ¬ 3 < 1) (a3 : ¬ feature < 0) (a4 : ¬ (n : Int) ≤ feature) (e3 : farB lower = false) (e4 : farB upper = false) (b1 : upper < lower) : zoneErr1 ⟨1, feature, lower, upper, false⟩ n false dup = 8 := by
  simp only [zoneErr1, e3, e4] <;> (repeat' split) <;> first | rfl | omega | simp_all
theorem mze_5 (kind feature lower upper : Int) (bonus slot dup : Bool) (n : Nat) (a1 : ¬ 1 < 1) (a2 : ¬ 3 < 1) (a3 : ¬ feature < 0) (a4 : ¬ (n : Int) ≤ feature) (e3 : farB lower = false) (e4 : farB upper = false) (b1 : ¬ upper < lower) : zoneErr1 ⟨1, feature, lower, upper, false⟩ n false false = 0 := by
  simp only [zoneErr1, e3, e4] <;> (repeat' split) <;> first | rfl | omega | simp_all
theorem mze_6 (kind feature lower upper : Int) (bonus slot dup : Bool) (n : Nat) (a1 : ¬ 1 < 1) (a2 : ¬ 3 < 1) (a3 : ¬ feature < 0) (a4 : ¬ (n : Int) ≤ feature) (e3 : farB lower = false) (e4 : farB upper = false) (b1 : ¬ upper < lower) : zoneErr1 ⟨1, feature, lower, upper, false⟩ n false true = 9 := by
  simp only [zoneErr1, e3, e4] <;> (repeat' split) <;> first | rfl | omega | simp_all
theorem mze_7 (kind feature lower upper : Int) (bonus slot dup : Bool) (n : Nat) (a1 : ¬ 1 < 1) (a2 : ¬ 3 < 1) (a3 : ¬ feature < 0) (a4 : ¬ (n : Int) ≤ feature) (e3 : farB lower = false) (e4 : farB upper = true) : zoneErr1 ⟨1, feature, lower, upper, false⟩ n false dup = 2 := by
  simp only [zoneErr1, e3, e4] <;> (repeat' split) <;> first | rfl | omega | simp_all
theorem mze_8 (kind feature lower upper : Int) (bonus slot dup : Bool) (n : Nat) (a1 : ¬ 1 < 1) (a2 : ¬ 3 < 1) (a3 : ¬ feature < 0) (a4 : ¬ (n : Int) ≤ feature) (e3 : farB lower = true) : zoneErr1 ⟨1, feature, lower, upper, false⟩ n false dup = 2 := by
  simp only [zoneErr1, e3] <;> (repeat' split) <;> first | rfl | omega | simp_all
theorem mze_9 (kind feature lower upper : Int) (bonus slot dup : Bool) (n : Nat) (a1 : ¬ 1 < 1) (a2 : ¬ 3 < 1) (a3 : ¬ feature < 0) (a4 : ¬ (n : Int) ≤ feature) : zoneErr1 ⟨1, feature, lower, upper, true⟩ n false dup = 3 := by
  simp only [zoneErr1] <;> (repeat' split) <;> first | rfl | omega | simp_all
theorem mze_10 (kind feature lower upper : Int) (bonus slot dup : Bool) (n : Nat) (a1 : ¬ 1 < 1) (a2 : ¬ 3 < 1) (a3 : ¬ feature < 0) (a4 : ¬ (n : Int) ≤ feature) (e3 : farB lower = false) (e4 : farB upper = false) (b1 : upper < lower) : zoneErr1 ⟨1, feature, lower, upper, false⟩ n true dup = 8 := by
  simp only [zoneErr1, e3, e4] <;> (repeat' split) <;> first | rfl | omega | simp_all
theorem mze_11 (kind feature lower upper : Int) (bonus slot dup : Bool) (n : Nat) (a1 : ¬ 1 < 1) (a2 : ¬ 3 < 1) (a3 : ¬ feature < 0) (a4 : ¬ (n : Int) ≤ feature) (e3 : farB lower = false) (e4 : farB upper = false) (b1 : ¬ upper < lower) : zoneErr1 ⟨1, feature, lower, upper, false⟩ n true false = 0 := by
  simp only [zoneErr1, e3, e4] <;> (repeat' split) <;> first | rfl | omega | simp_all
theorem mze_12 (kind feature lower upper : Int) (bonus slot dup : Bool) (n : Nat) (a1 : ¬ 1 < 1) (a2 : ¬ 3 < 1) (a3 : ¬ feature < 0) (a4 : ¬ (n : Int) ≤ feature) (e3 : farB lower = false) (e4 : farB upper = false) (b1 : ¬ upper < lower) : zoneErr1 ⟨1, feature, lower, upper, false⟩ n true true = 9 := by
  simp only [zoneErr1, e3, e4] <;> (repeat' split) <;> first | rfl | omega | simp_all
theorem mze_13 (kind feature lower upper : Int) (bonus slot dup : Bool) (n : Nat) (a1 : ¬ 1 < 1) (a2 : ¬ 3 < 1) (a3 : ¬ feature < 0) (a4 : ¬ (n : Int) ≤ feature) (e3 : farB lower = false) (e4 : farB upper = true) : zoneErr1 ⟨1, feature, lower, upper, false⟩ n true dup = 2 := by
  simp only [zoneErr1, e3, e4] <;> (repeat' split) <;> first | rfl | omega | simp_all
theorem mze_14 (kind feature lower upper : Int) (bonus slot dup : Bool) (n : Nat) (a1 : ¬ 1 < 1) (a2 : ¬ 3 < 1) (a3 : ¬ feature < 0) (a4 : ¬ (n : Int) ≤ feature) (e3 : farB lower = true) : zoneErr1 ⟨1, feature, lower, upper, false⟩ n true dup = 2 := by
  simp only [zoneErr1, e3] <;> (repeat' split) <;> first | rfl | omega | simp_all
theorem mze_15 (kind feature lower upper : Int) (bonus slot dup : Bool) (n : Nat) (a1 : ¬ 1 < 1) (a2 : ¬ 3 < 1) (a3 : ¬ feature < 0) (a4 : ¬ (n : Int) ≤ feature) (e3 : farB lower = false) (e4 : farB upper = false) (b1 : upper < lower) : zoneErr1 ⟨1, feature, lower, upper, true⟩ n true dup = 8 := by
  simp only [zoneErr1, e3, e4] <;> (repeat' split) <;> first | rfl | omega | simp_all
theorem mze_16 (kind feature lower upper : Int) (bonus slot dup : Bool) (n : Nat) (a1 : ¬ 1 < 1) (a2 : ¬ 3 < 1) (a3 : ¬ feature < 0) (a4 : ¬ (n : Int) ≤ feature) (e3 : farB lower = false) (e4 : farB upper = false) (b1 : ¬ upper < lower) : zoneErr1 ⟨1, feature, lower, upper, true⟩ n true false = 0 := by
  simp only [zoneErr1, e3, e4] <;> (repeat' split) <;> first | rfl | omega | simp_all
theorem mze_17 (kind feature lower upper : Int) (bonus slot dup : Bool) (n : Nat) (a1 : ¬ 1 < 1) (a2 : ¬ 3 < 1) (a3 : ¬ feature < 0) (a4 : ¬ (n : Int) ≤ feature) (e3 : farB lower = false) (e4 : farB upper = false) (b1 : ¬ upper < lower) : zoneErr1 ⟨1, feature, lower, upper, true⟩ n true true = 9 := by
  simp only [zoneErr1, e3, e4] <;> (repeat' split) <;> first | rfl | omega | simp_all
theorem mze_18 (kind feature lower upper : Int) (bonus slot dup : Bool) (n : Nat) (a1 : ¬ 1 < 1) (a2 : ¬ 3 < 1) (a3 : ¬ feature < 0) (a4 : ¬ (n : Int) ≤ feature) (e3 : farB lower = false) (e4 : farB upper = true) : zoneErr1 ⟨1, feature, lower, upper, true⟩ n true dup = 2 := by
  simp only [zoneErr1, e3, e4] <;> (repeat' split) <;> first | rfl | omega | simp_all
theorem mze_19 (kind feature lower upper : Int) (bonus slot dup : Bool) (n : Nat) (a1 : ¬ 1 < 1) (a2 : ¬ 3 < 1) (a3 : ¬ feature < 0) (a4 : ¬ (n : Int) ≤ feature) (e3 : farB lower = true) : zoneErr1 ⟨1, feature, lower, upper, true⟩ n true dup = 2 := by
  simp only [zoneErr1, e3] <;> (repeat' split) <;> first | rfl | omega | simp_all
theorem mze_20 (kind feature lower upper : Int) (bonus slot dup : Bool) (n : Nat) (a1 : ¬ 2 < 1) (a2 : ¬ 3 < 2) (a3 : ¬ feature < 0) (a4 : ¬ (n : Int) ≤ feature) : zoneErr1 ⟨2, feature, lower, upper, false⟩ n false dup = 3 := by
  simp only [zoneErr1] <;> (repeat' split) <;> first | rfl | omega | simp_all
theorem mze_21 (kind feature lower upper : Int) (bonus slot dup : Bool) (n : Nat) (a1 : ¬ 2 < 1) (a2 : ¬ 3 < 2) (a3 : ¬ feature < 0) (a4 : ¬ (n : Int) ≤ feature) : zoneErr1 ⟨2, feature, lower, upper, true⟩ n false dup = 3 := by
  simp only [zoneErr1] <;> (repeat' split) <;> first | rfl | omega | simp_all
theorem mze_22 (kind feature lower upper : Int) (bonus slot dup : Bool) (n : Nat) (a1 : ¬ 2 < 1) (a2 : ¬ 3 < 2) (a3 : ¬ feature < 0) (a4 : ¬ (n : Int) ≤ feature) (e3 : farB lower = false) (e4 : farB upper = false) (b1 : upper < lower) : zoneErr1 ⟨2, feature, lower, upper, false⟩ n true dup = 8 := by
  simp only [zoneErr1, e3, e4] <;> (repeat' split) <;> first | rfl | omega | simp_all
theorem mze_23 (kind feature lower upper : Int) (bonus slot dup : Bool) (n : Nat) (a1 : ¬ 2 < 1) (a2 : ¬ 3 < 2) (a3 : ¬ feature < 0) (a4 : ¬ (n : Int) ≤ feature) (e3 : farB lower = false) (e4 : farB upper = false) (b1 : ¬ upper < lower) : zoneErr1 ⟨2, feature, lower, upper, false⟩ n true false = 0 := by
  simp only [zoneErr1, e3, e4] <;> (repeat' split) <;> first | rfl | omega | simp_all
theorem mze_24 (kind feature lower upper : Int) (bonus slot dup : Bool) (n : Nat) (a1 : ¬ 2 < 1) (a2 : ¬ 3 < 2) (a3 : ¬ feature < 0) (a4 : ¬ (n : Int) ≤ feature) (e3 : farB lower = false) (e4 : farB upper = false) (b1 : ¬ upper < lower) : zoneErr1 ⟨2, feature, lower, upper, false⟩ n true true = 9 := by
  simp only [zoneErr1, e3, e4] <;> (repeat' split) <;> first | rfl | omega | simp_all
theorem mze_25 (kind feature lower upper : Int) (bonus slot dup : Bool) (n : Nat) (a1 : ¬ 2 < 1) (a2 : ¬ 3 < 2) (a3 : ¬ feature < 0) (a4 : ¬ (n : Int) ≤ feature) (e3 : farB lower = false) (e4 : farB upper = true) : zoneErr1 ⟨2, feature, lower, upper, false⟩ n true dup = 2 := by
  simp only [zoneErr1, e3, e4] <;> (repeat' split) <;> first | rfl | omega | simp_all
theorem mze_26 (kind feature lower upper : Int) (bonus slot dup : Bool) (n : Nat) (a1 : ¬ 2 < 1) (a2 : ¬ 3 < 2) (a3 : ¬ feature < 0) (a4 : ¬ (n : Int) ≤ feature) (e3 : farB lower = true) : zoneErr1 ⟨2, feature, lower, upper, false⟩ n true dup = 2 := by
  simp only [zoneErr1, e3] <;> (repeat' split) <;> first | rfl | omega | simp_all
theorem mze_27 (kind feature lower upper : Int) (bonus slot dup : Bool) (n : Nat) (a1 : ¬ 2 < 1) (a2 : ¬ 3 < 2) (a3 : ¬ feature < 0) (a4 : ¬ (n : Int) ≤ feature) : zoneErr1 ⟨2, feature, lower, upper, true⟩ n true dup = 3 := by
  simp only [zoneErr1] <;> (repeat' split) <;> first | rfl | omega | simp_all
theorem mze_28 (kind feature lower upper : Int) (bonus slot dup : Bool) (n : Nat) (a1 : ¬ 3 < 1) (a2 : ¬ 3 < 3) (a3 : ¬ feature < 0) (a4 : ¬ (n : Int) ≤ feature) (e3 : farB lower = false) (e4 : farB upper = false) (b1 : upper < lower) : zoneErr1 ⟨3, feature, lower, upper, false⟩ n false dup = 8 := by
  simp only [zoneErr1, e3, e4] <;> (repeat' split) <;> first | rfl | omega | simp_all
theorem mze_29 (kind feature lower upper : Int) (bonus slot dup : Bool) (n : Nat) (a1 : ¬ 3 < 1) (a2 : ¬ 3 < 3) (a3 : ¬ feature < 0) (a4 : ¬ (n : Int) ≤ feature) (e3 : farB lower = false) (e4 : farB upper = false) (b1 : ¬ upper < lower) : zoneErr1 ⟨3, feature, lower, upper, false⟩ n false false = 0 := by
  simp only [zoneErr1, e3, e4] <;> (repeat' split) <;> first | rfl | omega | simp_all
theorem mze_30 (kind feature lower upper : Int) (bonus slot dup : Bool) (n : Nat) (a1 : ¬ 3 < 1) (a2 : ¬ 3 < 3) (a3 : ¬ feature < 0) (a4 : ¬ (n : Int) ≤ feature) (e3 : farB lower = false) (e4 : farB upper = false) (b1 : ¬ upper < lower) : zoneErr1 ⟨3, feature, lower, upper, false⟩ n false true = 9 := by
  simp only [zoneErr1, e3, e4] <;> (repeat' split) <;> first | rfl | omega | simp_all
theorem mze_31 (kind feature lower upper : Int) (bonus slot dup : Bool) (n : Nat) (a1 : ¬ 3 < 1) (a2 : ¬ 3 < 3) (a3 : ¬ feature < 0) (a4 : ¬ (n : Int) ≤ feature) (e3 : farB lower = false) (e4 : farB upper = true) : zoneErr1 ⟨3, feature, lower, upper, false⟩ n false dup = 2 := by
  simp only [zoneErr1, e3, e4] <;> (repeat' split) <;> first | rfl | omega | simp_all
theorem mze_32 (kind feature lower upper : Int) (bonus slot dup : Bool) (n : Nat) (a1 : ¬ 3 < 1) (a2 : ¬ 3 < 3) (a3 : ¬ feature < 0) (a4 : ¬ (n : Int) ≤ feature) (e3 : farB lower = true) : zoneErr1 ⟨3, feature, lower, upper, false⟩ n false dup = 2 := by
  simp only [zoneErr1, e3] <;> (repeat' split) <;> first | rfl | omega | simp_all
theorem mze_33 (kind feature lower upper : Int) (bonus slot dup : Bool) (n : Nat) (a1 : ¬ 3 < 1) (a2 : ¬ 3 < 3) (a3 : ¬ feature < 0) (a4 : ¬ (n : Int) ≤ feature) : zoneErr1 ⟨3, feature, lower, upper, true⟩ n false dup = 3 := by
  simp only [zoneErr1] <;> (repeat' split) <;> first | rfl | omega | simp_all
theorem mze_34 (kind feature lower upper : Int) (bonus slot dup : Bool) (n : Nat) (a1 : ¬ 3 < 1) (a2 : ¬ 3 < 3) (a3 : ¬ feature < 0) (a4 : ¬ (n : Int) ≤ feature) : zoneErr1 ⟨3, feature, lower, upper, false⟩ n true dup = 3 := by
  simp only [zoneErr1] <;> (repeat' split) <;> first | rfl | omega | simp_all
theorem mze_35 (kind feature lower upper : Int) (bonus slot dup : Bool) (n : Nat) (a1 : ¬ 3 < 1) (a2 : ¬ 3 < 3) (a3 : ¬ feature < 0) (a4 : ¬ (n : Int) ≤ feature) : zoneErr1 ⟨3, feature, lower, upper, true⟩ n true dup = 3 := by
  simp only [zoneErr1] <;> (repeat' split) <;> first | rfl | omega | simp_all

set_option maxRecDepth 100000 in
theorem mcheck_any (base : Nat) (A Bz : Option Addr) (n c m d : Nat) (fs : List Feat) (zs : List Zon) (w : World) (hf : IsFs base 28 w A n c fs) (hzs : IsZs base 30 w Bz m d zs) :
    Calls Tryz.prog 9 #[.agg #[.slice A n c, .slice Bz m d]] w fun e w' => e = .returned (.int .i64 (checkE ⟨fs, zs⟩)) ∧ Below w.heap.size w w' := by
  unfold checkE
  dsimp only
  rw [hf.len, hzs.len]
  by_cases h1 : 16 < n
  · have h1d : decide (16 < n) = true := decide_eq_true h1
    have h1e : decide ((16 : Int) < (n : Int)) = true := decide_eq_true (by omega)
    rw [if_pos h1]
    go_enter Tryz.func9, Tryz.ntmps9
    go_wp2_with fail
    go_ret
    exact ⟨rfl, (by repeat (first | exact Below.refl _ _ | with_reducible assumption | apply below_alloc | apply below_drewN | apply below_drew | refine below_set ?_ (by simp; try omega) _ | refine below_then ?_ (by with_reducible assumption)))⟩
  · have h1d : decide (16 < n) = false := decide_eq_false h1
    have h1e : decide ((16 : Int) < (n : Int)) = false := decide_eq_false (by omega)
    rw [if_neg h1]
    by_cases h2 : 32 < m
    · have h2d : decide (32 < m) = true := decide_eq_true h2
      have h2e : decide ((32 : Int) < (m : Int)) = true := decide_eq_true (by omega)
      rw [if_pos h2]
      go_enter Tryz.func9, Tryz.ntmps9
      go_wp2_with fail
      go_ret
      exact ⟨rfl, (by repeat (first | exact Below.refl _ _ | with_reducible assumption | apply below_alloc | apply below_drewN | apply below_drew | refine below_set ?_ (by simp; try omega) _ | refine below_then ?_ (by with_reducible assumption)))⟩
    · have h2d : decide (32 < m) = false := decide_eq_false h2
      have h2e : decide ((32 : Int) < (m : Int)) = false := decide_eq_false (by omega)
      rw [if_neg h2]
      have H1 := Lib.hid (fun i (hi : i < n) W (hW : Below w.heap.size w W) => mfeature_any base A Bz n c m d fs i W (hf.below hW) hi (by omega))
      have S1 := Lib.hid (fun i (hi : i < n) => firstErr_step (featErr fs) n i hi)
      have S2 := Lib.hid (fun i (hi : i < m) => firstErr_step (zoneErr fs zs) m i hi)
      generalize featErr fs = fe at H1 S1 ⊢
      obtain ⟨F, hF⟩ : ∃ F, F = firstErr fe 0 n := ⟨_, rfl⟩
      obtain ⟨G, hG⟩ : ∃ G, G = firstErr (zoneErr fs zs) 0 m := ⟨_, rfl⟩
      rw [← hF, ← hG]
      obtain ⟨R, hR⟩ : ∃ R, R = if F ≠ 0 then F else G := ⟨_, rfl⟩
      rw [← hR]
      have HZ3 := Lib.hid hF
      have HZ4 := Lib.hid hG
      have HR := Lib.hid hR
      clear hF hG hR
      go_enter Tryz.func9, Tryz.ntmps9
      go_wp2_with fail
      go_loopw [21] (fun q wr => ∃ (i : Nat), i ≤ n ∧ q = .int .i64 (i : Int) ∧ Hid (F = firstErr fe i (n - i)) ∧ Below w.heap.size w wr ∧ wr.cell? ⟨w.heap.size, 0, none⟩ = some (.slice A n c) ∧ wr.cell? ⟨w.heap.size, 1, none⟩ = some (.slice Bz m d)) (fun q _ => n - (intOf q).toNat)
      case atStart => exact ⟨0, Nat.zero_le _, rfl, HZ3, (by repeat (first | exact Below.refl _ _ | with_reducible assumption | apply below_alloc | apply below_drewN | apply below_drew | refine below_set ?_ (by simp; try omega) _ | refine below_then ?_ (by with_reducible assumption))), by simp [go_sem], by simp [go_sem]⟩
      case round =>
        obtain ⟨i, hi, rfl, hF, hb, c0, c1⟩ := hrel
        have Hb := Lib.hid hb
        by_cases hlt : i < n
        · clear hb
          go_wp2_with fail
          refine (H1.out i hlt _ Hb.out).mono ?_
          rintro e w1 ⟨rfl, hb1⟩
          have st := S1.out i hlt
          rw [← hF.out] at st
          have d0 := keptc hb1 _ _ _ c0
          have d1 := keptc hb1 _ _ _ c1
          have B1 := Lib.hid (below_then Hb.out hb1)
          clear hb1
          generalize fe i = v at st
          by_cases hv : v = 0
          · subst hv
            have st := Lib.hid st
            go_wp2_with fail
            go_roundw
            case rel => exact ⟨i + 1, by omega, by go_num, Lib.hid (by have := st.out; rwa [if_neg (by simp)] at this), B1.out, d0, d1⟩
            case measure => simp [intOf]; omega
          · have hv2 : (v != 0) = true := by simpa using hv
            have hv3 : (v == 0) = false := by simpa using hv
            rw [if_pos hv] at st
            have st := Lib.hid st
            have hRv : R = v := by rw [HR.out, st.out, if_pos hv]
            go_wp2_with fail
            go_ret
            exact ⟨by first | rfl | (rw [hRv]; rfl), B1.out⟩
        · obtain rfl : n = i := by omega
          have F0 : F = 0 := by have := hF.out; rwa [Nat.sub_self] at this
          have R0 : R = G := by rw [HR.out, F0, if_neg (by simp)]
          subst R0
          clear hb hF S1 H1 HZ3 HR F0
          go_wp2_with fail
          go_loopw [34] (fun q wr => ∃ (j : Nat), j ≤ m ∧ q = .int .i64 (j : Int) ∧ Hid (R = firstErr (zoneErr fs zs) j (m - j)) ∧ Below w.heap.size w wr ∧ wr.cell? ⟨w.heap.size, 0, none⟩ = some (.slice A n c) ∧ wr.cell? ⟨w.heap.size, 1, none⟩ = some (.slice Bz m d)) (fun q _ => m - (intOf q).toNat)
          case atStart => exact ⟨0, Nat.zero_le _, rfl, HZ4, Hb.out, c0, c1⟩
          case round =>
            obtain ⟨j, hj, rfl, hF, hb, c0, c1⟩ := hrel
            by_cases hlt : j < m
            · obtain ⟨ad, ea, z0, z1, z2, z3, z4⟩ := IsZs.cells (hzs.below hb) j hlt
              subst ea
              have hze := S2.out j hlt
              rw [← hF.out] at hze
              obtain ⟨tl, htl⟩ : ∃ tl, tl = firstErr (zoneErr fs zs) (j + 1) (m - (j + 1)) := ⟨_, rfl⟩
              rw [← htl] at hze
              have htl' := Lib.hid htl
              clear htl
              have hix := zone_first (zs := zs) (j := j) (by rw [hzs.len]; exact hlt)
              have H3 := Lib.hid (fun W (hW : Below wr.heap.size wr W) => mzone_any base A (some ad) n c m d zs (zs.getD j zd).feature (zs.getD j zd).kind W (hzs.below (below_then hb hW)) (by omega))
              generalize idxI (zoneP (zs.getD j zd).feature (zs.getD j zd).kind) zs = ix at H3 hix
              unfold zoneErr at hze
              rw [hf.len] at hze
              generalize hsl : ((fs.getD (zs.getD j zd).feature.toNat fd).kind == 2) = slot at hze
              generalize (zs.take j).any (dupP (zs.getD j zd)) = dup at hix hze
              generalize zs.getD j zd = f at z0 z1 z2 z3 z4 hze H3 hsl
              obtain ⟨kind, feature, lower, upper, bonus⟩ := f
              dsimp only at z0 z1 z2 z3 z4 H3 hsl
              have H5 := Lib.hid (fun W => mfar_any lower W)
              have H6 := Lib.hid (fun W => mfar_any upper W)
              have hlt1 := World.block_lt_of_cell? wr _ z0
              have hne1 : ¬ (ad.add (j * 5)).block = wr.heap.size := Nat.ne_of_lt hlt1
              have hw1 : w.heap.size < wr.heap.size := World.block_lt_of_cell? wr _ c0
              have hw2 : ¬ w.heap.size = wr.heap.size := by omega
              have i0 : (0 : Int) ≤ (j : Int) := by omega
              have i1 : (j : Int) < (m : Int) := by omega
              have hze' := Lib.hid hze
              clear hze
              have hze := hze'
              clear hze'
              have hix' := Lib.hid hix
              clear hix
              have hix := hix'
              clear hix' hF
              generalize e3 : farB lower = f1 at H5
              generalize e4 : farB upper = f2 at H6
              by_cases a1 : kind < 1
              · have a1d : decide (kind < 1) = true := decide_eq_true a1
                have hv : zoneErr1 ⟨kind, feature, lower, upper, bonus⟩ n slot dup = 12 := mze_0 _ _ _ _ _ _ _ _ (by omega)
                have hz := hze.out
                rw [hv, if_pos (by decide)] at hz
                have hz := Lib.hid hz
                go_wp2_with fail
                go_ret
                exact ⟨by first | rfl | (rw [hz.out]; rfl), below_alloc hb⟩
              · have a1d : decide (kind < 1) = false := decide_eq_false a1
                by_cases a2 : 3 < kind
                · have a2d : decide (3 < kind) = true := decide_eq_true a2
                  have hv : zoneErr1 ⟨kind, feature, lower, upper, bonus⟩ n slot dup = 12 := mze_1 _ _ _ _ _ _ _ _ (by omega) (by omega)
                  have hz := hze.out
                  rw [hv, if_pos (by decide)] at hz
                  have hz := Lib.hid hz
                  go_wp2_with fail
                  go_ret
                  exact ⟨by first | rfl | (rw [hz.out]; rfl), below_alloc hb⟩
                · have a2d : decide (3 < kind) = false := decide_eq_false a2
                  by_cases a3 : feature < 0
                  · have a3d : decide (feature < 0) = true := decide_eq_true a3
                    have hv : zoneErr1 ⟨kind, feature, lower, upper, bonus⟩ n slot dup = 10 := mze_2 _ _ _ _ _ _ _ _ (by omega) (by omega) (by omega)
                    have hz := hze.out
                    rw [hv, if_pos (by decide)] at hz
                    have hz := Lib.hid hz
                    go_wp2_with fail
                    go_ret
                    exact ⟨by first | rfl | (rw [hz.out]; rfl), below_alloc hb⟩
                  · have a3d : decide (feature < 0) = false := decide_eq_false a3
                    by_cases a4 : (n : Int) ≤ feature
                    · have a4d : decide ((n : Int) ≤ feature) = true := decide_eq_true a4
                      have hv : zoneErr1 ⟨kind, feature, lower, upper, bonus⟩ n slot dup = 10 := mze_3 _ _ _ _ _ _ _ _ (by omega) (by omega) (by omega) (by omega)
                      have hz := hze.out
                      rw [hv, if_pos (by decide)] at hz
                      have hz := Lib.hid hz
                      go_wp2_with fail
                      go_ret
                      exact ⟨by first | rfl | (rw [hz.out]; rfl), below_alloc hb⟩
                    · have a4d : decide ((n : Int) ≤ feature) = false := decide_eq_false a4
                      obtain ⟨kk, rfl⟩ := Int.eq_ofNat_of_zero_le (show 0 ≤ feature by omega)
                      have kk1 : kk < n := by omega
                      have kk2 : (0 : Int) ≤ (kk : Int) := by omega
                      have kk3 : (kk : Int) < (n : Int) := by omega
                      obtain ⟨af, ea, -, y1, -⟩ := IsFs.cells (hf.below hb) kk kk1
                      subst ea
                      rw [show ((kk : Nat) : Int).toNat = kk from rfl] at hsl
                      have flt : (af.add (kk * 6)).block < wr.heap.size := by have := World.block_lt_of_cell? wr _ y1; exact this
                      have fne : ¬ (af.add (kk * 6)).block = wr.heap.size := Nat.ne_of_lt flt
                      generalize (fs.getD kk fd).kind = kf at hsl y1
                      have kcase : kind = 1 ∨ kind = 2 ∨ kind = 3 := by omega
                      rcases kcase with rfl | rfl | rfl
                      · cases slot
                        · cases bonus
                          · skip
                            go_wp2_with fail
                            refine (H5.out _).mono ?_
                            rintro e w4 ⟨rfl, rfl⟩
                            cases f1
                            · skip
                              go_wp2_with fail
                              refine (H6.out _).mono ?_
                              rintro e w5 ⟨rfl, rfl⟩
                              cases f2
                              · skip
                                by_cases b1 : upper < lower
                                · have b1d : decide (upper < lower) = true := decide_eq_true b1
                                  have hv : zoneErr1 ⟨1, (kk : Int), lower, upper, false⟩ n false dup = 8 := mze_4 0 _ _ _ false false _ _ (by omega) (by omega) (by omega) (by omega) e3 e4 (by omega)
                                  have hz := hze.out
                                  rw [hv, if_pos (by decide)] at hz
                                  have hz := Lib.hid hz
                                  go_wp2_with fail
                                  go_ret
                                  exact ⟨by first | rfl | (rw [hz.out]; rfl), below_alloc hb⟩
                                · have b1d : decide (upper < lower) = false := decide_eq_false b1
                                  go_wp2_with fail
                                  refine (H3.out _ (by repeat (first | exact Below.refl _ _ | apply below_alloc | apply below_drewN | apply below_drew))).mono ?_
                                  rintro e w3 ⟨rfl, hb9⟩
                                  cases dup
                                  · have hix2 : ix = (j : Int) := by have := hix.out; simpa using this
                                    subst hix2
                                    have hv : zoneErr1 ⟨1, (kk : Int), lower, upper, false⟩ n false false = 0 := mze_5 0 _ _ _ false false false _ (by omega) (by omega) (by omega) (by omega) e3 e4 (by omega)
                                    have hz := hze.out
                                    rw [hv, if_neg (fun e => e rfl)] at hz
                                    go_wp2_with fail
                                    go_roundw
                                    case rel => exact ⟨j + 1, by omega, by go_num, Lib.hid (by rw [← htl'.out]; exact hz), below_then hb (below_then (w := wr) (by repeat (first | exact Below.refl _ _ | apply below_alloc | apply below_drewN | apply below_drew)) hb9), (cell_below (below_then (w := wr) (by repeat (first | exact Below.refl _ _ | apply below_alloc | apply below_drewN | apply below_drew)) hb9) c0), (cell_below (below_then (w := wr) (by repeat (first | exact Below.refl _ _ | apply below_alloc | apply below_drewN | apply below_drew)) hb9) c1)⟩
                                    case measure => simp [intOf]; omega
                                  · have hix2 : (ix != (j : Int)) = true := hix.out
                                    have hv : zoneErr1 ⟨1, (kk : Int), lower, upper, false⟩ n false true = 9 := mze_6 0 _ _ _ false false false _ (by omega) (by omega) (by omega) (by omega) e3 e4 (by omega)
                                    have hz := hze.out
                                    rw [hv, if_pos (by decide)] at hz
                                    have hz := Lib.hid hz
                                    go_wp2_with fail
                                    go_ret
                                    exact ⟨by first | rfl | (rw [hz.out]; rfl), below_then hb (below_then (w := wr) (by repeat (first | exact Below.refl _ _ | apply below_alloc | apply below_drewN | apply below_drew)) hb9)⟩
                              · skip
                                have hv : zoneErr1 ⟨1, (kk : Int), lower, upper, false⟩ n false dup = 2 := mze_7 0 _ _ _ false false _ _ (by omega) (by omega) (by omega) (by omega) e3 e4
                                have hz := hze.out
                                rw [hv, if_pos (by decide)] at hz
                                have hz := Lib.hid hz
                                go_wp2_with fail
                                go_ret
                                exact ⟨by first | rfl | (rw [hz.out]; rfl), below_alloc hb⟩
                            · skip
                              have hv : zoneErr1 ⟨1, (kk : Int), lower, upper, false⟩ n false dup = 2 := mze_8 0 _ _ _ false false _ _ (by omega) (by omega) (by omega) (by omega) e3
                              have hz := hze.out
                              rw [hv, if_pos (by decide)] at hz
                              have hz := Lib.hid hz
                              go_wp2_with fail
                              go_ret
                              exact ⟨by first | rfl | (rw [hz.out]; rfl), below_alloc hb⟩
                          · skip
                            have hv : zoneErr1 ⟨1, (kk : Int), lower, upper, true⟩ n false dup = 3 := mze_9 0 _ _ _ false false _ _ (by omega) (by omega) (by omega) (by omega)
                            have hz := hze.out
                            rw [hv, if_pos (by decide)] at hz
                            have hz := Lib.hid hz
                            go_wp2_with fail
                            go_ret
                            exact ⟨by first | rfl | (rw [hz.out]; rfl), below_alloc hb⟩
                        · cases bonus
                          · skip
                            go_wp2_with fail
                            refine (H5.out _).mono ?_
                            rintro e w4 ⟨rfl, rfl⟩
                            cases f1
                            · skip
                              go_wp2_with fail
                              refine (H6.out _).mono ?_
                              rintro e w5 ⟨rfl, rfl⟩
                              cases f2
                              · skip
                                by_cases b1 : upper < lower
                                · have b1d : decide (upper < lower) = true := decide_eq_true b1
                                  have hv : zoneErr1 ⟨1, (kk : Int), lower, upper, false⟩ n true dup = 8 := mze_10 0 _ _ _ false false _ _ (by omega) (by omega) (by omega) (by omega) e3 e4 (by omega)
                                  have hz := hze.out
                                  rw [hv, if_pos (by decide)] at hz
                                  have hz := Lib.hid hz
                                  go_wp2_with fail
                                  go_ret
                                  exact ⟨by first | rfl | (rw [hz.out]; rfl), below_alloc hb⟩
                                · have b1d : decide (upper < lower) = false := decide_eq_false b1
                                  go_wp2_with fail
                                  refine (H3.out _ (by repeat (first | exact Below.refl _ _ | apply below_alloc | apply below_drewN | apply below_drew))).mono ?_
                                  rintro e w3 ⟨rfl, hb9⟩
                                  cases dup
                                  · have hix2 : ix = (j : Int) := by have := hix.out; simpa using this
                                    subst hix2
                                    have hv : zoneErr1 ⟨1, (kk : Int), lower, upper, false⟩ n true false = 0 := mze_11 0 _ _ _ false false false _ (by omega) (by omega) (by omega) (by omega) e3 e4 (by omega)
                                    have hz := hze.out
                                    rw [hv, if_neg (fun e => e rfl)] at hz
                                    go_wp2_with fail
                                    go_roundw
                                    case rel => exact ⟨j + 1, by omega, by go_num, Lib.hid (by rw [← htl'.out]; exact hz), below_then hb (below_then (w := wr) (by repeat (first | exact Below.refl _ _ | apply below_alloc | apply below_drewN | apply below_drew)) hb9), (cell_below (below_then (w := wr) (by repeat (first | exact Below.refl _ _ | apply below_alloc | apply below_drewN | apply below_drew)) hb9) c0), (cell_below (below_then (w := wr) (by repeat (first | exact Below.refl _ _ | apply below_alloc | apply below_drewN | apply below_drew)) hb9) c1)⟩
                                    case measure => simp [intOf]; omega
                                  · have hix2 : (ix != (j : Int)) = true := hix.out
                                    have hv : zoneErr1 ⟨1, (kk : Int), lower, upper, false⟩ n true true = 9 := mze_12 0 _ _ _ false false false _ (by omega) (by omega) (by omega) (by omega) e3 e4 (by omega)
                                    have hz := hze.out
                                    rw [hv, if_pos (by decide)] at hz
                                    have hz := Lib.hid hz
                                    go_wp2_with fail
                                    go_ret
                                    exact ⟨by first | rfl | (rw [hz.out]; rfl), below_then hb (below_then (w := wr) (by repeat (first | exact Below.refl _ _ | apply below_alloc | apply below_drewN | apply below_drew)) hb9)⟩
                              · skip
                                have hv : zoneErr1 ⟨1, (kk : Int), lower, upper, false⟩ n true dup = 2 := mze_13 0 _ _ _ false false _ _ (by omega) (by omega) (by omega) (by omega) e3 e4
                                have hz := hze.out
                                rw [hv, if_pos (by decide)] at hz
                                have hz := Lib.hid hz
                                go_wp2_with fail
                                go_ret
                                exact ⟨by first | rfl | (rw [hz.out]; rfl), below_alloc hb⟩
                            · skip
                              have hv : zoneErr1 ⟨1, (kk : Int), lower, upper, false⟩ n true dup = 2 := mze_14 0 _ _ _ false false _ _ (by omega) (by omega) (by omega) (by omega) e3
                              have hz := hze.out
                              rw [hv, if_pos (by decide)] at hz
                              have hz := Lib.hid hz
                              go_wp2_with fail
                              go_ret
                              exact ⟨by first | rfl | (rw [hz.out]; rfl), below_alloc hb⟩
                          · skip
                            go_wp2_with fail
                            refine (H5.out _).mono ?_
                            rintro e w4 ⟨rfl, rfl⟩
                            cases f1
                            · skip
                              go_wp2_with fail
                              refine (H6.out _).mono ?_
                              rintro e w5 ⟨rfl, rfl⟩
                              cases f2
                              · skip
                                by_cases b1 : upper < lower
                                · have b1d : decide (upper < lower) = true := decide_eq_true b1
                                  have hv : zoneErr1 ⟨1, (kk : Int), lower, upper, true⟩ n true dup = 8 := mze_15 0 _ _ _ false false _ _ (by omega) (by omega) (by omega) (by omega) e3 e4 (by omega)
                                  have hz := hze.out
                                  rw [hv, if_pos (by decide)] at hz
                                  have hz := Lib.hid hz
                                  go_wp2_with fail
                                  go_ret
                                  exact ⟨by first | rfl | (rw [hz.out]; rfl), below_alloc hb⟩
                                · have b1d : decide (upper < lower) = false := decide_eq_false b1
                                  go_wp2_with fail
                                  refine (H3.out _ (by repeat (first | exact Below.refl _ _ | apply below_alloc | apply below_drewN | apply below_drew))).mono ?_
                                  rintro e w3 ⟨rfl, hb9⟩
                                  cases dup
                                  · have hix2 : ix = (j : Int) := by have := hix.out; simpa using this
                                    subst hix2
                                    have hv : zoneErr1 ⟨1, (kk : Int), lower, upper, true⟩ n true false = 0 := mze_16 0 _ _ _ false false false _ (by omega) (by omega) (by omega) (by omega) e3 e4 (by omega)
                                    have hz := hze.out
                                    rw [hv, if_neg (fun e => e rfl)] at hz
                                    go_wp2_with fail
                                    go_roundw
                                    case rel => exact ⟨j + 1, by omega, by go_num, Lib.hid (by rw [← htl'.out]; exact hz), below_then hb (below_then (w := wr) (by repeat (first | exact Below.refl _ _ | apply below_alloc | apply below_drewN | apply below_drew)) hb9), (cell_below (below_then (w := wr) (by repeat (first | exact Below.refl _ _ | apply below_alloc | apply below_drewN | apply below_drew)) hb9) c0), (cell_below (below_then (w := wr) (by repeat (first | exact Below.refl _ _ | apply below_alloc | apply below_drewN | apply below_drew)) hb9) c1)⟩
                                    case measure => simp [intOf]; omega
                                  · have hix2 : (ix != (j : Int)) = true := hix.out
                                    have hv : zoneErr1 ⟨1, (kk : Int), lower, upper, true⟩ n true true = 9 := mze_17 0 _ _ _ false false false _ (by omega) (by omega) (by omega) (by omega) e3 e4 (by omega)
                                    have hz := hze.out
                                    rw [hv, if_pos (by decide)] at hz
                                    have hz := Lib.hid hz
                                    go_wp2_with fail
                                    go_ret
                                    exact ⟨by first | rfl | (rw [hz.out]; rfl), below_then hb (below_then (w := wr) (by repeat (first | exact Below.refl _ _ | apply below_alloc | apply below_drewN | apply below_drew)) hb9)⟩
                              · skip
                                have hv : zoneErr1 ⟨1, (kk : Int), lower, upper, true⟩ n true dup = 2 := mze_18 0 _ _ _ false false _ _ (by omega) (by omega) (by omega) (by omega) e3 e4
                                have hz := hze.out
                                rw [hv, if_pos (by decide)] at hz
                                have hz := Lib.hid hz
                                go_wp2_with fail
                                go_ret
                                exact ⟨by first | rfl | (rw [hz.out]; rfl), below_alloc hb⟩
                            · skip
                              have hv : zoneErr1 ⟨1, (kk : Int), lower, upper, true⟩ n true dup = 2 := mze_19 0 _ _ _ false false _ _ (by omega) (by omega) (by omega) (by omega) e3
                              have hz := hze.out
                              rw [hv, if_pos (by decide)] at hz
                              have hz := Lib.hid hz
                              go_wp2_with fail
                              go_ret
                              exact ⟨by first | rfl | (rw [hz.out]; rfl), below_alloc hb⟩
                      · cases slot
                        · cases bonus
                          · skip
                            have hv : zoneErr1 ⟨2, (kk : Int), lower, upper, false⟩ n false dup = 3 := mze_20 0 _ _ _ false false _ _ (by omega) (by omega) (by omega) (by omega)
                            have hz := hze.out
                            rw [hv, if_pos (by decide)] at hz
                            have hz := Lib.hid hz
                            go_wp2_with fail
                            go_ret
                            exact ⟨by first | rfl | (rw [hz.out]; rfl), below_alloc hb⟩
                          · skip
                            have hv : zoneErr1 ⟨2, (kk : Int), lower, upper, true⟩ n false dup = 3 := mze_21 0 _ _ _ false false _ _ (by omega) (by omega) (by omega) (by omega)
                            have hz := hze.out
                            rw [hv, if_pos (by decide)] at hz
                            have hz := Lib.hid hz
                            go_wp2_with fail
                            go_ret
                            exact ⟨by first | rfl | (rw [hz.out]; rfl), below_alloc hb⟩
                        · cases bonus
                          · skip
                            go_wp2_with fail
                            refine (H5.out _).mono ?_
                            rintro e w4 ⟨rfl, rfl⟩
                            cases f1
                            · skip
                              go_wp2_with fail
                              refine (H6.out _).mono ?_
                              rintro e w5 ⟨rfl, rfl⟩
                              cases f2
                              · skip
                                by_cases b1 : upper < lower
                                · have b1d : decide (upper < lower) = true := decide_eq_true b1
                                  have hv : zoneErr1 ⟨2, (kk : Int), lower, upper, false⟩ n true dup = 8 := mze_22 0 _ _ _ false false _ _ (by omega) (by omega) (by omega) (by omega) e3 e4 (by omega)
                                  have hz := hze.out
                                  rw [hv, if_pos (by decide)] at hz
                                  have hz := Lib.hid hz
                                  go_wp2_with fail
                                  go_ret
                                  exact ⟨by first | rfl | (rw [hz.out]; rfl), below_alloc hb⟩
                                · have b1d : decide (upper < lower) = false := decide_eq_false b1
                                  go_wp2_with fail
                                  refine (H3.out _ (by repeat (first | exact Below.refl _ _ | apply below_alloc | apply below_drewN | apply below_drew))).mono ?_
                                  rintro e w3 ⟨rfl, hb9⟩
                                  cases dup
                                  · have hix2 : ix = (j : Int) := by have := hix.out; simpa using this
                                    subst hix2
                                    have hv : zoneErr1 ⟨2, (kk : Int), lower, upper, false⟩ n true false = 0 := mze_23 0 _ _ _ false false false _ (by omega) (by omega) (by omega) (by omega) e3 e4 (by omega)
                                    have hz := hze.out
                                    rw [hv, if_neg (fun e => e rfl)] at hz
                                    go_wp2_with fail
                                    go_roundw
                                    case rel => exact ⟨j + 1, by omega, by go_num, Lib.hid (by rw [← htl'.out]; exact hz), below_then hb (below_then (w := wr) (by repeat (first | exact Below.refl _ _ | apply below_alloc | apply below_drewN | apply below_drew)) hb9), (cell_below (below_then (w := wr) (by repeat (first | exact Below.refl _ _ | apply below_alloc | apply below_drewN | apply below_drew)) hb9) c0), (cell_below (below_then (w := wr) (by repeat (first | exact Below.refl _ _ | apply below_alloc | apply below_drewN | apply below_drew)) hb9) c1)⟩
                                    case measure => simp [intOf]; omega
                                  · have hix2 : (ix != (j : Int)) = true := hix.out
                                    have hv : zoneErr1 ⟨2, (kk : Int), lower, upper, false⟩ n true true = 9 := mze_24 0 _ _ _ false false false _ (by omega) (by omega) (by omega) (by omega) e3 e4 (by omega)
                                    have hz := hze.out
                                    rw [hv, if_pos (by decide)] at hz
                                    have hz := Lib.hid hz
                                    go_wp2_with fail
                                    go_ret
                                    exact ⟨by first | rfl | (rw [hz.out]; rfl), below_then hb (below_then (w := wr) (by repeat (first | exact Below.refl _ _ | apply below_alloc | apply below_drewN | apply below_drew)) hb9)⟩
                              · skip
                                have hv : zoneErr1 ⟨2, (kk : Int), lower, upper, false⟩ n true dup = 2 := mze_25 0 _ _ _ false false _ _ (by omega) (by omega) (by omega) (by omega) e3 e4
                                have hz := hze.out
                                rw [hv, if_pos (by decide)] at hz
                                have hz := Lib.hid hz
                                go_wp2_with fail
                                go_ret
                                exact ⟨by first | rfl | (rw [hz.out]; rfl), below_alloc hb⟩
                            · skip
                              have hv : zoneErr1 ⟨2, (kk : Int), lower, upper, false⟩ n true dup = 2 := mze_26 0 _ _ _ false false _ _ (by omega) (by omega) (by omega) (by omega) e3
                              have hz := hze.out
                              rw [hv, if_pos (by decide)] at hz
                              have hz := Lib.hid hz
                              go_wp2_with fail
                              go_ret
                              exact ⟨by first | rfl | (rw [hz.out]; rfl), below_alloc hb⟩
                          · skip
                            have hv : zoneErr1 ⟨2, (kk : Int), lower, upper, true⟩ n true dup = 3 := mze_27 0 _ _ _ false false _ _ (by omega) (by omega) (by omega) (by omega)
                            have hz := hze.out
                            rw [hv, if_pos (by decide)] at hz
                            have hz := Lib.hid hz
                            go_wp2_with fail
                            go_ret
                            exact ⟨by first | rfl | (rw [hz.out]; rfl), below_alloc hb⟩
                      · cases slot
                        · cases bonus
                          · skip
                            go_wp2_with fail
                            refine (H5.out _).mono ?_
                            rintro e w4 ⟨rfl, rfl⟩
                            cases f1
                            · skip
                              go_wp2_with fail
                              refine (H6.out _).mono ?_
                              rintro e w5 ⟨rfl, rfl⟩
                              cases f2
                              · skip
                                by_cases b1 : upper < lower
                                · have b1d : decide (upper < lower) = true := decide_eq_true b1
                                  have hv : zoneErr1 ⟨3, (kk : Int), lower, upper, false⟩ n false dup = 8 := mze_28 0 _ _ _ false false _ _ (by omega) (by omega) (by omega) (by omega) e3 e4 (by omega)
                                  have hz := hze.out
                                  rw [hv, if_pos (by decide)] at hz
                                  have hz := Lib.hid hz
                                  go_wp2_with fail
                                  go_ret
                                  exact ⟨by first | rfl | (rw [hz.out]; rfl), below_alloc hb⟩
                                · have b1d : decide (upper < lower) = false := decide_eq_false b1
                                  go_wp2_with fail
                                  refine (H3.out _ (by repeat (first | exact Below.refl _ _ | apply below_alloc | apply below_drewN | apply below_drew))).mono ?_
                                  rintro e w3 ⟨rfl, hb9⟩
                                  cases dup
                                  · have hix2 : ix = (j : Int) := by have := hix.out; simpa using this
                                    subst hix2
                                    have hv : zoneErr1 ⟨3, (kk : Int), lower, upper, false⟩ n false false = 0 := mze_29 0 _ _ _ false false false _ (by omega) (by omega) (by omega) (by omega) e3 e4 (by omega)
                                    have hz := hze.out
                                    rw [hv, if_neg (fun e => e rfl)] at hz
                                    go_wp2_with fail
                                    go_roundw
                                    case rel => exact ⟨j + 1, by omega, by go_num, Lib.hid (by rw [← htl'.out]; exact hz), below_then hb (below_then (w := wr) (by repeat (first | exact Below.refl _ _ | apply below_alloc | apply below_drewN | apply below_drew)) hb9), (cell_below (below_then (w := wr) (by repeat (first | exact Below.refl _ _ | apply below_alloc | apply below_drewN | apply below_drew)) hb9) c0), (cell_below (below_then (w := wr) (by repeat (first | exact Below.refl _ _ | apply below_alloc | apply below_drewN | apply below_drew)) hb9) c1)⟩
                                    case measure => simp [intOf]; omega
                                  · have hix2 : (ix != (j : Int)) = true := hix.out
                                    have hv : zoneErr1 ⟨3, (kk : Int), lower, upper, false⟩ n false true = 9 := mze_30 0 _ _ _ false false false _ (by omega) (by omega) (by omega) (by omega) e3 e4 (by omega)
                                    have hz := hze.out
                                    rw [hv, if_pos (by decide)] at hz
                                    have hz := Lib.hid hz
                                    go_wp2_with fail
                                    go_ret
                                    exact ⟨by first | rfl | (rw [hz.out]; rfl), below_then hb (below_then (w := wr) (by repeat (first | exact Below.refl _ _ | apply below_alloc | apply below_drewN | apply below_drew)) hb9)⟩
                              · skip
                                have hv : zoneErr1 ⟨3, (kk : Int), lower, upper, false⟩ n false dup = 2 := mze_31 0 _ _ _ false false _ _ (by omega) (by omega) (by omega) (by omega) e3 e4
                                have hz := hze.out
                                rw [hv, if_pos (by decide)] at hz
                                have hz := Lib.hid hz
                                go_wp2_with fail
                                go_ret
                                exact ⟨by first | rfl | (rw [hz.out]; rfl), below_alloc hb⟩
                            · skip
                              have hv : zoneErr1 ⟨3, (kk : Int), lower, upper, false⟩ n false dup = 2 := mze_32 0 _ _ _ false false _ _ (by omega) (by omega) (by omega) (by omega) e3
                              have hz := hze.out
                              rw [hv, if_pos (by decide)] at hz
                              have hz := Lib.hid hz
                              go_wp2_with fail
                              go_ret
                              exact ⟨by first | rfl | (rw [hz.out]; rfl), below_alloc hb⟩
                          · skip
                            have hv : zoneErr1 ⟨3, (kk : Int), lower, upper, true⟩ n false dup = 3 := mze_33 0 _ _ _ false false _ _ (by omega) (by omega) (by omega) (by omega)
                            have hz := hze.out
                            rw [hv, if_pos (by decide)] at hz
                            have hz := Lib.hid hz
                            go_wp2_with fail
                            go_ret
                            exact ⟨by first | rfl | (rw [hz.out]; rfl), below_alloc hb⟩
                        · cases bonus
                          · skip
                            have hv : zoneErr1 ⟨3, (kk : Int), lower, upper, false⟩ n true dup = 3 := mze_34 0 _ _ _ false false _ _ (by omega) (by omega) (by omega) (by omega)
                            have hz := hze.out
                            rw [hv, if_pos (by decide)] at hz
                            have hz := Lib.hid hz
                            go_wp2_with fail
                            go_ret
                            exact ⟨by first | rfl | (rw [hz.out]; rfl), below_alloc hb⟩
                          · skip
                            have hv : zoneErr1 ⟨3, (kk : Int), lower, upper, true⟩ n true dup = 3 := mze_35 0 _ _ _ false false _ _ (by omega) (by omega) (by omega) (by omega)
                            have hz := hze.out
                            rw [hv, if_pos (by decide)] at hz
                            have hz := Lib.hid hz
                            go_wp2_with fail
                            go_ret
                            exact ⟨by first | rfl | (rw [hz.out]; rfl), below_alloc hb⟩
            · obtain rfl : m = j := by omega
              have R0 : R = 0 := by have := hF.out; rwa [Nat.sub_self] at this
              subst R0
              go_wp2_with fail
              go_ret
              exact ⟨rfl, hb⟩
end Go.Proofs.YtpifbaiibhaklaaGreatDoor
namespace Go.Proofs.YtpifbaiibhaklaaGreatDoor
open Go.ChangeShapes Go.WideShapes Go.ChangeAt Go.RowKit

section
variable {H : Type} {enc : TypeId × Value → H} {P : Program}
theorem open_fields {w : World} {base fuel : Nat} {spare : Nat → Bool} {held : Bool} {t : TypeId} {cs : List Value} {x : DataW H × List MemPlace} {fs : Array Field} (ht : P.underlying t = some (.struct fs))
    (hone : ∀ (i : Nat) (f : Field), fs[i]? = some f → f.offset = i ∧ P.cellsOf f.type = 1) (hC : P.cellsOf t = fs.size) (h : DataW.trod enc P w base spare held fuel t cs = some x) :
    cs.length = fs.size ∧ ∀ (i : Nat) (f : Field), fs[i]? = some f → ∃ y n, DataW.trod enc P w base spare held n f.type [cs.getD i .nilIface] = some y := by
  obtain ⟨xs, n, _, _, hl, hx, hf⟩ := DataW.trod_struct ht h
  refine ⟨hl.trans hC, fun i f hi => ?_⟩
  have hlt : i < fs.size := (Array.getElem?_eq_some_iff.1 hi).1
  obtain ⟨e1, e2⟩ := hone i f hi
  have h2 := hf i f hi
  rw [e1, e2, Deep.take1_drop cs i .nilIface (by omega), List.getElem?_eq_getElem (by omega)] at h2
  exact ⟨_, _, h2⟩
theorem trodAll_stays (hl : laidOutB P = true) {W W' : World} {sp : Nat → Bool} (hb : Below W.heap.size W W') : ∀ {ts : List TypeId} {vs : List Value} {ds : List (DataW H)} {ps : List MemPlace}, (∀ t ∈ ts, P.readableRec t = true ∧ t < P.types.size) →
    DataW.TrodAll enc P W 0 (fun _ => true) true ts vs ds ps → (∀ p ∈ ps, p.block < W.heap.size) → (∀ p ∈ ps, sp p.block = true) → DataW.TrodAll enc P W' 0 sp true ts vs ds ps
  | [], [], [], _, _, h, _, _ => h
  | _ :: _, _ :: _, _ :: _, _, hT, ⟨p, q, h1, h2, e⟩, hlt, hs =>
    ⟨p, q, WideElems.Trod_stays hl (hT _ (List.mem_cons.2 (.inl rfl))).1 (hT _ (List.mem_cons.2 (.inl rfl))).2 h1 (fun x hx => hb.same (hlt x (by rw [e]; exact List.mem_append_left _ hx))) (fun x hx => hs x (by rw [e]; exact List.mem_append_left _ hx)),
      trodAll_stays hl hb (fun t ht => hT t (List.mem_cons.2 (.inr ht))) h2 (fun x hx => hlt x (by rw [e]; exact List.mem_append_right _ hx)) (fun x hx => hs x (by rw [e]; exact List.mem_append_right _ hx)), e⟩
end

theorem kepAll : laidOutB Tryz.prog = true := by kernel_rfl
theorem cF : Tryz.prog.cellsOf 28 = 6 := by kernel_rfl
theorem cZ : Tryz.prog.cellsOf 30 = 5 := by kernel_rfl
theorem cS : Tryz.prog.cellsOf 26 = 2 := by kernel_rfl
section
variable {H : Type} {enc : TypeId × Value → H} {w : World} {base fuel : Nat} {spare : Nat → Bool} {held : Bool} {cs : List Value} {x : DataW H × List MemPlace}
theorem open_feat (h : DataW.trod enc Tryz.prog w base spare held fuel 28 cs = some x) : ∃ f : Feat, cs = encF f := by
  obtain ⟨hl, hf⟩ := open_fields Tryz.underlying28 (Deep.hone_of (by kernel_rfl)) cF h
  match cs, hl with
  | [v0, v1, v2, v3, v4, v5], _ =>
    obtain ⟨y0, n0, g0⟩ := hf 0 _ rfl
    obtain ⟨y1, n1, g1⟩ := hf 1 _ rfl
    obtain ⟨y2, n2, g2⟩ := hf 2 _ rfl
    obtain ⟨y3, n3, g3⟩ := hf 3 _ rfl
    obtain ⟨y4, n4, g4⟩ := hf 4 _ rfl
    obtain ⟨y5, n5, g5⟩ := hf 5 _ rfl
    obtain ⟨s, e0, _, _⟩ := DataW.trod_string Tryz.underlying9 g0
    obtain ⟨a1, e1, _, _⟩ := DataW.trod_int Tryz.underlying3 g1
    obtain ⟨a2, e2, _, _⟩ := DataW.trod_int Tryz.underlying3 g2
    obtain ⟨a3, e3, _, _⟩ := DataW.trod_int Tryz.underlying3 g3
    obtain ⟨a4, e4, _, _⟩ := DataW.trod_int Tryz.underlying3 g4
    obtain ⟨a5, e5, _, _⟩ := DataW.trod_int Tryz.underlying3 g5
    simp at e0 e1 e2 e3 e4 e5
    exact ⟨⟨s, a1, a2, a3, a4, a5⟩, by rw [e0, e1, e2, e3, e4, e5]; rfl⟩
theorem open_zone (h : DataW.trod enc Tryz.prog w base spare held fuel 30 cs = some x) : ∃ z : Zon, cs = encZ z := by
  obtain ⟨hl, hf⟩ := open_fields Tryz.underlying30 (Deep.hone_of (by kernel_rfl)) cZ h
  match cs, hl with
  | [v0, v1, v2, v3, v4], _ =>
    obtain ⟨y0, n0, g0⟩ := hf 0 _ rfl
    obtain ⟨y1, n1, g1⟩ := hf 1 _ rfl
    obtain ⟨y2, n2, g2⟩ := hf 2 _ rfl
    obtain ⟨y3, n3, g3⟩ := hf 3 _ rfl
    obtain ⟨y4, n4, g4⟩ := hf 4 _ rfl
    obtain ⟨a0, e0, _, _⟩ := DataW.trod_int Tryz.underlying3 g0
    obtain ⟨a1, e1, _, _⟩ := DataW.trod_int Tryz.underlying3 g1
    obtain ⟨a2, e2, _, _⟩ := DataW.trod_int Tryz.underlying3 g2
    obtain ⟨a3, e3, _, _⟩ := DataW.trod_int Tryz.underlying3 g3
    obtain ⟨b, e4, _⟩ := DataW.trod_bool Tryz.underlying4 g4
    simp at e0 e1 e2 e3 e4
    exact ⟨⟨a0, a1, a2, a3, b⟩, by rw [e0, e1, e2, e3, e4]; rfl⟩
theorem list_of_rows {α : Type} {enc : α → List Value} {k n : Nat} {c : Nat → Option Value} (hk : ∀ a, (enc a).length = k) (h : ∀ i, i < n → ∃ a, ∀ j, j < k → c (i * k + j) = (enc a)[j]?) :
    ∃ l : List α, l.length = n ∧ ∀ j u, (flat enc l)[j]? = some u → c j = some u := by
  induction n with
  | zero => exact ⟨[], rfl, fun j u hu => by simp [flat] at hu⟩
  | succ n ih =>
    obtain ⟨l, hl, hc⟩ := ih fun i hi => h i (by omega)
    obtain ⟨a, ha⟩ := h n (by omega)
    refine ⟨l ++ [a], by simp [hl], fun j u hu => ?_⟩
    rw [show flat enc (l ++ [a]) = flat enc l ++ enc a by simp [flat]] at hu
    have hf := flat_length enc k hk l
    rcases Nat.lt_or_ge j (flat enc l).length with hj | hj
    · rw [List.getElem?_append_left hj] at hu
      exact hc j u hu
    · rw [List.getElem?_append_right hj] at hu
      have hlt : j - (flat enc l).length < k := by have := (List.getElem?_eq_some_iff.1 hu).1; rwa [hk] at this
      have := ha _ hlt
      rw [hf, hl] at hu hj this
      rw [show n * k + (j - n * k) = j by omega] at this
      rw [this]; exact hu
/-- A slice of structs, opened. -/
theorem open_row {α : Type} {en : α → List Value} {k : Nat} {t e : TypeId} (ht : Tryz.prog.underlying t = some (.slice e)) (hce : Tryz.prog.cellsOf e = k) (hk : ∀ a, (en a).length = k)
    (ho : ∀ {n : Nat} {cs : List Value} {y : DataW H × List MemPlace}, DataW.trod enc Tryz.prog w base spare held n e cs = some y → ∃ a, cs = en a)
    (h : DataW.trod enc Tryz.prog w base spare held fuel t cs = some x) : ∃ A n c l, cs = [.slice A n c] ∧ IsRow en k w.heap.size e w A n c l := by
  rcases Deep.open_slice ht h with ⟨rfl, _⟩ | ⟨a, len, cap, m, n, D, Pl, rfl, hb, hl, hm, hmm, _, hx⟩
  · exact ⟨none, 0, 0, [], rfl, rfl, Nat.le_refl _, Reads.nil⟩
  · have hlm : len ≤ m := by rw [hmm]; split <;> omega
    obtain ⟨l, hll, hlc⟩ := list_of_rows (enc := en) (k := k) (n := len) (c := fun j => w.cell? (a.add j)) hk (fun i hi => by
      obtain ⟨cs', h1, h2⟩ := hx i (by omega)
      obtain ⟨v, rfl⟩ := ho h2
      refine ⟨v, fun j hj => ?_⟩
      obtain ⟨_, _, hc⟩ := World.cells?_some h1
      rw [hce] at hc
      have := hc j hj
      rwa [add_of_add] at this)
    refine ⟨some a, len, cap, l, rfl, hll, hl, ?_⟩
    by_cases h0 : flat en l = []
    · exact .inl h0
    · refine .inr ⟨a, rfl, .inl ?_, hlc⟩
      have := World.block_lt_of_cell? w _ (hlc 0 _ (List.getElem?_eq_getElem (List.length_pos_iff.2 h0)))
      rwa [block_of_add] at this
set_option maxRecDepth 100000 in
theorem open_scheme {v : Value} {d : DataW H} {ps : List MemPlace} (hv : v.okWide Tryz.prog w .any base 26) (h : DataW.Trod enc Tryz.prog w 0 spare held 26 v d ps) : ∃ (A : Option Addr) (n c : Nat) (B : Option Addr) (m k : Nat) (s : Sch), v = .agg #[.slice A n c, .slice B m k] ∧ IsFs w.heap.size 28 w A n c s.fs ∧ IsZs w.heap.size 30 w B m k s.zs := by
  obtain ⟨fuel, h⟩ := h
  obtain ⟨vs, rfl, hsz⟩ := okWide_struct Tryz.underlying26 hv
  rw [cS] at hsz
  obtain ⟨v0, v1, rfl⟩ : ∃ v0 v1, vs = #[v0, v1] := by
    obtain ⟨l⟩ := vs
    match l, hsz with
    | [v0, v1], _ => exact ⟨v0, v1, rfl⟩
  obtain ⟨hl, hf⟩ := open_fields Tryz.underlying26 (Deep.hone_of (by kernel_rfl)) cS h
  obtain ⟨y0, n0, g0⟩ := hf 0 _ rfl
  obtain ⟨y1, n1, g1⟩ := hf 1 _ rfl
  obtain ⟨A, n, c, fs, e0, h0⟩ := open_row (en := encF) Tryz.underlying23 cF encF_len open_feat g0
  obtain ⟨B, m, k, zs, e1, h1⟩ := open_row (en := encZ) Tryz.underlying24 cZ encZ_len open_zone g1
  simp [Value.cells] at e0 e1
  subst e0 e1
  exact ⟨A, n, c, B, m, k, ⟨fs, zs⟩, rfl, h0, h1⟩
end
end Go.Proofs.YtpifbaiibhaklaaGreatDoor
namespace Go.Proofs.YtpifbaiibhaklaaGreatDoor
open Go.RowKit Big
set_option maxHeartbeats 4000000
set_option linter.unusedVariables false
set_option linter.unusedSimpArgs false

theorem long_any (f : Feat) (w : World) :
    Calls Tryz.prog 49 #[.agg #[.string f.name, .int .i64 f.kind, .int .i64 f.axis, .int .i64 f.datum, .int .i64 f.at_, .int .i64 f.wide]] w fun e w' => e = .returned (.bool (decide (40 < f.name.size))) ∧ Below w.heap.size w w' := by
  have e1 : decide ((40 : Int) < (f.name.size : Int)) = decide (40 < f.name.size) := decide_eq_decide.2 (by omega)
  generalize decide (40 < f.name.size) = r at e1
  go_enter Tryz.func49, Tryz.ntmps49
  go_wp2_with fail
  go_ret
  exact ⟨by first | rfl | rw [e1], (by repeat (first | exact Below.refl _ _ | with_reducible assumption | apply below_alloc | apply below_drewN | apply below_drew | refine below_set ?_ (by simp; try omega) _ | refine below_then ?_ (by with_reducible assumption)))⟩
theorem IndexFew_any (base : Nat) (A : Option Addr) (n c : Nat) (fs : List Feat) (p : Feat → Bool) (w : World) (h : IsFs base 28 w A n c fs) (hn : n ≤ 1000000)
    (hp : ∀ f W, Below w.heap.size w W → Calls Tryz.prog 49 #[.agg #[.string f.name, .int .i64 f.kind, .int .i64 f.axis, .int .i64 f.datum, .int .i64 f.at_, .int .i64 f.wide]] W fun e w' => e = .returned (.bool (p f)) ∧ Below W.heap.size W w') :
    Calls Tryz.prog 68 #[.slice A n c, .func (.func 49) #[] #[]] w fun e w' => e = .returned (.int .i64 (idxI p fs)) ∧ Below w.heap.size w w' := by
  have HP := Lib.hid hp
  have hlen := Lib.hid h.len
  clear hp
  go_enter Tryz.func68, Tryz.ntmps68
  go_wp2_with fail
  go_loopw [8] (fun q wr => ∃ (i : Nat), i ≤ n ∧ q = .int .i64 (i : Int) ∧ Hid ((fs.take i).any p = false) ∧ Below w.heap.size w wr) (fun q _ => n - (intOf q).toNat)
  case atStart => exact ⟨0, Nat.zero_le _, rfl, Lib.hid rfl, (by repeat (first | exact Below.refl _ _ | with_reducible assumption | apply below_alloc | apply below_drewN | apply below_drew | refine below_set ?_ (by simp; try omega) _ | refine below_then ?_ (by with_reducible assumption)))⟩
  case round =>
    obtain ⟨i, hi, rfl, ha, hb⟩ := hrel
    have Hb := Lib.hid hb
    by_cases hlt : i < n
    · obtain ⟨ad, ea, x0, x1, x2, x3, x4, x5⟩ := IsFs.cells (h.below hb) i hlt
      subst ea
      have H1 := Lib.hid (HP.out (fs.getD i fd) wr hb)
      have Hs := Lib.hid (any_take_succ p fs fd i (by rw [hlen.out]; exact hlt))
      have Hf := Lib.hid (idxI_found p fs fd i (by rw [hlen.out]; exact hlt) ha.out)
      clear hb HP
      generalize fs.getD i fd = f at x0 x1 x2 x3 x4 x5 H1 Hs Hf
      go_wp2_with fail
      refine H1.out.mono ?_
      rintro e w1 ⟨rfl, hb⟩
      have B1 := Lib.hid (below_then Hb.out hb)
      clear hb
      cases hpf : p f
      · go_wp2_with fail
        go_roundw
        case rel => exact ⟨i + 1, by omega, by go_num, Lib.hid (by rw [Hs.out, ha.out, hpf]; rfl), B1.out⟩
        case measure => simp [intOf]; omega
      · go_wp2_with fail
        go_ret
        exact ⟨by rw [Hf.out hpf]; rfl, B1.out⟩
    · obtain rfl : i = n := by omega
      have e1 := idxI_none p fs (by have := ha.out; rwa [← hlen.out, List.take_length] at this)
      clear hb HP
      go_wp2_with fail
      go_ret
      exact ⟨by rw [e1]; rfl, Hb.out⟩
theorem ContainsFew_any (base : Nat) (A : Option Addr) (n c : Nat) (fs : List Feat) (p : Feat → Bool) (w : World) (h : IsFs base 28 w A n c fs) (hn : n ≤ 1000000)
    (hp : ∀ f W, Below w.heap.size w W → Calls Tryz.prog 49 #[.agg #[.string f.name, .int .i64 f.kind, .int .i64 f.axis, .int .i64 f.datum, .int .i64 f.at_, .int .i64 f.wide]] W fun e w' => e = .returned (.bool (p f)) ∧ Below W.heap.size W w') :
    Calls Tryz.prog 48 #[.slice A n c, .func (.func 49) #[] #[]] w fun e w' => e = .returned (.bool (fs.any p)) ∧ Below w.heap.size w w' := by
  have H := Lib.hid (fun W (hW : Below w.heap.size w W) => IndexFew_any base A n c fs p W (h.below hW) hn (fun f W' hW' => hp f W' (below_then hW hW')))
  have e1 : decide (0 ≤ idxI p fs) = fs.any p := by
    unfold idxI
    cases fs.any p <;> simp
  clear hp h
  generalize idxI p fs = r at H e1
  go_enter Tryz.func48, Tryz.ntmps48
  go_wp2_with fail
  refine (H.out _ (by repeat (first | exact Below.refl _ _ | with_reducible assumption | apply below_alloc | apply below_drewN | apply below_drew | refine below_set ?_ (by simp; try omega) _ | refine below_then ?_ (by with_reducible assumption)))).mono ?_
  rintro e w1 ⟨rfl, hb⟩
  have B1 := Lib.hid (below_then (w := w) (by repeat (first | exact Below.refl _ _ | with_reducible assumption | apply below_alloc | apply below_drewN | apply below_drew | refine below_set ?_ (by simp; try omega) _ | refine below_then ?_ (by with_reducible assumption))) hb)
  clear hb
  go_wp2_with fail
  go_ret
  exact ⟨by rw [← e1]; rfl, B1.out⟩

/-- What few answers. -/
def fewB (s : Sch) : Bool :=
  if 17 < s.fs.length then false else if 33 < s.zs.length then false else if s.fs.any (fun f => decide (40 < f.name.size)) then false
  else if s.fs.length ≤ 6 ∧ s.zs.length ≤ 8 then true else checkE s == 6
set_option maxRecDepth 100000 in
theorem few_any (base : Nat) (A Bz : Option Addr) (n c m d : Nat) (s : Sch) (w : World) (hf : IsFs base 28 w A n c s.fs) (hz : IsZs base 30 w Bz m d s.zs) :
    Calls Tryz.prog 24 #[.agg #[.slice A n c, .slice Bz m d]] w fun e w' => e = .returned (.bool (fewB s)) ∧ Below w.heap.size w w' := by
  have HM := Lib.hid (fun W (hW : Below w.heap.size w W) => (show Calls Tryz.prog 9 #[.agg #[.slice A n c, .slice Bz m d]] W (fun e w' => e = .returned (.int .i64 (checkE s)) ∧ Below W.heap.size W w') from mcheck_any base _ _ _ _ _ _ s.fs s.zs W (hf.below hW) (hz.below hW)))
  have hfb : fewB s = if 17 < n then false else if 33 < m then false else if s.fs.any (fun f => decide (40 < f.name.size)) then false else if n ≤ 6 ∧ m ≤ 8 then true else checkE s == 6 := by unfold fewB; rw [hf.len, hz.len]
  by_cases h1 : 17 < n
  · have h1e : decide ((17 : Int) < (n : Int)) = true := decide_eq_true (by omega)
    rw [hfb, if_pos h1]
    clear hf hz hfb HM
    go_enter Tryz.func24, Tryz.ntmps24
    go_wp2_with fail
    go_ret
    exact ⟨rfl, (by repeat (first | exact Below.refl _ _ | with_reducible assumption | apply below_alloc | apply below_drewN | apply below_drew | refine below_set ?_ (by simp; try omega) _ | refine below_then ?_ (by with_reducible assumption)))⟩
  · have h1e : decide ((17 : Int) < (n : Int)) = false := decide_eq_false (by omega)
    rw [if_neg h1] at hfb
    by_cases h2 : 33 < m
    · have h2e : decide ((33 : Int) < (m : Int)) = true := decide_eq_true (by omega)
      rw [hfb, if_pos h2]
      clear hf hz hfb HM
      go_enter Tryz.func24, Tryz.ntmps24
      go_wp2_with fail
      go_ret
      exact ⟨rfl, (by repeat (first | exact Below.refl _ _ | with_reducible assumption | apply below_alloc | apply below_drewN | apply below_drew | refine below_set ?_ (by simp; try omega) _ | refine below_then ?_ (by with_reducible assumption)))⟩
    · have h2e : decide ((33 : Int) < (m : Int)) = false := decide_eq_false (by omega)
      rw [if_neg h2] at hfb
      have HC := Lib.hid (fun W (hW : Below w.heap.size w W) => ContainsFew_any base A n c s.fs (fun f => decide (40 < f.name.size)) W (hf.below hW) (by omega) (fun f W' _ => long_any f W'))
      clear hf hz
      generalize s.fs.any (fun f => decide (40 < f.name.size)) = lng at hfb HC
      generalize checkE s = E at hfb HM
      rw [hfb]
      clear hfb
      go_enter Tryz.func24, Tryz.ntmps24
      go_wp2_with fail
      refine (HC.out _ (by repeat (first | exact Below.refl _ _ | with_reducible assumption | apply below_alloc | apply below_drewN | apply below_drew | refine below_set ?_ (by simp; try omega) _ | refine below_then ?_ (by with_reducible assumption)))).mono ?_
      rintro e w1 ⟨rfl, hb⟩
      have a0 := keptc hb w.heap.size 0 (.slice A n c) (by simp [go_sem])
      have a1 := keptc hb w.heap.size 1 (.slice Bz m d) (by simp [go_sem])
      have B1 := Lib.hid (below_then (w := w) (by repeat (first | exact Below.refl _ _ | with_reducible assumption | apply below_alloc | apply below_drewN | apply below_drew | refine below_set ?_ (by simp; try omega) _ | refine below_then ?_ (by with_reducible assumption))) hb)
      clear hb HC
      cases lng
      · by_cases h3 : n ≤ 6
        · have h3e : decide ((n : Int) ≤ 6) = true := decide_eq_true (by omega)
          by_cases h4 : m ≤ 8
          · have h4e : decide ((m : Int) ≤ 8) = true := decide_eq_true (by omega)
            go_wp2_with fail
            go_ret
            exact ⟨by simp [h3, h4], B1.out⟩
          · have h4e : decide ((m : Int) ≤ 8) = false := decide_eq_false (by omega)
            go_wp2_with fail
            refine (HM.out _ B1.out).mono ?_
            rintro e w2 ⟨rfl, hb2⟩
            have B2 := Lib.hid (below_then B1.out hb2)
            clear hb2
            go_wp2_with fail
            go_ret
            exact ⟨by simp [h4], B2.out⟩
        · have h3e : decide ((n : Int) ≤ 6) = false := decide_eq_false (by omega)
          go_wp2_with fail
          refine (HM.out _ B1.out).mono ?_
          rintro e w2 ⟨rfl, hb2⟩
          have B2 := Lib.hid (below_then B1.out hb2)
          clear hb2
          go_wp2_with fail
          go_ret
          exact ⟨by simp [h3], B2.out⟩
      · go_wp2_with fail
        go_ret
        exact ⟨by rfl, B1.out⟩
end Go.Proofs.YtpifbaiibhaklaaGreatDoor
namespace Go.Proofs.YtpifbaiibhaklaaGreatDoor
open Go.RowKit Big
set_option maxHeartbeats 4000000
set_option linter.unusedVariables false
set_option linter.unusedSimpArgs false

def encI (x : Int) : List Value := [.int .i64 x]
theorem encI_len (x : Int) : (encI x).length = 1 := rfl
theorem icell {base : Nat} {t : TypeId} {w : World} {A : Option Addr} {n c : Nat} {l : List Int} (h : IsRow encI 1 base t w A n c l) (i : Nat) (hi : i < n) : ∃ ad : Addr, A = some ad ∧ w.cell? (ad.add i) = some (.int .i64 (l.getD i 0)) := by
  obtain ⟨ad, e, hc⟩ := h.at_ encI_len (by decide) 0 i hi
  have := hc 0 _ rfl
  rw [Nat.mul_one, Nat.add_zero] at this
  exact ⟨ad, e, this⟩
theorem row1_new (base : Nat) (W : World) (b : Nat) (hb : b = W.heap.size) (x : Int) : IsRow encI 1 base 3 (W.alloc (.cells #[.int .i64 x] 3)) (some ⟨b, 0, none⟩) 1 1 [x] :=
  ⟨rfl, Nat.le_refl _, Reads.new base W b hb #[.int .i64 x] 3⟩
theorem row2_new (base : Nat) (W : World) (b : Nat) (hb : b = W.heap.size) (x y : Int) : IsRow encI 1 base 3 (W.alloc (.cells #[.int .i64 x, .int .i64 y] 3)) (some ⟨b, 0, none⟩) 2 2 [x, y] :=
  ⟨rfl, Nat.le_refl _, Reads.new base W b hb #[.int .i64 x, .int .i64 y] 3⟩

/-- An index beyond n. -/
def outB (n : Nat) (i : Int) : Bool := decide (i < 0) || decide ((n : Int) ≤ i)
/-- What with answers. -/
def withE (s : Sch) (l : List Int) : Int := if checkE s ≠ 0 then checkE s else if l.any (outB s.fs.length) then 2 else 0
theorem any_of_take {α : Type} (p : α → Bool) (l : List α) (i : Nat) (h : (l.take i).any p = true) : l.any p = true := by
  rw [← List.take_append_drop i l, List.any_append, h]; rfl

set_option maxRecDepth 100000 in
theorem with_any (base base2 : Nat) (A Bz V : Option Addr) (n c m d k cv : Nat) (s : Sch) (l : List Int) (w : World) (hf : IsFs base 28 w A n c s.fs) (hz : IsZs base 30 w Bz m d s.zs) (hv : IsRow encI 1 base2 3 w V k cv l) (hk : k ≤ 1000000) :
    Calls Tryz.prog 46 #[.agg #[.slice A n c, .slice Bz m d], .slice V k cv] w fun e w' => e = .returned (.int .i64 (withE s l)) ∧ Below w.heap.size w w' := by
  have H := Lib.hid (fun W (hW : Below w.heap.size w W) => Check_any base A Bz n c m d s W (hf.below hW) (hz.below hW))
  have hw0 : withE s l = if checkE s ≠ 0 then checkE s else if l.any (outB n) then 2 else 0 := by unfold withE; rw [hf.len]
  have hv' := Lib.hid hv
  have hlen := Lib.hid hv.len
  clear hf hz hv
  by_cases hE : checkE s = 0
  · obtain ⟨R, hR⟩ : ∃ R : Int, R = if l.any (outB n) then 2 else 0 := ⟨_, rfl⟩
    rw [hE] at H
    rw [hw0, hE, if_neg (by decide), ← hR]
    have hR := Lib.hid hR
    clear hw0 hE
    go_enter Tryz.func46, Tryz.ntmps46
    go_wp2_with fail
    refine (H.out _ (by repeat (first | exact Below.refl _ _ | with_reducible assumption | apply below_alloc | apply below_drewN | apply below_drew | refine below_set ?_ (by simp; try omega) _ | refine below_then ?_ (by with_reducible assumption)))).mono ?_
    rintro e w1 ⟨rfl, hb⟩
    have a0 := keptc hb w.heap.size 0 (.slice A n c) (by simp [go_sem])
    have a1 := keptc hb w.heap.size 1 (.slice Bz m d) (by simp [go_sem])
    have B1 := Lib.hid (below_then (w := w) (by repeat (first | exact Below.refl _ _ | with_reducible assumption | apply below_alloc | apply below_drewN | apply below_drew | refine below_set ?_ (by simp; try omega) _ | refine below_then ?_ (by with_reducible assumption))) hb)
    clear hb H
    go_wp2_with fail
    go_loopw [15] (fun q wr => ∃ (i : Nat), i ≤ k ∧ q = .int .i64 (i : Int) ∧ Hid ((l.take i).any (outB n) = false) ∧ Below w1.heap.size w1 wr) (fun q _ => k - (intOf q).toNat)
    case atStart => exact ⟨0, Nat.zero_le _, rfl, Lib.hid rfl, (by repeat (first | exact Below.refl _ _ | with_reducible assumption | apply below_alloc | apply below_drewN | apply below_drew | refine below_set ?_ (by simp; try omega) _ | refine below_then ?_ (by with_reducible assumption)))⟩
    case round =>
      obtain ⟨i, hi, rfl, ha, hb⟩ := hrel
      have c0 := cell_below hb a0
      have Hb := Lib.hid (below_then B1.out hb)
      by_cases hlt : i < k
      · obtain ⟨ad, ea, x0⟩ := icell (hv'.out.below Hb.out) i hlt
        subst ea
        have Hs := any_take_succ (outB n) l 0 i (by rw [hlen.out]; exact hlt)
        generalize l.getD i 0 = x at x0 Hs
        rw [ha.out, Bool.false_or] at Hs
        have Hs := Lib.hid Hs
        have hbb := Lib.hid hb
        clear hb
        by_cases h1 : x < 0
        · have h1e : decide (x < 0) = true := decide_eq_true h1
          obtain rfl : R = 2 := by rw [hR.out, if_pos (any_of_take _ l (i + 1) (by rw [Hs.out]; unfold outB; rw [h1e]; rfl))]
          go_wp2_with fail
          go_ret
          exact ⟨rfl, Hb.out⟩
        · have h1e : decide (x < 0) = false := decide_eq_false h1
          by_cases h2 : (n : Int) ≤ x
          · have h2e : decide ((n : Int) ≤ x) = true := decide_eq_true h2
            obtain rfl : R = 2 := by rw [hR.out, if_pos (any_of_take _ l (i + 1) (by rw [Hs.out]; unfold outB; rw [h1e, h2e]; rfl))]
            clear h1 h2
            go_wp2_with fail
            go_ret
            exact ⟨rfl, Hb.out⟩
          · have h2e : decide ((n : Int) ≤ x) = false := decide_eq_false h2
            clear h1 h2
            go_wp2_with fail
            go_roundw
            case rel => exact ⟨i + 1, by omega, by go_num, Lib.hid (by rw [Hs.out]; unfold outB; rw [h1e, h2e]; rfl), hbb.out⟩
            case measure => simp [intOf]; omega
      · obtain rfl : k = i := by omega
        have h0 : l.any (outB n) = false := by have := ha.out; rwa [← hlen.out, List.take_length] at this
        have hR1 : R = 0 := by rw [hR.out, h0]; rfl
        subst hR1
        clear hb
        go_wp2_with fail
        go_ret
        exact ⟨rfl, Hb.out⟩
  · rw [hw0, if_pos hE]
    clear hw0
    generalize checkE s = E at H hE
    have hEd : (E != 0) = true := by simpa using hE
    go_enter Tryz.func46, Tryz.ntmps46
    go_wp2_with fail
    refine (H.out _ (by repeat (first | exact Below.refl _ _ | with_reducible assumption | apply below_alloc | apply below_drewN | apply below_drew | refine below_set ?_ (by simp; try omega) _ | refine below_then ?_ (by with_reducible assumption)))).mono ?_
    rintro e w1 ⟨rfl, hb⟩
    have B1 := Lib.hid (below_then (w := w) (by repeat (first | exact Below.refl _ _ | with_reducible assumption | apply below_alloc | apply below_drewN | apply below_drew | refine below_set ?_ (by simp; try omega) _ | refine below_then ?_ (by with_reducible assumption))) hb)
    clear hb H
    go_wp2_with fail
    go_ret
    exact ⟨rfl, B1.out⟩

set_option maxRecDepth 100000 in
theorem Chain_bad (base : Nat) (A Bz : Option Addr) (n c m d : Nat) (s : Sch) (i : Int) (w : World) (hf : IsFs base 28 w A n c s.fs) (hz : IsZs base 30 w Bz m d s.zs) (hE : withE s [i] ≠ 0) :
    Calls Tryz.prog 21 #[.agg #[.slice A n c, .slice Bz m d], .int .i64 i] w fun e w' => e = .returned (.tuple #[.slice none 0 0, .int .i64 (withE s [i])]) ∧ Below w.heap.size w w' := by
  have H := Lib.hid (fun W b (hb : b = W.heap.size) (hW : Below w.heap.size w W) => with_any base base A Bz (some ⟨b, 0, none⟩) n c m d 1 1 s [i] _ (hf.below (below_alloc hW)) (hz.below (below_alloc hW)) (row1_new base W b hb i) (by decide))
  clear hf hz
  generalize withE s [i] = E at H hE
  have hEd : (E != 0) = true := by simpa using hE
  go_enter Tryz.func21, Tryz.ntmps21
  go_wp2_with fail
  refine (H.out _ _ (by simp [go_sem]) (by repeat (first | exact Below.refl _ _ | with_reducible assumption | apply below_alloc | apply below_drewN | apply below_drew | refine below_set ?_ (by simp; try omega) _ | refine below_then ?_ (by with_reducible assumption)))).mono ?_
  rintro e w1 ⟨rfl, hb⟩
  have B1 := Lib.hid (below_then (w := w) (by repeat (first | exact Below.refl _ _ | with_reducible assumption | apply below_alloc | apply below_drewN | apply below_drew | refine below_set ?_ (by simp; try omega) _ | refine below_then ?_ (by with_reducible assumption))) hb)
  clear hb H
  go_wp2_with fail
  go_ret2
  exact ⟨rfl, B1.out⟩
set_option maxRecDepth 100000 in
theorem Variable_bad (base : Nat) (A Bz : Option Addr) (n c m d : Nat) (s : Sch) (i k : Int) (w : World) (hf : IsFs base 28 w A n c s.fs) (hz : IsZs base 30 w Bz m d s.zs) (hE : withE s [i] ≠ 0) :
    Calls Tryz.prog 19 #[.agg #[.slice A n c, .slice Bz m d], .int .i64 i, .int .i64 k] w fun e w' => e = .returned (.tuple #[.int .i64 0, .bool false, .int .i64 (withE s [i])]) ∧ Below w.heap.size w w' := by
  have H := Lib.hid (fun W b (hb : b = W.heap.size) (hW : Below w.heap.size w W) => with_any base base A Bz (some ⟨b, 0, none⟩) n c m d 1 1 s [i] _ (hf.below (below_alloc hW)) (hz.below (below_alloc hW)) (row1_new base W b hb i) (by decide))
  clear hf hz
  generalize withE s [i] = E at H hE
  have hEd : (E != 0) = true := by simpa using hE
  go_enter Tryz.func19, Tryz.ntmps19
  go_wp2_with fail
  refine (H.out _ _ (by simp [go_sem]) (by repeat (first | exact Below.refl _ _ | with_reducible assumption | apply below_alloc | apply below_drewN | apply below_drew | refine below_set ?_ (by simp; try omega) _ | refine below_then ?_ (by with_reducible assumption)))).mono ?_
  rintro e w1 ⟨rfl, hb⟩
  have B1 := Lib.hid (below_then (w := w) (by repeat (first | exact Below.refl _ _ | with_reducible assumption | apply below_alloc | apply below_drewN | apply below_drew | refine below_set ?_ (by simp; try omega) _ | refine below_then ?_ (by with_reducible assumption))) hb)
  clear hb H
  go_wp2_with fail
  go_ret3
  exact ⟨rfl, B1.out⟩
set_option maxRecDepth 100000 in
theorem Place_bad (base : Nat) (A Bz : Option Addr) (n c m d : Nat) (s : Sch) (i k : Int) (w : World) (hf : IsFs base 28 w A n c s.fs) (hz : IsZs base 30 w Bz m d s.zs) (hE : withE s [i] ≠ 0) :
    Calls Tryz.prog 25 #[.agg #[.slice A n c, .slice Bz m d], .int .i64 i, .int .i64 k] w fun e w' => e = .returned (.tuple #[.agg #[.string ⟨#[]⟩, .slice none 0 0], .int .i64 (withE s [i])]) ∧ Below w.heap.size w w' := by
  have H := Lib.hid (fun W b (hb : b = W.heap.size) (hW : Below w.heap.size w W) => with_any base base A Bz (some ⟨b, 0, none⟩) n c m d 1 1 s [i] _ (hf.below (below_alloc hW)) (hz.below (below_alloc hW)) (row1_new base W b hb i) (by decide))
  clear hf hz
  generalize withE s [i] = E at H hE
  have hEd : (E != 0) = true := by simpa using hE
  go_enter Tryz.func25, Tryz.ntmps25
  go_wp2_with fail
  refine (H.out _ _ (by simp [go_sem]) (by repeat (first | exact Below.refl _ _ | with_reducible assumption | apply below_alloc | apply below_drewN | apply below_drew | refine below_set ?_ (by simp; try omega) _ | refine below_then ?_ (by with_reducible assumption)))).mono ?_
  rintro e w1 ⟨rfl, hb⟩
  have B1 := Lib.hid (below_then (w := w) (by repeat (first | exact Below.refl _ _ | with_reducible assumption | apply below_alloc | apply below_drewN | apply below_drew | refine below_set ?_ (by simp; try omega) _ | refine below_then ?_ (by with_reducible assumption))) hb)
  have r0 := keptc hb (w.heap.size + 1) 0 (.string ⟨#[]⟩) (by first | with_reducible assumption | (simp [go_sem]; done)); have r1 := keptc hb (w.heap.size + 1) 1 (.slice none 0 0) (by first | with_reducible assumption | (simp [go_sem]; done)); have fr0 := keptF hb (g := w.heap.size + 1) (o := 0) (v := .string ⟨#[]⟩) (by first | with_reducible assumption | (simp [go_sem]; done)) (by first | with_reducible assumption | (simp [go_sem]; done)); have fr1 := keptF hb (g := w.heap.size + 1) (o := 1) (v := .slice none 0 0) (by first | with_reducible assumption | (simp [go_sem]; done)) (by first | with_reducible assumption | (simp [go_sem]; done)); have Tr := Lib.hid (keptT hb (g := w.heap.size + 1) (o := 0) (v := .string ⟨#[]⟩) (by first | with_reducible assumption | (simp [go_sem]; done)) (e := 51) (by first | with_reducible assumption | exact Hid.out (by with_reducible assumption) | (simp [typ_alloc, typ_drewN, typ_drew, otyp_cells]; done)))
  clear hb H
  go_wp2_with fail
  refine bodyPost_ret (v := .tuple #[.agg #[.string ⟨#[]⟩, .slice none 0 0], .int .i64 E]) (by simp [results, Tryz.results25, go_sem, r0, r1]) rfl ⟨rfl, ?_⟩
  exact below_set (below_set B1.out (by simp; try omega) _) (by simp; try omega) _
set_option maxRecDepth 100000 in
theorem Between_bad (base : Nat) (A Bz : Option Addr) (n c m d : Nat) (s : Sch) (i k j o : Int) (w : World) (hf : IsFs base 28 w A n c s.fs) (hz : IsZs base 30 w Bz m d s.zs) (hE : withE s [i, j] ≠ 0) :
    Calls Tryz.prog 26 #[.agg #[.slice A n c, .slice Bz m d], .int .i64 i, .int .i64 k, .int .i64 j, .int .i64 o] w fun e w' => e = .returned (.tuple #[.agg #[.string ⟨#[]⟩, .slice none 0 0], .int .i64 (withE s [i, j])]) ∧ Below w.heap.size w w' := by
  have H := Lib.hid (fun W b (hb : b = W.heap.size) (hW : Below w.heap.size w W) => with_any base base A Bz (some ⟨b, 0, none⟩) n c m d 2 2 s [i, j] _ (hf.below (below_alloc hW)) (hz.below (below_alloc hW)) (row2_new base W b hb i j) (by decide))
  clear hf hz
  generalize withE s [i, j] = E at H hE
  have hEd : (E != 0) = true := by simpa using hE
  go_enter Tryz.func26, Tryz.ntmps26
  go_wp2_with fail
  refine (H.out _ _ (by simp [go_sem]) (by repeat (first | exact Below.refl _ _ | with_reducible assumption | apply below_alloc | apply below_drewN | apply below_drew | refine below_set ?_ (by simp; try omega) _ | refine below_then ?_ (by with_reducible assumption)))).mono ?_
  rintro e w1 ⟨rfl, hb⟩
  have B1 := Lib.hid (below_then (w := w) (by repeat (first | exact Below.refl _ _ | with_reducible assumption | apply below_alloc | apply below_drewN | apply below_drew | refine below_set ?_ (by simp; try omega) _ | refine below_then ?_ (by with_reducible assumption))) hb)
  have r0 := keptc hb (w.heap.size + 1) 0 (.string ⟨#[]⟩) (by first | with_reducible assumption | (simp [go_sem]; done)); have r1 := keptc hb (w.heap.size + 1) 1 (.slice none 0 0) (by first | with_reducible assumption | (simp [go_sem]; done)); have fr0 := keptF hb (g := w.heap.size + 1) (o := 0) (v := .string ⟨#[]⟩) (by first | with_reducible assumption | (simp [go_sem]; done)) (by first | with_reducible assumption | (simp [go_sem]; done)); have fr1 := keptF hb (g := w.heap.size + 1) (o := 1) (v := .slice none 0 0) (by first | with_reducible assumption | (simp [go_sem]; done)) (by first | with_reducible assumption | (simp [go_sem]; done)); have Tr := Lib.hid (keptT hb (g := w.heap.size + 1) (o := 0) (v := .string ⟨#[]⟩) (by first | with_reducible assumption | (simp [go_sem]; done)) (e := 51) (by first | with_reducible assumption | exact Hid.out (by with_reducible assumption) | (simp [typ_alloc, typ_drewN, typ_drew, otyp_cells]; done)))
  clear hb H
  go_wp2_with fail
  refine bodyPost_ret (v := .tuple #[.agg #[.string ⟨#[]⟩, .slice none 0 0], .int .i64 E]) (by simp [results, Tryz.results26, go_sem, r0, r1]) rfl ⟨rfl, ?_⟩
  exact below_set (below_set B1.out (by simp; try omega) _) (by simp; try omega) _
end Go.Proofs.YtpifbaiibhaklaaGreatDoor
namespace Go.Proofs.YtpifbaiibhaklaaGreatDoor
open Go.ChangeShapes Go.WideShapes Go.ChangeAt Go.RowKit

section
variable {H : Type} {enc : TypeId × Value → H} {P : Program}
theorem post_of_below {f : Func} {s : ChangeSpec} {apart fresh handsOn again : Bool} {W W' : World} {args : Array Value} {v : Value} {ds gs : List (DataW H)} {before pa pv : List MemPlace}
    (hW : DataW.Whole enc P f.params.toList s.vars apart W args.toList ds gs before)
    (hres : ∀ (b : Nat) (sp : Nat → Bool) (hd : Bool), DataW.TrodAll enc P W' b sp hd f.resultTypes.toList (v.resultList f.resultTypes.size) (s.fn H (ds ++ gs)).results [])
    (hargs : ∀ sp : Nat → Bool, (∀ p ∈ before, sp p.block = true) → DataW.TrodAll enc P W' 0 sp true f.params.toList args.toList (s.fn H (ds ++ gs)).args pa)
    (hvars : ∀ sp : Nat → Bool, (∀ p ∈ before, sp p.block = true) → DataW.TrodVars enc P W' sp s.vars (s.fn H (ds ++ gs)).vars pv)
    (hps : before = pa ++ pv) (hb : Below W.heap.size W W')
    (hok : ∀ (j : Nat) (t : TypeId) (r : Value), f.resultTypes[j]? = some t → (v.resultList f.resultTypes.size)[j]? = some r → Value.okWide P W' .any 0 t r) :
    s.post enc P f apart fresh handsOn again W args v W' := by
  have hlt : ∀ p ∈ before, p.block < W.heap.size := fun p hp => hW.lt p hp
  have hold : ∀ p ∈ before, (fun b => decide (b < W.heap.size)) p.block = true := fun p hp => by simpa using hlt p hp
  refine ⟨ds, gs, before, [], pa, pv, hW, hres _ _ _, hargs _ hold, hvars _ hold, World.keptBut_mono (fun p hp => ⟨hp, ?_⟩) (hb.frame (· ∈ before)), fun _ => ?_⟩
  · rw [hps, List.mem_append] at hp
    exact Or.inr hp
  · obtain ⟨_, _, _, _, _, hz, hn⟩ := hW
    refine ⟨hok, _, _, ([] ++ pa) ++ pv, ⟨[] ++ pa, pv, trodAll_append (hargs _ (fun _ _ => rfl)) (hres _ _ _), hvars _ (fun _ _ => rfl), rfl, ?_, ?_⟩, ?_⟩
    · intro b off hp
      have hin : MemPlace.cell b off ∈ before := by rw [hps]; simpa using hp
      rw [hb.frozen (hlt _ hin)]
      exact hz b off hin
    · intro ha
      have := hn ha
      rw [hps] at this
      simpa using this
    · intro p hp _
      rw [hps]
      simpa using hp
end
theorem ownK : ownKnob Tryz.prog.godebug = none := by kernel_rfl
theorem gMax : Tryz.prog.globalNamed "internal/bytealg.MaxLen" = some 0 := by kernel_rfl
theorem gPowType : (Tryz.prog.globals[1]?).map (·.type) = some 217 := by kernel_rfl
theorem cellsPow : Tryz.prog.cellsOf 217 = 20 := by kernel_rfl
theorem cellsU64 : Tryz.prog.cellsOf 135 = 1 := by kernel_rfl
theorem tabPow {W : World} (h : laidMetH Tryz.prog Rows.datumLimitsRow.laid W) : Lib.TabIs Tryz.prog W "internal/strconv.uint64pow10" .u64 Lib.pow10Tab := by
  have h2 := h.filter (fun x => x.1 == "internal/strconv.uint64pow10")
  exact Lib.tabIs_of_head (rest := []) gPow gPowType Tryz.underlying217 Tryz.underlying135 cellsU64 cellsPow h2
theorem size8 {W : World} (hsh : W.ShapedOpen Tryz.prog) : 8 ≤ W.heap.size := by
  have hs : ((begin Tryz.prog (fun _ _ => 0) default).world.heap[7]?.bind Obj.row?).isSome = true := by kernel_rfl
  obtain ⟨⟨z, t⟩, hz⟩ := Option.isSome_iff_exists.1 hs
  obtain ⟨cs, hc, _⟩ := hsh.1 7 z t (of_decide_eq_true (by kernel_rfl)) hz
  exact (Array.getElem?_eq_some_iff.1 hc).1
theorem good_of {W : World} (hL : laidMetH Tryz.prog Rows.datumLimitsRow.laid W) (hsh : W.ShapedOpen Tryz.prog) : Good W :=
  ⟨size8 hsh, tabPow hL, Tryz.laysM219.s1_3 W hsh⟩
/-- THE WITNESS's WORLD: the settled one, each listed variable holding what its initialiser lays. -/
noncomputable def low : Nat := (World.holding Tryz.prog default ⟨#[], #[], []⟩).heap.size
def nums (k : IntKind) (l : List Int) : Array Value := (l.map fun z => Value.int k z).toArray
def laidText (d : DataW Unit) : ByteArray := match d with | .iface _ (.ptr (.agg [.lit (.string s)])) => ⟨s.toArray⟩ | _ => ByteArray.empty
mutual
def laidCells : DataW Unit → List Value
  | .lit (.int k z) => [.int k z]
  | .agg l => laidCellsL l
  | _ => []
def laidCellsL : List (DataW Unit) → List Value
  | [] => []
  | d :: l => laidCells d ++ laidCellsL l
end
def cellsOfBlock (g : Nat) : Option (Array Value) :=
  match g with
  | 1 => some (laidCells Rows.laid_internal_strconv_uint64pow10).toArray
  | 2 => some (laidCells Rows.laid_unicode_utf8_first).toArray
  | 3 => some (laidCells Rows.laid_unicode_utf8_acceptRanges).toArray
  | 6 => some (laidCells Rows.laid_math_bits_deBruijn32tab).toArray
  | 7 => some (laidCells Rows.laid_math_bits_deBruijn64tab).toArray
  | _ => none
noncomputable def setBlock (heap : Array Obj) (g : Nat) (cs : List Value) : Array Obj :=
  heap.modify g fun
    | .cells _ t frozen => .cells cs.toArray t frozen
    | o => o
noncomputable def laidWorld (os : Os) : World :=
  let w0 := World.holding Tryz.prog os ⟨#[.cells #[.string (laidText Rows.laid_strconv_ErrSyntax)] 230, .cells #[.string (laidText Rows.laid_strconv_ErrRange)] 230], #[], []⟩
  { w0 with heap := setBlock (setBlock (setBlock (setBlock (setBlock (setBlock (setBlock w0.heap
      1 (laidCells Rows.laid_internal_strconv_uint64pow10)) 2 (laidCells Rows.laid_unicode_utf8_first)) 3 (laidCells Rows.laid_unicode_utf8_acceptRanges))
      6 (laidCells Rows.laid_math_bits_deBruijn32tab)) 7 (laidCells Rows.laid_math_bits_deBruijn64tab))
      4 [.iface 228 (.pointer (some ⟨low, 0, none⟩))]) 5 [.iface 228 (.pointer (some ⟨low + 1, 0, none⟩))] }
end Go.Proofs.YtpifbaiibhaklaaGreatDoor
