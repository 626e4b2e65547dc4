/- Plain mathematics: digits of the base 2^32, the two lemmas of the long division, and rationals. No program is in sight here.
  The words of memory that the walks use: a slice that reads as cells; a magnitude and an integer in memory; each lives on while memory only grows, and while only blocks of other element types are written.
  Package integer: order, Compare, trim, signed, From, Neg, Sign.
  Package integer: Compare, trim, signed, From, Neg, Sign.
  Package integer: trim, signed, From.
  Package integer: plus.
  Package integer: minus.
  Package integer: Add, Sub.
  Package integer: scale.
  Package integer: short. -/
import Derived.Test.YtpifbaiibhaklaaGreatDoorProg
import Derived.WalkKit
import Derived.WalkSpells
import Derived.WalkLawsBesides
import Derived.Deep.QuietTactic
import Derived.BigQuiet
import Derived.Lib.Hide
import Derived.Deep.LoopGhost
import Derived.Deep.OwnRows
import Derived.Deep.RegionHeld3
namespace Go.Proofs.YtpifbaiibhaklaaGreatDoor
namespace Big
set_option linter.unusedVariables false

def W : Int := 4294967296
theorem W_pos : 0 < W := by decide
theorem W_eq : W = 4294967296 := rfl
/-- The number that digits mean, the lowest one first. -/
def val : List Int → Int
  | [] => 0
  | d :: t => d + W * val t
def Limb (d : Int) : Prop := 0 ≤ d ∧ d < 4294967296
def Limbs (l : List Int) : Prop := ∀ d ∈ l, Limb d
theorem Limbs.nil : Limbs [] := by intro d h; cases h
theorem Limbs.cons {d : Int} {l : List Int} (h : Limb d) (k : Limbs l) : Limbs (d :: l) := by
  intro x hx
  cases hx with
  | head => exact h
  | tail _ hx => exact k _ hx
theorem Limbs.head {d : Int} {l : List Int} (h : Limbs (d :: l)) : Limb d := h d List.mem_cons_self
theorem Limbs.tail {d : Int} {l : List Int} (h : Limbs (d :: l)) : Limbs l := fun x hx => h x (List.mem_cons_of_mem _ hx)
theorem Limbs.append {a b : List Int} (h : Limbs a) (k : Limbs b) : Limbs (a ++ b) := by
  intro x hx
  rcases List.mem_append.1 hx with hx | hx
  · exact h x hx
  · exact k x hx
theorem Limbs.left {a b : List Int} (h : Limbs (a ++ b)) : Limbs a := fun x hx => h x (List.mem_append.2 (.inl hx))
theorem Limbs.right {a b : List Int} (h : Limbs (a ++ b)) : Limbs b := fun x hx => h x (List.mem_append.2 (.inr hx))
theorem Limbs.take {l : List Int} (h : Limbs l) (n : Nat) : Limbs (l.take n) := fun x hx => h x (List.mem_of_mem_take hx)
theorem Limbs.drop {l : List Int} (h : Limbs l) (n : Nat) : Limbs (l.drop n) := fun x hx => h x (List.mem_of_mem_drop hx)
theorem Limbs.set {l : List Int} (h : Limbs l) (n : Nat) {v : Int} (hv : Limb v) : Limbs (l.set n v) := by
  intro x hx
  rcases List.mem_or_eq_of_mem_set hx with hx | rfl
  · exact h x hx
  · exact hv
theorem Limbs.replicate (n : Nat) : Limbs (List.replicate n 0) := by
  intro x hx
  rw [(List.mem_replicate.1 hx).2]
  exact ⟨by decide, by decide⟩
theorem pow_pos (n : Nat) : 0 < W ^ n := Int.pow_pos W_pos
theorem pow_succ' (n : Nat) : W ^ (n + 1) = W * W ^ n := by rw [Int.pow_succ, Int.mul_comm]
theorem val_nonneg {l : List Int} (h : Limbs l) : 0 ≤ val l := by
  induction l with
  | nil => exact Int.le_refl 0
  | cons d t ih =>
    have h1 := h.head.1
    have h2 := Int.mul_nonneg (Int.le_of_lt W_pos) (ih h.tail)
    show 0 ≤ d + W * val t
    omega
theorem val_lt {l : List Int} (h : Limbs l) : val l < W ^ l.length := by
  induction l with
  | nil => exact (by decide : (0 : Int) < 1)
  | cons d t ih =>
    have h1 := h.head.2
    have h2 := ih h.tail
    show d + W * val t < W ^ (t.length + 1)
    rw [pow_succ']
    have h3 : W * (val t + 1) ≤ W * W ^ t.length := Int.mul_le_mul_of_nonneg_left h2 (Int.le_of_lt W_pos)
    rw [Int.mul_add] at h3
    have := W_eq
    omega
theorem val_append (a b : List Int) : val (a ++ b) = val a + W ^ a.length * val b := by
  induction a with
  | nil => simp [val]
  | cons d t ih =>
    show d + W * val (t ++ b) = d + W * val t + W ^ (t.length + 1) * val b
    rw [ih, pow_succ', Int.mul_add, Int.mul_assoc]
    omega
theorem val_single (d : Int) : val [d] = d := by simp [val]
theorem val_replicate (n : Nat) : val (List.replicate n 0) = 0 := by
  induction n with
  | zero => rfl
  | succ n ih => rw [List.replicate_succ]; simp [val, ih]
theorem val_take_drop (l : List Int) (n : Nat) (h : n ≤ l.length) : val l = val (l.take n) + W ^ n * val (l.drop n) := by
  have := val_append (l.take n) (l.drop n)
  rw [List.take_append_drop, List.length_take, Nat.min_eq_left h] at this
  exact this
theorem drop_cons (l : List Int) (n : Nat) (h : n < l.length) : l.drop n = l.getD n 0 :: l.drop (n + 1) := by
  rw [List.drop_eq_getElem_cons h, List.getD_eq_getElem?_getD, List.getElem?_eq_getElem h]; rfl
theorem take_snoc (l : List Int) (n : Nat) (h : n < l.length) : l.take (n + 1) = l.take n ++ [l.getD n 0] := by
  rw [List.take_succ_eq_append_getElem h, List.getD_eq_getElem?_getD, List.getElem?_eq_getElem h]; rfl
theorem val_take_succ (l : List Int) (n : Nat) (h : n < l.length) : val (l.take (n + 1)) = val (l.take n) + W ^ n * l.getD n 0 := by
  rw [take_snoc l n h, val_append, val_single, List.length_take, Nat.min_eq_left (by omega)]
theorem Limbs.getD {l : List Int} (h : Limbs l) (n : Nat) : Limb (l.getD n 0) := by
  rw [List.getD_eq_getElem?_getD]
  cases e : l[n]? with
  | none => exact ⟨by decide, by decide⟩
  | some d => exact h d (List.mem_of_getElem? e)
theorem val_set (l : List Int) (n : Nat) (v : Int) (h : n < l.length) : val (l.set n v) = val l + W ^ n * (v - l.getD n 0) := by
  induction l generalizing n with
  | nil => cases h
  | cons d t ih =>
    cases n with
    | zero => show v + W * val t = d + W * val t + W ^ 0 * (v - d); rw [Int.pow_zero]; omega
    | succ n =>
      show d + W * val (t.set n v) = d + W * val t + W ^ (n + 1) * (v - t.getD n 0)
      rw [ih n (by simpa using h), pow_succ', Int.mul_add, Int.mul_assoc]
      omega
/-- No digit 0 at the end. -/
def Trim (l : List Int) : Prop := l = [] ∨ l.getD (l.length - 1) 0 ≠ 0
theorem trim_pos {l : List Int} (h : Limbs l) (t : Trim l) (hn : l ≠ []) : W ^ (l.length - 1) ≤ val l := by
  rcases t with t | t
  · exact absurd t hn
  · have hl : 0 < l.length := List.length_pos_iff.2 hn
    have h1 := val_take_succ l (l.length - 1) (by omega)
    rw [show l.length - 1 + 1 = l.length by omega, List.take_length] at h1
    have h2 := val_nonneg (h.take (l.length - 1))
    have h3 := (h.getD (l.length - 1)).1
    have h4 : W ^ (l.length - 1) * 1 ≤ W ^ (l.length - 1) * l.getD (l.length - 1) 0 := Int.mul_le_mul_of_nonneg_left (by omega) (Int.le_of_lt (pow_pos _))
    omega
theorem trim_zero {l : List Int} (h : Limbs l) (t : Trim l) : val l = 0 ↔ l = [] := by
  constructor
  · intro e
    by_cases hn : l = []
    · exact hn
    · have := trim_pos h t hn
      have := pow_pos (l.length - 1)
      omega
  · rintro rfl; rfl
theorem pow_le {a b : Nat} (h : a ≤ b) : W ^ a ≤ W ^ b := by
  obtain ⟨c, rfl⟩ := Nat.exists_eq_add_of_le h
  rw [Int.pow_add]
  have := Int.mul_le_mul_of_nonneg_left (show (1 : Int) ≤ W ^ c from pow_pos c) (Int.le_of_lt (pow_pos a))
  omega
theorem val_lt_of_length {a b : List Int} (ha : Limbs a) (hb : Limbs b) (tb : Trim b) (h : a.length < b.length) : val a < val b := by
  have h1 := val_lt ha
  have h2 := trim_pos hb tb (by intro e; rw [e] at h; exact absurd h (by simp))
  have h3 : W ^ a.length ≤ W ^ (b.length - 1) := pow_le (by omega)
  omega
theorem val_inj_len {a b : List Int} (ha : Limbs a) (hb : Limbs b) (hl : a.length = b.length) (h : val a = val b) : a = b := by
  induction a generalizing b with
  | nil => exact (List.eq_nil_of_length_eq_zero hl.symm).symm
  | cons d t ih =>
    cases b with
    | nil => simp at hl
    | cons e u =>
      have h1 := ha.head; have h2 := hb.head
      unfold Limb at h1 h2
      have h3 : d + W * val t = e + W * val u := h
      rw [W_eq] at h3
      have : val t = val u := by omega
      rw [ih ha.tail hb.tail (by simpa using hl) this]
      have : d = e := by omega
      rw [this]
theorem val_inj {a b : List Int} (ha : Limbs a) (hb : Limbs b) (ta : Trim a) (tb : Trim b) (h : val a = val b) : a = b := by
  refine val_inj_len ha hb ?_ h
  rcases Nat.lt_trichotomy a.length b.length with hl | hl | hl
  · have := val_lt_of_length ha hb tb hl; omega
  · exact hl
  · have := val_lt_of_length hb ha ta hl; omega
/-- The guess of a digit is too great: one less is still no less than the true one. -/
theorem knuth_down {v1 v2 vl R high u2 ul q rest : Int} (hR : 0 < R) (hvl : 0 ≤ vl) (hul : ul < R) (hq : 0 ≤ q) (he : high = q * v1 + rest) (h : rest * W + u2 < q * v2) :
    (high * W + u2) * R + ul < q * ((v1 * W + v2) * R + vl) := by
  have e1 : q * ((v1 * W + v2) * R + vl) = (q * v1 * W + q * v2) * R + q * vl := by grind
  have e2 : q * v1 * W = high * W - rest * W := by grind
  rw [e1, e2]
  have h1 : high * W + u2 + 1 ≤ high * W - rest * W + q * v2 := by omega
  have h2 := Int.mul_le_mul_of_nonneg_right h1 (Int.le_of_lt hR)
  have h3 := Int.mul_nonneg hq hvl
  rw [Int.add_mul _ 1] at h2
  omega
/-- The guess is at most one too great. -/
theorem knuth_end {v1 v2 vl R high u2 ul q rest : Int} (hR : 0 < R) (hv1 : 1 ≤ v1) (hv2 : 0 ≤ v2) (hvl : vl < R) (hul : 0 ≤ ul) (hq : 0 ≤ q) (hqW : q < W) (he : high = q * v1 + rest) (h : q * v2 ≤ rest * W + u2) (hvl0 : 0 ≤ vl) :
    (q - 1) * ((v1 * W + v2) * R + vl) ≤ (high * W + u2) * R + ul := by
  have e1 : (q - 1) * ((v1 * W + v2) * R + vl) = (q * v1 * W + q * v2) * R + q * vl - ((v1 * W + v2) * R + vl) := by grind
  have e2 : q * v1 * W = high * W - rest * W := by grind
  rw [e1, e2]
  have h2 := Int.mul_le_mul_of_nonneg_right (show high * W - rest * W + q * v2 ≤ high * W + u2 by omega) (Int.le_of_lt hR)
  have h3 : q * vl ≤ W * R := Int.le_trans (Int.mul_le_mul_of_nonneg_right (Int.le_of_lt hqW) hvl0) (Int.mul_le_mul_of_nonneg_left (Int.le_of_lt hvl) (Int.le_of_lt W_pos))
  have h4 : W * R ≤ (v1 * W + v2) * R := by
    refine Int.mul_le_mul_of_nonneg_right ?_ (Int.le_of_lt hR)
    have := Int.mul_le_mul_of_nonneg_right hv1 (Int.le_of_lt W_pos)
    omega
  omega


theorem divInt_parts (n d : Int) (hd : 0 < d) : (Rat.divInt n d).num = n / (Int.gcd n d : Int) ∧ ((Rat.divInt n d).den : Int) = d / (Int.gcd n d : Int) := by
  constructor
  · rw [Rat.num_divInt, Int.sign_eq_one_of_pos hd, Int.one_mul, Int.gcd_comm]
  · rw [Rat.den_divInt, if_neg (by omega), Int.gcd_comm]
    have : d.natAbs = d := by omega
    rw [Int.natCast_ediv, this]
theorem rat_ext {p q : Rat} (h1 : p.num = q.num) (h2 : (p.den : Int) = q.den) : p = q := Rat.ext h1 (by exact_mod_cast h2)
theorem add_eq (p q : Rat) : p + q = Rat.divInt (p.num * q.den + q.num * p.den) (p.den * q.den) := by
  have h1 := p.den_nz; have h2 := q.den_nz
  conv => lhs; rw [← Rat.num_divInt_den p, ← Rat.num_divInt_den q]
  rw [Rat.divInt_add_divInt _ _ (by omega) (by omega)]
theorem mul_eq (p q : Rat) : p * q = Rat.divInt (p.num * q.num) (p.den * q.den) := by
  conv => lhs; rw [← Rat.num_divInt_den p, ← Rat.num_divInt_den q]
  rw [Rat.divInt_mul_divInt]
theorem den_pos (p : Rat) : (0 : Int) < p.den := by have := p.den_nz; omega
theorem div_eq (p q : Rat) (h : q ≠ 0) : p / q = Rat.divInt (p.num * q.den) (p.den * q.num) := by
  have hn : q.num ≠ 0 := fun e => h (by rw [← Rat.num_eq_zero]; exact e)
  rw [Rat.div_def]
  conv => lhs; rw [← Rat.num_divInt_den p, ← Rat.num_divInt_den q]
  rw [Rat.inv_divInt, Rat.divInt_mul_divInt]


theorem num_neg' (p : Rat) : (-p).num = -p.num ∧ (-p).den = p.den := by
  exact ⟨Rat.neg_num .., Rat.neg_den ..⟩
theorem divInt_neg' (n d : Int) : Rat.divInt (-n) (-d) = Rat.divInt n d := by
  by_cases h : d = 0
  · subst h; simp
  · rw [Rat.divInt_eq_divInt_iff (by omega) h]; grind


theorem val_take_any (l : List Int) (n : Nat) : val (l.take (n + 1)) = val (l.take n) + W ^ n * l.getD n 0 := by
  rcases Nat.lt_or_ge n l.length with h | h
  · exact val_take_succ l n h
  · rw [List.take_of_length_le (by omega), List.take_of_length_le h, List.getD_eq_getElem?_getD, List.getElem?_eq_none h]
    simp
/-- A digit written behind the digits that are done. -/
theorem val_take_set (r : List Int) (i : Nat) (v : Int) (h : i < r.length) : val ((r.set i v).take (i + 1)) = val (r.take i) + W ^ i * v := by
  rw [val_take_any, List.take_set_of_le (Nat.le_refl i)]
  congr 2
  simp [List.getD_eq_getElem?_getD, h]
theorem plus_step {r l k : List Int} {i : Nat} {cy s : Int} (hi : i < r.length) (hv : val (r.take i) + W ^ i * cy = val (l.take i) + val (k.take i)) (hs : s = cy + l.getD i 0 + k.getD i 0) :
    val ((r.set i (s % 4294967296)).take (i + 1)) + W ^ (i + 1) * (s / 4294967296) = val (l.take (i + 1)) + val (k.take (i + 1)) := by
  rw [val_take_set r i _ hi, val_take_any l, val_take_any k]
  have h1 : s = 4294967296 * (s / 4294967296) + s % 4294967296 := (Int.mul_ediv_add_emod s 4294967296).symm
  generalize s / 4294967296 = a at *
  generalize s % 4294967296 = b at *
  rw [Int.pow_succ, W_eq] at *
  generalize (4294967296 : Int) ^ i = P at *
  have h2 : P * s = P * 4294967296 * a + P * b := by rw [h1]; grind
  have h3 : P * s = P * cy + P * l.getD i 0 + P * k.getD i 0 := by rw [hs]; grind
  omega
theorem minus_step {r l k : List Int} {i : Nat} {bw t : Int} (hi : i < r.length) (hv : val (r.take i) - W ^ i * bw = val (l.take i) - val (k.take i)) (ht : t = l.getD i 0 - bw - k.getD i 0) :
    val ((r.set i (t % 4294967296)).take (i + 1)) - W ^ (i + 1) * (-(t / 4294967296)) = val (l.take (i + 1)) - val (k.take (i + 1)) := by
  rw [val_take_set r i _ hi, val_take_any l, val_take_any k]
  have h1 : t = 4294967296 * (t / 4294967296) + t % 4294967296 := (Int.mul_ediv_add_emod t 4294967296).symm
  generalize t / 4294967296 = a at *
  generalize t % 4294967296 = b at *
  rw [Int.pow_succ, W_eq] at *
  generalize (4294967296 : Int) ^ i = P at *
  have h2 : P * t = P * 4294967296 * a + P * b := by rw [h1]; grind
  have h3 : P * t = P * l.getD i 0 - P * bw - P * k.getD i 0 := by rw [ht]; grind
  have h4 : P * 4294967296 * -a = -(P * 4294967296 * a) := by grind
  omega
theorem minus_end {r l k : List Int} {n : Nat} {bw : Int} (hr : Limbs r) (hn : r.length = n) (hl : l.length = n) (hk : k.length ≤ n) (hle : val k ≤ val l) (h0 : 0 ≤ bw) (hv : val (r.take n) - W ^ n * bw = val (l.take n) - val (k.take n)) : val r = val l - val k := by
  rw [List.take_of_length_le (by omega), List.take_of_length_le (by omega), List.take_of_length_le (by omega)] at hv
  have h1 := val_lt hr
  rw [hn] at h1
  have : bw = 0 := by
    by_cases hb : bw = 0
    · exact hb
    · have := Int.mul_le_mul_of_nonneg_left (show (1 : Int) ≤ bw by omega) (Int.le_of_lt (pow_pos n))
      omega
  subst this
  omega
theorem scale_step {r l : List Int} {i : Nat} {cy s by_ pl : Int} (hi : i < r.length) (hv : val (r.take i) + W ^ i * cy = val (l.take i) * by_ + pl) (hs : s = cy + l.getD i 0 * by_) :
    val ((r.set i (s % 4294967296)).take (i + 1)) + W ^ (i + 1) * (s / 4294967296) = val (l.take (i + 1)) * by_ + pl := by
  rw [val_take_set r i _ hi, val_take_any l]
  have h1 : s = 4294967296 * (s / 4294967296) + s % 4294967296 := (Int.mul_ediv_add_emod s 4294967296).symm
  generalize s / 4294967296 = a at *
  generalize s % 4294967296 = b at *
  rw [Int.pow_succ, W_eq] at *
  generalize (4294967296 : Int) ^ i = P at *
  have h2 : P * s = P * 4294967296 * a + P * b := by rw [h1]; grind
  have h3 : P * s = P * cy + P * l.getD i 0 * by_ := by rw [hs]; grind
  have h4 : (val (l.take i) + P * l.getD i 0) * by_ = val (l.take i) * by_ + P * l.getD i 0 * by_ := by grind
  omega
theorem mul_bd2 {x y : Int} (hx : 0 ≤ x) (hx' : x < 4294967296) (hy : 0 ≤ y) (hy' : y < 4294967296) : 0 ≤ x * y ∧ x * y ≤ 18446744065119617025 :=
  ⟨Int.mul_nonneg hx hy, by
    have h1 := Int.mul_le_mul_of_nonneg_right (show x ≤ 4294967295 by omega) hy
    omega⟩
theorem drop_set_cons (r : List Int) (i : Nat) (v : Int) (h : i < r.length) : (r.set i v).drop i = v :: r.drop (i + 1) := by
  rw [drop_cons _ i (by rw [List.length_set]; exact h), List.drop_set_of_lt (by omega)]
  congr 1
  simp [List.getD_eq_getElem?_getD, h]
theorem short_step {r l : List Int} {i : Nat} {rest s by_ : Int} (hi : i < r.length) (hi' : i < l.length) (hv : val (l.drop (i + 1)) = val (r.drop (i + 1)) * by_ + rest) (hs : s = rest * 4294967296 + l.getD i 0) :
    val (l.drop i) = val ((r.set i (s / by_)).drop i) * by_ + s % by_ := by
  rw [drop_set_cons r i _ hi, drop_cons l i hi']
  show l.getD i 0 + W * val (l.drop (i + 1)) = (s / by_ + W * val (r.drop (i + 1))) * by_ + s % by_
  rw [hv, W_eq]
  have h1 : s = by_ * (s / by_) + s % by_ := (Int.mul_ediv_add_emod s by_).symm
  generalize s / by_ = a at *
  generalize s % by_ = b at *
  generalize val (r.drop (i + 1)) = R at *
  have h2 : (a + 4294967296 * R) * by_ + b = by_ * a + b + 4294967296 * (R * by_) := by grind
  rw [h2, ← h1, hs]
  omega
theorem div_unique {x q r b : Int} (h : x = q * b + r) (h0 : 0 ≤ r) (h1 : r < b) : q = x / b ∧ r = x % b := by
  have hb : b ≠ 0 := by omega
  subst h
  constructor
  · rw [Int.add_comm, Int.add_mul_ediv_right _ _ hb, Int.ediv_eq_zero_of_lt h0 h1]; omega
  · rw [Int.add_comm, Int.add_mul_emod_self_right, Int.emod_eq_of_lt h0 h1]
theorem quo_lt {s b : Int} (hb : 0 < b) (h : s < b * 4294967296) : s / b < 4294967296 := Int.ediv_lt_of_lt_mul hb (by rw [Int.mul_comm]; exact h)
/-- How many digits an integer has. -/
def lim (z : Int) : Nat := if h : z = 0 then 0 else lim (z.natAbs / 4294967296 : Nat) + 1
  termination_by z.natAbs
  decreasing_by
  have : 0 < z.natAbs := by omega
  simp only [Int.natAbs_natCast]
  exact Nat.div_lt_self this (by decide)
theorem lim_zero : lim 0 = 0 := by rw [lim]; simp
theorem lim_pos {z : Int} (h : z ≠ 0) : lim z = lim (z.natAbs / 4294967296 : Nat) + 1 := by rw [lim]; simp [h]
theorem lim_abs (z : Int) : lim z = lim z.natAbs := by
  by_cases h : z = 0
  · subst h; rfl
  · rw [lim_pos h, lim_pos (z := (z.natAbs : Int)) (by omega)]; rfl
theorem lim_neg (z : Int) : lim (-z) = lim z := by rw [lim_abs, lim_abs z, Int.natAbs_neg]
theorem lim_val {l : List Int} (h : Limbs l) (t : Trim l) : lim (val l) = l.length := by
  induction l with
  | nil => exact lim_zero
  | cons d u ih =>
    have hd := h.head
    unfold Limb at hd
    have hv := val_nonneg h.tail
    have hp := trim_pos h t (by simp)
    have h0 : val (d :: u) ≠ 0 := by have := pow_pos ((d :: u).length - 1); omega
    have tu : Trim u := by
      by_cases e : u = []
      · exact .inl e
      · right
        rcases t with t | t
        · cases t
        · have hl : 0 < u.length := List.length_pos_iff.2 e
          rw [show (d :: u).length - 1 = (u.length - 1) + 1 by simp; omega] at t
          simpa using t
    rw [lim_pos h0]
    have e : (((val (d :: u)).natAbs / 4294967296 : Nat) : Int) = val u := by
      show (((d + W * val u).natAbs / 4294967296 : Nat) : Int) = val u
      rw [W_eq]
      omega
    rw [e, ih h.tail tu]
    rfl
theorem lim_mono {x y : Int} (h : x.natAbs ≤ y.natAbs) : lim x ≤ lim y := by
  induction hn : y.natAbs using Nat.strongRecOn generalizing x y with
  | ind n ih =>
    by_cases hx : x = 0
    · subst hx; rw [lim_zero]; exact Nat.zero_le _
    · have hy : y ≠ 0 := by omega
      rw [lim_pos hx, lim_pos hy]
      have := ih (y.natAbs / 4294967296) (by rw [← hn]; exact Nat.div_lt_self (by omega) (by decide)) (x := (x.natAbs / 4294967296 : Nat)) (y := (y.natAbs / 4294967296 : Nat)) (by simp only [Int.natAbs_natCast]; exact Nat.div_le_div_right h) (Int.natAbs_natCast _)
      omega
theorem lim_lt (z : Int) : z.natAbs < 4294967296 ^ lim z := by
  induction hn : z.natAbs using Nat.strongRecOn generalizing z with
  | ind n ih =>
    by_cases hx : z = 0
    · subst hx; rw [lim_zero]; rw [← hn]; decide
    · rw [lim_pos hx, Nat.pow_succ]
      have h1 := ih (z.natAbs / 4294967296) (by rw [← hn]; exact Nat.div_lt_self (by omega) (by decide)) (z.natAbs / 4294967296 : Nat) (Int.natAbs_natCast _)
      have h2 := Nat.div_add_mod z.natAbs 4294967296
      have h3 := Nat.mod_lt z.natAbs (show 0 < 4294967296 by decide)
      rw [← hn]
      omega
theorem lim_le {z : Int} {k : Nat} (h : z.natAbs < 4294967296 ^ k) : lim z ≤ k := by
  induction k generalizing z with
  | zero => have : z = 0 := by simp at h; omega
            subst this; rw [lim_zero]; exact Nat.le_refl _
  | succ k ih =>
    by_cases hx : z = 0
    · subst hx; rw [lim_zero]; exact Nat.zero_le _
    · rw [lim_pos hx]
      have := ih (z := (z.natAbs / 4294967296 : Nat)) (by
        simp only [Int.natAbs_natCast]
        rw [Nat.pow_succ] at h
        exact Nat.div_lt_of_lt_mul (by rw [Nat.mul_comm]; exact h))
      omega
theorem lim_add (x y : Int) : lim (x + y) ≤ max (lim x) (lim y) + 1 := by
  apply lim_le
  have h1 := lim_lt x
  have h2 := lim_lt y
  have h3 : 4294967296 ^ lim x ≤ 4294967296 ^ max (lim x) (lim y) := Nat.pow_le_pow_right (by decide) (Nat.le_max_left _ _)
  have h4 : 4294967296 ^ lim y ≤ 4294967296 ^ max (lim x) (lim y) := Nat.pow_le_pow_right (by decide) (Nat.le_max_right _ _)
  rw [Nat.pow_succ]
  omega
theorem lim_mul (x y : Int) : lim (x * y) ≤ lim x + lim y := by
  apply lim_le
  rw [Int.natAbs_mul, Nat.pow_add]
  exact Nat.mul_lt_mul_of_lt_of_le (lim_lt x) (Nat.le_of_lt (lim_lt y)) (Nat.pos_of_ne_zero (by intro e; have := Nat.pow_pos (n := lim y) (show 0 < 4294967296 by decide); omega))
theorem lim_small {z : Int} (h : z.natAbs < 18446744073709551616) : lim z ≤ 2 := lim_le (k := 2) (by simpa using h)
end Big
end Go.Proofs.YtpifbaiibhaklaaGreatDoor
namespace Go.Proofs.YtpifbaiibhaklaaGreatDoor
open Go.RowKit Big

theorem add_of_add (a : Addr) (i j : Nat) : (a.add i).add j = a.add (i + j) := by
  unfold Addr.add
  by_cases hi : i = 0 <;> by_cases hj : j = 0 <;> simp [hi, hj, Nat.add_assoc]
theorem block_of_add (a : Addr) (n : Nat) : (a.add n).block = a.block := by unfold Addr.add; split <;> rfl
theorem add_plain (g j : Nat) : (⟨g, 0, none⟩ : Addr).add j = ⟨g, j, none⟩ := by unfold Addr.add; split <;> simp_all
theorem below_drewN {B : Nat} {a w : World} (h : Below B a w) (n : Nat) : Below B a (w.drewN n) := ⟨h.os, h.tape, h.output, h.size, h.block⟩
theorem below_drew {B : Nat} {w W : World} (h : Below B w W) : Below B w W.drew := ⟨h.os, h.tape, h.output, h.size, h.block⟩
theorem below_alloc {w W : World} {o : Obj} (h : Below w.heap.size w W) : Below w.heap.size w (W.alloc o) := h.alloc h.size o
theorem below_set {w W : World} {p : Addr} (h : Below w.heap.size w W) (hp : w.heap.size ≤ p.block) (u : Value) : Below w.heap.size w (W.setCell p u) := h.setCell hp u
theorem below_then {w w1 w2 : World} (h : Below w.heap.size w w1) (k : Below w1.heap.size w1 w2) : Below w.heap.size w w2 :=
  h.trans ⟨k.os, k.tape, k.output, k.size, fun i hi => k.block i (Nat.lt_of_lt_of_le hi h.size)⟩
theorem cell_below {w w1 : World} (h : Below w.heap.size w w1) {a : Addr} {v : Value} (hc : w.cell? a = some v) : w1.cell? a = some v := (h.cell (World.block_lt_of_cell? w a hc)).trans hc

/-- The world is the old one, some orders having been drawn. -/
def Drawn (w w' : World) : Prop := ∃ n, w' = w.drewN n
theorem Drawn.refl (w : World) : Drawn w w := ⟨0, rfl⟩
theorem Drawn.step {w w' : World} (h : Drawn w w') (n : Nat) : Drawn w (w'.drewN n) := by
  obtain ⟨m, rfl⟩ := h
  exact ⟨m + n, World.drewN_drewN ..⟩
theorem Drawn.drew {w w' : World} (h : Drawn w w') : Drawn w w'.drew := h.step 1
theorem Drawn.below {w w' : World} (h : Drawn w w') : Below w.heap.size w w' := by
  obtain ⟨n, rfl⟩ := h
  exact below_drewN (Below.refl _ _) n

/-! ### The element type of a block -/
def otyp : Obj → Option TypeId
  | .cells _ e _ => some e
  | _ => none
def typ (w : World) (b : Nat) : Option TypeId := (w.heap[b]?).bind otyp
theorem typ_alloc (w : World) (o : Obj) (b : Nat) : typ (w.alloc o) b = if b = w.heap.size then otyp o else typ w b := by
  unfold typ
  split
  · rename_i h
    subst h
    rw [heap_alloc_new]
    rfl
  · rename_i h
    rcases Nat.lt_or_ge b w.heap.size with hb | hb
    · rw [Below.heap_alloc w o b hb]
    · rw [Array.getElem?_eq_none (by simp; omega), Array.getElem?_eq_none hb]
theorem typ_drewN (w : World) (n b : Nat) : typ (w.drewN n) b = typ w b := rfl
theorem typ_drew (w : World) (b : Nat) : typ w.drew b = typ w b := rfl
theorem typ_set (w : World) (p : Addr) (u : Value) (b : Nat) : typ (w.setCell p u) b = typ w b := by
  unfold typ World.setCell
  simp only [Array.getElem?_modify]
  split
  · cases w.heap[b]? with
    | none => rfl
    | some o => cases o <;> rfl
  · rfl
theorem otyp_cells (c : Array Value) (e : TypeId) (fr : Nat × Nat) : otyp (.cells c e fr) = some e := rfl
theorem typ_below {w w1 : World} (h : Below w.heap.size w w1) {b : Nat} (hb : b < w.heap.size) : typ w1 b = typ w b := by unfold typ; rw [h.block b hb]

/-- What a call that only makes memory leaves of a local variable. -/
theorem keptc {W w1 : World} (hb : Below W.heap.size W w1) (g o : Nat) (v : Value) (hc : W.cell? ⟨g, o, none⟩ = some v) : w1.cell? ⟨g, o, none⟩ = some v := cell_below hb hc
theorem keptf {W w1 : World} (hb : Below W.heap.size W w1) (g o : Nat) (b : Bool) (hg : g < W.heap.size) (hc : W.frozen? ⟨g, o, none⟩ = b) : w1.frozen? ⟨g, o, none⟩ = b := (hb.frozen (p := ⟨g, o, none⟩) hg).trans hc
theorem keptt {W w1 : World} (hb : Below W.heap.size W w1) (g : Nat) (e : TypeId) (hg : g < W.heap.size) (hc : typ W g = some e) : typ w1 g = some e := (typ_below hb hg).trans hc

theorem keptF {W w1 : World} (hb : Below W.heap.size W w1) {g o : Nat} {v : Value} (hc : W.cell? ⟨g, o, none⟩ = some v) (hf : W.frozen? ⟨g, o, none⟩ = false) : w1.frozen? ⟨g, o, none⟩ = false := (hb.frozen (p := ⟨g, o, none⟩) (World.block_lt_of_cell? W _ hc)).trans hf
theorem keptT {W w1 : World} (hb : Below W.heap.size W w1) {g o : Nat} {v : Value} (hc : W.cell? ⟨g, o, none⟩ = some v) {e : TypeId} (ht : typ W g = some e) : typ w1 g = some e := (typ_below hb (World.block_lt_of_cell? W _ hc)).trans ht

theorem cell_set_far {W : World} {p a : Addr} {v : Value} (h : W.cell? a = some v) (hne : p.block ≠ a.block) (u : Value) : (W.setCell p u).cell? a = some v := (World.cell?_setCell_other W p a u (fun e => hne (by rw [e]))).trans h

/-- Blocks below 'base', and blocks of the element type e, are as they were. -/
structure Keeps (base : Nat) (e : TypeId) (w w' : World) : Prop where
  size : w.heap.size ≤ w'.heap.size
  blk : ∀ b, b < w.heap.size → (b < base ∨ typ w b = some e) → w'.heap[b]? = w.heap[b]?
section
variable {base : Nat} {e : TypeId} {w W W' : World}
theorem Keeps.refl (base : Nat) (e : TypeId) (w : World) : Keeps base e w w := ⟨Nat.le_refl _, fun _ _ _ => rfl⟩
theorem Keeps.of_below (h : Below w.heap.size w W) : Keeps base e w W := ⟨h.size, fun b hb _ => h.block b hb⟩
theorem Keeps.alloc (h : Keeps base e w W) (o : Obj) : Keeps base e w (W.alloc o) :=
  ⟨Nat.le_trans h.size (by simp), fun b hb ht => (Below.heap_alloc W o b (Nat.lt_of_lt_of_le hb h.size)).trans (h.blk b hb ht)⟩
theorem Keeps.drewN (h : Keeps base e w W) (n : Nat) : Keeps base e w (W.drewN n) := ⟨h.size, h.blk⟩
theorem Keeps.drew (h : Keeps base e w W) : Keeps base e w W.drew := ⟨h.size, h.blk⟩
theorem Keeps.set (h : Keeps base e w W) {p : Addr} (hp : base ≤ p.block) (ht : typ w p.block ≠ some e) (u : Value) : Keeps base e w (W.setCell p u) := by
  refine ⟨by simpa [World.setCell] using h.size, fun b hb hk => (Below.heap_setCell W p u b ?_).trans (h.blk b hb hk)⟩
  rintro rfl
  rcases hk with hk | hk
  · omega
  · exact ht hk
theorem Keeps.setNew (h : Keeps base e w W) {p : Addr} (hp : w.heap.size ≤ p.block) (u : Value) : Keeps base e w (W.setCell p u) :=
  ⟨by simpa [World.setCell] using h.size, fun b hb hk => (Below.heap_setCell W p u b (by omega)).trans (h.blk b hb hk)⟩
theorem Keeps.typ (h : Keeps base e w W) {b : Nat} (hb : b < w.heap.size) (hk : b < base ∨ typ w b = some e) : typ W b = Go.Proofs.YtpifbaiibhaklaaGreatDoor.typ w b := by
  unfold Go.Proofs.YtpifbaiibhaklaaGreatDoor.typ; rw [h.blk b hb hk]
theorem Keeps.trans (h : Keeps base e w W) (k : Keeps base e W W') : Keeps base e w W' :=
  ⟨Nat.le_trans h.size k.size, fun b hb hk => (k.blk b (Nat.lt_of_lt_of_le hb h.size) (hk.imp_right fun ht => (h.typ hb (.inr ht)).trans ht)).trans (h.blk b hb hk)⟩
end

/-- From an address on, if there is one, memory reads as these cells; they lie below 'base', or in a block of the element type e. -/
def Reads (base : Nat) (e : TypeId) (w : World) (A : Option Addr) (xs : List Value) : Prop :=
  xs = [] ∨ ∃ ad, A = some ad ∧ (ad.block < base ∨ typ w ad.block = some e) ∧ ∀ j u, xs[j]? = some u → w.cell? (ad.add j) = some u
section
variable {base : Nat} {e : TypeId} {w w' : World} {A : Option Addr} {xs : List Value}
theorem Reads.nil : Reads base e w A [] := .inl rfl
theorem Reads.keeps (h : Reads base e w A xs) (hk : Keeps base e w w') : Reads base e w' A xs := by
  rcases h with h | ⟨ad, ea, ht, hc⟩
  · exact .inl h
  · by_cases h0 : xs = []
    · exact .inl h0
    · have hlt : ad.block < w.heap.size := by
        have := World.block_lt_of_cell? w _ (hc 0 _ (List.getElem?_eq_getElem (List.length_pos_iff.2 h0)))
        rwa [block_of_add] at this
      refine .inr ⟨ad, ea, ht.imp_right fun h => (hk.typ hlt (.inr h)).trans h, fun j u hu => ?_⟩
      rw [World.cell?_of_block (w := w) (w' := w') (by rw [block_of_add]; exact hk.blk _ hlt ht)]
      exact hc j u hu
theorem Reads.below (h : Reads base e w A xs) (hb : Below w.heap.size w w') : Reads base e w' A xs := h.keeps (.of_below hb)
theorem Reads.at_ (h : Reads base e w A xs) (i : Nat) (hi : i < xs.length) : ∃ ad, A = some ad ∧ w.cell? (ad.add i) = some xs[i] := by
  rcases h with rfl | ⟨ad, ea, _, hc⟩
  · simp at hi
  · exact ⟨ad, ea, hc i _ (List.getElem?_eq_getElem hi)⟩
theorem Reads.more {base' : Nat} (h : Reads base e w A xs) (hb : base ≤ base') : Reads base' e w A xs := by
  rcases h with h | ⟨ad, ea, ht, hc⟩
  · exact .inl h
  · exact .inr ⟨ad, ea, ht.imp_left fun h => Nat.lt_of_lt_of_le h hb, hc⟩
theorem Reads.new (base : Nat) (W : World) (b : Nat) (hb : b = W.heap.size) (xs : Array Value) (t : TypeId) : Reads base t (W.alloc (.cells xs t)) (some ⟨b, 0, none⟩) xs.toList := by
  subst hb
  refine .inr ⟨_, rfl, .inr (by rw [typ_alloc, if_pos rfl]; rfl), fun j u hu => ?_⟩
  rw [add_plain]
  have h := heap_alloc_new W (.cells xs t)
  simp only [World.cell?, h]
  simpa using hu
theorem Reads.take (h : Reads base e w A xs) (n : Nat) : Reads base e w A (xs.take n) := by
  rcases h with h | ⟨ad, ea, ht, hc⟩
  · exact .inl (by rw [h]; simp)
  · refine .inr ⟨ad, ea, ht, fun j u hu => ?_⟩
    rw [List.getElem?_take] at hu
    split at hu
    · exact hc j u hu
    · cases hu
theorem Reads.of_own {b0 n c size : Nat} (h : w.ownsRow b0 e size (.slice A n c) n xs) : Reads base e w A xs := by
  rcases h.2 with ⟨hv, hn⟩ | ⟨g, cap, cur, hv, _, hh, _⟩
  · exact .inl (List.eq_nil_of_length_eq_zero (by have := h.1; rw [hn] at this; simpa using this))
  · injection hv with hA _ _
    subst hA
    refine .inr ⟨_, rfl, .inr (by simp [typ, hh, otyp]), h.cells (g := g) rfl⟩
end

def u32s (l : List Int) : List Value := l.map (.int .u32)
theorem u32s_length (l : List Int) : (u32s l).length = l.length := by simp [u32s]
theorem u32s_at (l : List Int) (i : Nat) (h : i < (u32s l).length) : (u32s l)[i] = .int .u32 (l.getD i 0) := by
  have hl : i < l.length := by rwa [u32s_length] at h
  simp [u32s, List.getElem?_eq_getElem hl, List.getD_eq_getElem?_getD]
/-- A slice of uint32 that reads as a list. -/
structure IsMag (base : Nat) (w : World) (A : Option Addr) (n c : Nat) (l : List Int) : Prop where
  len : l.length = n
  cap : n ≤ c
  limbs : Limbs l
  reads : Reads base 137 w A (u32s l)
section
variable {base : Nat} {w w' : World} {A : Option Addr} {n c : Nat} {l : List Int} {z : Int} {neg : Bool}
theorem IsMag.keeps (h : IsMag base w A n c l) (hk : Keeps base 137 w w') : IsMag base w' A n c l := ⟨h.len, h.cap, h.limbs, h.reads.keeps hk⟩
theorem IsMag.below (h : IsMag base w A n c l) (hb : Below w.heap.size w w') : IsMag base w' A n c l := h.keeps (.of_below hb)
theorem IsMag.at_ (h : IsMag base w A n c l) (i : Nat) (hi : i < n) : ∃ ad, A = some ad ∧ w.cell? (ad.add i) = some (.int .u32 (l.getD i 0)) := by
  have hl : i < l.length := by have := h.len; omega
  obtain ⟨ad, e, hc⟩ := h.reads.at_ i (by rw [u32s_length]; exact hl)
  exact ⟨ad, e, by rw [hc, u32s_at]⟩
def sgn (neg : Bool) (x : Int) : Int := if neg then -x else x
/-- An integer: its sign, and the digits of its magnitude. -/
def IsInt (base : Nat) (w : World) (neg : Bool) (A : Option Addr) (n c : Nat) (z : Int) : Prop :=
  ∃ l, IsMag base w A n c l ∧ Trim l ∧ (neg = true → l ≠ []) ∧ z = sgn neg (val l)
theorem IsInt.keeps (h : IsInt base w neg A n c z) (hk : Keeps base 137 w w') : IsInt base w' neg A n c z := by
  obtain ⟨l, h1, h2⟩ := h
  exact ⟨l, h1.keeps hk, h2⟩
theorem IsInt.below (h : IsInt base w neg A n c z) (hb : Below w.heap.size w w') : IsInt base w' neg A n c z := h.keeps (.of_below hb)
theorem IsInt.len (h : IsInt base w neg A n c z) : n = lim z := by
  obtain ⟨l, h1, h2, _, rfl⟩ := h
  rw [← h1.len, ← lim_val h1.limbs h2]
  unfold sgn
  split
  · rw [lim_neg]
  · rfl
end
/-- A block of the call's own that holds digits. -/
def Digits (w : World) (g : Nat) (r : List Int) : Prop := w.heap[g]? = some (.cells (u32s r).toArray 137 (0, 0))
section
variable {w w' : World} {g : Nat} {r : List Int}
theorem Digits.made (W : World) (n : Nat) : Digits (W.alloc (.cells (madeCells #[.int .u32 0] n) 137)) W.heap.size (List.replicate n 0) := by
  unfold Digits
  rw [heap_alloc_new]
  congr 2
  apply Array.ext'
  apply List.ext_getElem
  · simp [u32s, madeCells]
  · intro i h1 h2
    simp [u32s, madeCells, Nat.mod_one]
theorem Digits.cell (h : Digits w g r) (i : Nat) (hi : i < r.length) : w.cell? ⟨g, i, none⟩ = some (.int .u32 (r.getD i 0)) := by
  unfold Digits at h
  simp [World.cell?, h, u32s, List.getElem?_eq_getElem hi, List.getD_eq_getElem?_getD]
theorem Digits.frozen (h : Digits w g r) (i : Nat) : w.frozen? ⟨g, i, none⟩ = false := by
  unfold Digits at h
  simp [World.frozen?, h]
theorem Digits.set (h : Digits w g r) (i : Nat) (v : Int) : Digits (w.setCell ⟨g, i, none⟩ (.int .u32 v)) g (r.set i v) := by
  unfold Digits at h ⊢
  simp [World.setCell, Array.getElem?_modify, h, u32s, List.map_set]
theorem Digits.drewN (h : Digits w g r) (n : Nat) : Digits (w.drewN n) g r := h
theorem Digits.lt (h : Digits w g r) : g < w.heap.size := (Array.getElem?_eq_some_iff.1 h).1
theorem Digits.keeps (h : Digits w g r) {base : Nat} (hk : Keeps base 137 w w') : Digits w' g r := (hk.blk g h.lt (.inr (by unfold Digits at h; simp [typ, h, otyp]))).trans h
theorem Digits.mag (h : Digits w g r) (base : Nat) (hl : Limbs r) : IsMag base w (some ⟨g, 0, none⟩) r.length r.length r := by
  refine ⟨rfl, Nat.le_refl _, hl, .inr ⟨_, rfl, .inr (by unfold Digits at h; simp [typ, h, otyp]), fun j u hu => ?_⟩⟩
  rw [add_plain]
  have hj : j < r.length := by have := (List.getElem?_eq_some_iff.1 hu).1; rwa [u32s_length] at this
  rw [h.cell j hj, ← hu, List.getElem?_eq_getElem (by rw [u32s_length]; exact hj), u32s_at]
end
/-- What a comparison answers. -/
def cmpI (x y : Int) : Int := if x < y then -1 else if x = y then 0 else 1
def sgnI (x : Int) : Int := if x < 0 then -1 else if x = 0 then 0 else 1
/-- The call hands back an integer in memory. -/
def RetInt (base : Nat) (w : World) (z : Int) (e : Ending) (w' : World) : Prop := ∃ p A n c, e = .returned (.agg #[.bool p, .slice A n c]) ∧ IsInt base w' p A n c z ∧ Below w.heap.size w w'
end Go.Proofs.YtpifbaiibhaklaaGreatDoor
namespace Go.Proofs.YtpifbaiibhaklaaGreatDoor
open Go.RowKit Big
set_option maxHeartbeats 400000
set_option linter.unusedVariables false
set_option linter.unusedSimpArgs false

/-- Upper digits that are equal say nothing; the first that differ decide. -/
theorem cmp_digit {l k : List Int} (hl : Limbs l) (hk : Limbs k) (he : l.length = k.length) (i : Nat) (hi : i < l.length) (hd : l.drop (i + 1) = k.drop (i + 1)) :
    (l.getD i 0 < k.getD i 0 → val l < val k) ∧ (k.getD i 0 < l.getD i 0 → val k < val l) := by
  have key : ∀ {l k : List Int}, Limbs l → Limbs k → l.length = k.length → i < l.length → l.drop (i + 1) = k.drop (i + 1) → l.getD i 0 < k.getD i 0 → val l < val k := by
    intro l k hl hk he hi hd hlt
    rw [val_take_drop l i (by omega), val_take_drop k i (by omega), drop_cons l i hi, drop_cons k i (by omega), hd]
    have h1 := val_lt (hl.take i)
    have h2 := val_nonneg (hk.take i)
    rw [List.length_take, Nat.min_eq_left (by omega)] at h1
    have h3 : W ^ i * (l.getD i 0 + W * val (k.drop (i + 1)) + 1) ≤ W ^ i * (k.getD i 0 + W * val (k.drop (i + 1))) := Int.mul_le_mul_of_nonneg_left (by omega) (Int.le_of_lt (pow_pos i))
    show val (l.take i) + W ^ i * (l.getD i 0 + W * val (k.drop (i + 1))) < val (k.take i) + W ^ i * (k.getD i 0 + W * val (k.drop (i + 1)))
    rw [Int.mul_add _ _ 1] at h3
    omega
  exact ⟨key hl hk he hi hd, key hk hl he.symm (by omega) hd.symm⟩

theorem order_any (A B : Option Addr) (n c m d : Nat) (l k : List Int) (w : World) {b1 b2 : Nat} (h1 : IsMag b1 w A n c l) (h2 : IsMag b2 w B m d k) (t1 : Trim l) (t2 : Trim k) (hn : n ≤ 1099511627776) (hm : m ≤ 1099511627776) :
    Calls Tryz.prog 90 #[.slice A n c, .slice B m d] w fun e w' => e = .returned (.int .i64 (cmpI (val l) (val k))) ∧ Drawn w w' := by
  have hl := h1.len
  have hk := h2.len
  by_cases hnm : n = m
  · subst hnm
    have Hl := Lib.hid hl
    have Hk := Lib.hid hk
    clear hl hk
    go_enter Tryz.func90, Tryz.ntmps90
    go_wp2
    go_loopw [5] (fun v wr => ∃ i : Int, -1 ≤ i ∧ i < n ∧ v = .int .i64 i ∧ Hid (l.drop (i + 1).toNat = k.drop (i + 1).toNat) ∧ Drawn w wr) (fun v _ => (intOf v + 1).toNat)
    case atStart => exact ⟨n - 1, by omega, by omega, rfl, Lib.hid (by rw [List.drop_eq_nil_of_le (by rw [Hl.out]; omega), List.drop_eq_nil_of_le (by rw [Hk.out]; omega)]), Drawn.refl _⟩
    case round =>
      obtain ⟨i, hi0, hi, rfl, hd, q, rfl⟩ := hrel
      by_cases hi0 : 0 ≤ i
      · obtain ⟨i, rfl⟩ := Int.eq_ofNat_of_zero_le hi0
        obtain ⟨a, ea, ha⟩ := h1.at_ i (by omega)
        obtain ⟨b, eb, hb⟩ := h2.at_ i (by omega)
        subst ea eb
        have hcmp := Lib.hid (cmp_digit h1.limbs h2.limbs (by rw [Hl.out, Hk.out]) i (by rw [Hl.out]; omega) hd.out)
        have hnext := Lib.hid (show l.getD i 0 = k.getD i 0 → l.drop i = k.drop i from fun e => by rw [drop_cons l i (by rw [Hl.out]; omega), drop_cons k i (by rw [Hk.out]; omega), e]; exact congrArg _ hd.out)
        generalize l.getD i 0 = x at ha hcmp hnext
        generalize k.getD i 0 = y at hb hcmp hnext
        clear hd
        rcases Int.lt_trichotomy x y with hxy | hxy | hxy
        · have b1 : (x != y) = true := by rw [bne_iff_ne]; omega
          have b2 : decide (x < y) = true := decide_eq_true hxy
          go_wp2
          go_quiet (fail)
          go_wp2
          go_quiet (fail)
          go_wp2
          go_ret
          exact ⟨by rw [show cmpI (val l) (val k) = -1 by unfold cmpI; rw [if_pos (hcmp.out.1 hxy)]]; rfl, (by repeat (first | exact Drawn.refl _ | exact ⟨_, rfl⟩ | apply Drawn.step))⟩
        · subst hxy
          have b1 : (x != x) = false := by simp
          have hd : Hid (l.drop i = k.drop i) := Lib.hid (hnext.out rfl)
          clear hnext
          go_wp2
          go_quiet (fail)
          go_wp2
          go_roundw
          case rel => exact ⟨(i : Int) - 1, by omega, by omega, rfl, Lib.hid (by rw [show ((i : Int) - 1 + 1).toNat = i by omega]; exact hd.out), (by repeat (first | exact Drawn.refl _ | exact ⟨_, rfl⟩ | apply Drawn.step))⟩
          case measure => simp [intOf]
        · have b1 : (x != y) = true := by rw [bne_iff_ne]; omega
          have b2 : decide (x < y) = false := decide_eq_false (by omega)
          go_wp2
          go_quiet (fail)
          go_wp2
          go_quiet (fail)
          go_wp2
          go_ret
          exact ⟨by rw [show cmpI (val l) (val k) = 1 by unfold cmpI; have := hcmp.out.2 hxy; rw [if_neg (by omega), if_neg (by omega)]]; rfl, (by repeat (first | exact Drawn.refl _ | exact ⟨_, rfl⟩ | apply Drawn.step))⟩
      · obtain rfl : i = -1 := by omega
        go_wp2
        go_ret
        exact ⟨by rw [show cmpI (val l) (val k) = 0 by unfold cmpI; have e : l = k := hd.out; rw [e, if_neg (by omega), if_pos rfl]]; rfl, _, rfl⟩
  · rcases Nat.lt_or_gt_of_ne hnm with h | h
    · go_enter Tryz.func90, Tryz.ntmps90
      go_wp2
      go_ret
      exact ⟨by rw [show cmpI (val l) (val k) = -1 by unfold cmpI; rw [if_pos (val_lt_of_length h1.limbs h2.limbs t2 (by omega))]]; rfl, Drawn.refl _⟩
    · go_enter Tryz.func90, Tryz.ntmps90
      go_wp2
      go_ret
      exact ⟨by rw [show cmpI (val l) (val k) = 1 by unfold cmpI; have := val_lt_of_length h2.limbs h1.limbs t1 (by omega); rw [if_neg (by omega), if_neg (by omega)]]; rfl, Drawn.refl _⟩
end Go.Proofs.YtpifbaiibhaklaaGreatDoor
namespace Go.Proofs.YtpifbaiibhaklaaGreatDoor
open Go.RowKit Big
set_option maxHeartbeats 400000
set_option linter.unusedVariables false
set_option linter.unusedSimpArgs false

theorem cmpI_neg (x y : Int) : cmpI (-x) (-y) = cmpI y x := by unfold cmpI; split <;> split <;> (try split) <;> omega
theorem Compare_any (p q : Bool) (A B : Option Addr) (n c m d : Nat) (x y : Int) (w : World) {b1 b2 : Nat} (h1 : IsInt b1 w p A n c x) (h2 : IsInt b2 w q B m d y) (hx : lim x ≤ 1099511627776) (hy : lim y ≤ 1099511627776) :
    Calls Tryz.prog 77 #[.agg #[.bool p, .slice A n c], .agg #[.bool q, .slice B m d]] w fun e w' => e = .returned (.int .i64 (cmpI x y)) ∧ Below w.heap.size w w' := by
  rw [← h1.len] at hx
  rw [← h2.len] at hy
  obtain ⟨l, g1, t1, s1, rfl⟩ := h1
  obtain ⟨k, g2, t2, s2, rfl⟩ := h2
  have v1 := val_nonneg g1.limbs
  have v2 := val_nonneg g2.limbs
  have z1 : p = true → 0 < val l := fun e => by
    have := trim_pos g1.limbs t1 (s1 e); have := pow_pos (l.length - 1); omega
  have z2 : q = true → 0 < val k := fun e => by
    have := trim_pos g2.limbs t2 (s2 e); have := pow_pos (k.length - 1); omega
  have ho : ∀ W, Below w.heap.size w W → Calls Tryz.prog 90 #[.slice A n c, .slice B m d] W fun e w' => e = .returned (.int .i64 (cmpI (val l) (val k))) ∧ Drawn W w' := fun W hW => order_any A B n c m d l k W (g1.below hW) (g2.below hW) t1 t2 hx hy
  have ho' : ∀ W, Below w.heap.size w W → Calls Tryz.prog 90 #[.slice B m d, .slice A n c] W fun e w' => e = .returned (.int .i64 (cmpI (val k) (val l))) ∧ Drawn W w' := fun W hW => order_any B A m d n c k l W (g2.below hW) (g1.below hW) t2 t1 hy hx
  have Ho := Lib.hid ho
  have Ho' := Lib.hid ho'
  have Z1 := Lib.hid z1
  have Z2 := Lib.hid z2
  clear ho ho' s1 s2 t1 t2 g1 g2 z1 z2
  cases p <;> cases q
  · go_enter Tryz.func77, Tryz.ntmps77
    go_wp2_with fail
    refine (Ho.out _ (by repeat (first | exact Below.refl _ _ | with_reducible assumption | apply below_alloc | apply below_drewN | apply below_drew | refine below_set ?_ (by simp; try omega) _ | refine below_then ?_ (by with_reducible assumption)))).mono ?_
    rintro e w' ⟨rfl, hd⟩
    have hb := hd.below
    go_wp2_with fail
    go_ret
    exact ⟨rfl, below_then (by repeat (first | exact Below.refl _ _ | with_reducible assumption | apply below_alloc | apply below_drewN | apply below_drew | refine below_set ?_ (by simp; try omega) _ | refine below_then ?_ (by with_reducible assumption))) hb⟩
  · go_enter Tryz.func77, Tryz.ntmps77
    go_wp2_with fail
    go_ret
    exact ⟨by rw [show cmpI (sgn false (val l)) (sgn true (val k)) = 1 by have : 0 < val k := (by first | exact Z2.out rfl | exact Z2.out trivial); unfold cmpI sgn; rw [if_neg (by simp; omega), if_neg (by simp; omega)]]; rfl, (by repeat (first | exact Below.refl _ _ | with_reducible assumption | apply below_alloc | apply below_drewN | apply below_drew | refine below_set ?_ (by simp; try omega) _ | refine below_then ?_ (by with_reducible assumption)))⟩
  · go_enter Tryz.func77, Tryz.ntmps77
    go_wp2_with fail
    go_ret
    exact ⟨by rw [show cmpI (sgn true (val l)) (sgn false (val k)) = -1 by have : 0 < val l := (by first | exact Z1.out rfl | exact Z1.out trivial); unfold cmpI sgn; rw [if_pos (by simp; omega)]]; rfl, (by repeat (first | exact Below.refl _ _ | with_reducible assumption | apply below_alloc | apply below_drewN | apply below_drew | refine below_set ?_ (by simp; try omega) _ | refine below_then ?_ (by with_reducible assumption)))⟩
  · go_enter Tryz.func77, Tryz.ntmps77
    go_wp2_with fail
    refine (Ho'.out _ (by repeat (first | exact Below.refl _ _ | with_reducible assumption | apply below_alloc | apply below_drewN | apply below_drew | refine below_set ?_ (by simp; try omega) _ | refine below_then ?_ (by with_reducible assumption)))).mono ?_
    rintro e w' ⟨rfl, hd⟩
    have hb := hd.below
    go_wp2_with fail
    go_ret
    exact ⟨by rw [show cmpI (sgn true (val l)) (sgn true (val k)) = cmpI (val k) (val l) from cmpI_neg _ _]; rfl, below_then (by repeat (first | exact Below.refl _ _ | with_reducible assumption | apply below_alloc | apply below_drewN | apply below_drew | refine below_set ?_ (by simp; try omega) _ | refine below_then ?_ (by with_reducible assumption))) hb⟩

theorem Sign_any (p : Bool) (A : Option Addr) (n c : Nat) (x : Int) (w : World) {base : Nat} (h : IsInt base w p A n c x) (hx : lim x ≤ 1099511627776) :
    Calls Tryz.prog 85 #[.agg #[.bool p, .slice A n c]] w fun e w' => e = .returned (.int .i64 (sgnI x)) ∧ Below w.heap.size w w' := by
  rw [← h.len] at hx
  obtain ⟨l, g1, t1, s1, rfl⟩ := h
  have hl := g1.len
  by_cases h0 : n = 0
  · subst h0
    obtain rfl := List.eq_nil_of_length_eq_zero hl
    clear hl g1 t1 s1
    go_enter Tryz.func85, Tryz.ntmps85
    go_wp2
    go_ret
    exact ⟨by cases p <;> rfl, (by repeat (first | exact Below.refl _ _ | with_reducible assumption | apply below_alloc | apply below_drewN | apply below_drew | refine below_set ?_ (by simp; try omega) _ | refine below_then ?_ (by with_reducible assumption)))⟩
  · have hp := trim_pos g1.limbs t1 (by rintro rfl; exact h0 hl.symm)
    have := pow_pos (l.length - 1)
    have hp : 0 < val l := by omega
    clear hl g1 t1 s1
    have hn : ((n : Int) == 0) = false := beq_eq_false_iff_ne.2 (by omega)
    cases p
    · go_enter Tryz.func85, Tryz.ntmps85
      go_wp2
      go_ret
      exact ⟨by rw [show sgnI (sgn false (val l)) = 1 by unfold sgnI sgn; rw [if_neg (by simp; omega), if_neg (by simp; omega)]]; rfl, (by repeat (first | exact Below.refl _ _ | with_reducible assumption | apply below_alloc | apply below_drewN | apply below_drew | refine below_set ?_ (by simp; try omega) _ | refine below_then ?_ (by with_reducible assumption)))⟩
    · go_enter Tryz.func85, Tryz.ntmps85
      go_wp2
      go_ret
      exact ⟨by rw [show sgnI (sgn true (val l)) = -1 by unfold sgnI sgn; rw [if_pos (by simp; omega)]]; rfl, (by repeat (first | exact Below.refl _ _ | with_reducible assumption | apply below_alloc | apply below_drewN | apply below_drew | refine below_set ?_ (by simp; try omega) _ | refine below_then ?_ (by with_reducible assumption)))⟩

theorem Neg_any (p : Bool) (A : Option Addr) (n c : Nat) (x : Int) (w : World) {base : Nat} (h : IsInt base w p A n c x) (hx : lim x ≤ 1099511627776) :
    Calls Tryz.prog 67 #[.agg #[.bool p, .slice A n c]] w (RetInt base w (-x)) := by
  rw [← h.len] at hx
  obtain ⟨l, g1, t1, s1, rfl⟩ := h
  have hl := g1.len
  cases p
  · by_cases h0 : n = 0
    · subst h0
      obtain rfl := List.eq_nil_of_length_eq_zero hl
      have G1 := Lib.hid g1
      clear hl t1 s1 g1
      go_enter Tryz.func67, Tryz.ntmps67
      go_wp2
      refine bodyPost_ret (v := .agg #[.bool false, .slice A 0 c]) (by simp [results, Tryz.results67, go_sem]) rfl ⟨false, A, 0, c, rfl, ⟨[], G1.out.below (by repeat (first | exact Below.refl _ _ | with_reducible assumption | apply below_alloc | apply below_drewN | apply below_drew | refine below_set ?_ (by simp; try omega) _ | refine below_then ?_ (by with_reducible assumption))), .inl rfl, by simp, by decide⟩, (by repeat (first | exact Below.refl _ _ | with_reducible assumption | apply below_alloc | apply below_drewN | apply below_drew | refine below_set ?_ (by simp; try omega) _ | refine below_then ?_ (by with_reducible assumption)))⟩
    · have hn : 0 < n := by omega
      have T1 := Lib.hid t1
      have G1 := Lib.hid g1
      have L1 := Lib.hid hl
      clear hl t1 s1 g1
      go_enter Tryz.func67, Tryz.ntmps67
      go_wp2
      refine bodyPost_ret (v := .agg #[.bool true, .slice A n c]) (by simp [results, Tryz.results67, go_sem]) rfl ⟨true, A, n, c, rfl, ⟨l, G1.out.below (by repeat (first | exact Below.refl _ _ | with_reducible assumption | apply below_alloc | apply below_drewN | apply below_drew | refine below_set ?_ (by simp; try omega) _ | refine below_then ?_ (by with_reducible assumption))), T1.out, fun _ e => h0 (by rw [← L1.out, e]; rfl), by simp [sgn]⟩, (by repeat (first | exact Below.refl _ _ | with_reducible assumption | apply below_alloc | apply below_drewN | apply below_drew | refine below_set ?_ (by simp; try omega) _ | refine below_then ?_ (by with_reducible assumption)))⟩
  · have T1 := Lib.hid t1
    have G1 := Lib.hid g1
    clear hl t1 s1 g1
    go_enter Tryz.func67, Tryz.ntmps67
    go_wp2
    refine bodyPost_ret (v := .agg #[.bool false, .slice A n c]) (by simp [results, Tryz.results67, go_sem]) rfl ⟨false, A, n, c, rfl, ⟨l, G1.out.below (by repeat (first | exact Below.refl _ _ | with_reducible assumption | apply below_alloc | apply below_drewN | apply below_drew | refine below_set ?_ (by simp; try omega) _ | refine below_then ?_ (by with_reducible assumption))), T1.out, by simp, by simp [sgn]⟩, (by repeat (first | exact Below.refl _ _ | with_reducible assumption | apply below_alloc | apply below_drewN | apply below_drew | refine below_set ?_ (by simp; try omega) _ | refine below_then ?_ (by with_reducible assumption)))⟩
end Go.Proofs.YtpifbaiibhaklaaGreatDoor
namespace Go.Proofs.YtpifbaiibhaklaaGreatDoor
open Go.RowKit Big
set_option maxHeartbeats 400000
set_option linter.unusedVariables false
set_option linter.unusedSimpArgs false

theorem IsMag.take {base : Nat} {w : World} {A : Option Addr} {n c : Nat} {l : List Int} (h : IsMag base w A n c l) (k : Nat) (hk : k ≤ n) : IsMag base w A k c (l.take k) :=
  ⟨by rw [List.length_take, h.len]; omega, by have := h.cap; omega, h.limbs.take k, by have := h.reads.take k; simpa [u32s, List.map_take] using this⟩
theorem val_take_trim {l : List Int} {k : Nat} (hk : k < l.length) (h0 : l.getD k 0 = 0) : val (l.take k) = val (l.take (k + 1)) := by
  rw [val_take_succ l k hk, h0]; omega
theorem trim_take {l : List Int} {k : Nat} (hk : k < l.length) (h0 : l.getD k 0 ≠ 0) : Trim (l.take (k + 1)) := by
  right
  rw [List.length_take, Nat.min_eq_left (by omega)]
  simpa [List.getD_eq_getElem?_getD, List.getElem?_take] using h0
theorem trim_any (A : Option Addr) (n c : Nat) (l : List Int) (w : World) {base : Nat} (h : IsMag base w A n c l) (hn : n ≤ 1099511627776) :
    Calls Tryz.prog 93 #[.slice A n c] w fun e w' => ∃ k, e = .returned (.slice A k c) ∧ k ≤ n ∧ Trim (l.take k) ∧ val (l.take k) = val l ∧ w' = w := by
  have L := Lib.hid h.len
  have hcap := h.cap
  go_enter Tryz.func93, Tryz.ntmps93
  go_wp2
  go_loop [0] (fun v => ∃ k : Nat, k ≤ n ∧ v = .slice A k c ∧ Hid (val (l.take k) = val l)) (fun v => match v with | .slice _ k _ => k | _ => 0)
  case atStart => exact ⟨n, Nat.le_refl _, rfl, Lib.hid (by rw [List.take_of_length_le (by rw [L.out]; omega)])⟩
  case round =>
    obtain ⟨k, hk, rfl, hv⟩ := hrel
    by_cases hk0 : 0 < k
    · obtain ⟨k, rfl⟩ : ∃ j, k = j + 1 := ⟨k - 1, by omega⟩
      obtain ⟨a, ea, ha⟩ := h.at_ k (by omega)
      subst ea
      have e0 := Lib.hid (val_take_trim (l := l) (k := k) (by rw [L.out]; omega))
      have e1 := Lib.hid (trim_take (l := l) (k := k) (by rw [L.out]; omega))
      generalize l.getD k 0 = x at ha e0 e1
      have i1 : ((k : Int) + 1 - 1).toNat = k := by omega
      by_cases hx : x = 0
      · subst hx
        have q0 := Lib.hid (e0.out rfl)
        clear e0 e1
        go_wp2
        go_round
        case rel => exact ⟨k, by omega, rfl, Lib.hid (q0.out.trans hv.out)⟩
        case measure => first | done | simp
      · have q0 := Lib.hid (e1.out hx)
        have b1 : (x == 0) = false := by rw [beq_eq_false_iff_ne]; exact hx
        clear e0 e1
        go_wp2
        go_ret
        exact ⟨k + 1, rfl, hk, q0.out, hv.out, rfl⟩
    · obtain rfl : k = 0 := by omega
      go_wp2
      go_ret
      exact ⟨0, rfl, hk, .inl rfl, hv.out, rfl⟩

theorem signed_any (p : Bool) (A : Option Addr) (n c : Nat) (l : List Int) (w : World) {base : Nat} (h : IsMag base w A n c l) (hn : n ≤ 1099511627776) :
    Calls Tryz.prog 83 #[.bool p, .slice A n c] w (RetInt base w (sgn p (val l))) := by
  have H := Lib.hid (fun W (hW : Below w.heap.size w W) => trim_any A n c l W (h.below hW) hn)
  go_enter Tryz.func83, Tryz.ntmps83
  go_wp2_with fail
  refine (H.out _ (by repeat (first | exact Below.refl _ _ | with_reducible assumption | apply below_alloc | apply below_drewN | apply below_drew | refine below_set ?_ (by simp; try omega) _ | refine below_then ?_ (by with_reducible assumption)))).mono ?_
  rintro e w' ⟨k, rfl, hk, ht, hv, rfl⟩
  have G := Lib.hid (h.take k hk)
  have T1 := Lib.hid ht
  have V1 := Lib.hid hv
  clear ht hv h
  cases p
  · go_wp2_with fail
    refine bodyPost_ret (v := .agg #[.bool false, .slice A k c]) (by simp [results, Tryz.results83, go_sem]) rfl ⟨false, A, k, c, rfl, ⟨_, G.out.below (by repeat (first | exact Below.refl _ _ | with_reducible assumption | apply below_alloc | apply below_drewN | apply below_drew | refine below_set ?_ (by simp; try omega) _ | refine below_then ?_ (by with_reducible assumption))), T1.out, by simp, by rw [V1.out]⟩, (by repeat (first | exact Below.refl _ _ | with_reducible assumption | apply below_alloc | apply below_drewN | apply below_drew | refine below_set ?_ (by simp; try omega) _ | refine below_then ?_ (by with_reducible assumption)))⟩
  · by_cases h0 : k = 0
    · subst h0
      go_wp2_with fail
      refine bodyPost_ret (v := .agg #[.bool false, .slice A 0 c]) (by simp [results, Tryz.results83, go_sem]) rfl ⟨false, A, 0, c, rfl, ⟨_, G.out.below (by repeat (first | exact Below.refl _ _ | with_reducible assumption | apply below_alloc | apply below_drewN | apply below_drew | refine below_set ?_ (by simp; try omega) _ | refine below_then ?_ (by with_reducible assumption))), T1.out, by simp, ?_⟩, (by repeat (first | exact Below.refl _ _ | with_reducible assumption | apply below_alloc | apply below_drewN | apply below_drew | refine below_set ?_ (by simp; try omega) _ | refine below_then ?_ (by with_reducible assumption)))⟩
      have := V1.out
      rw [← this]
      rfl
    · have hp : 0 < k := by omega
      go_wp2_with fail
      refine bodyPost_ret (v := .agg #[.bool true, .slice A k c]) (by simp [results, Tryz.results83, go_sem]) rfl ⟨true, A, k, c, rfl, ⟨_, G.out.below (by repeat (first | exact Below.refl _ _ | with_reducible assumption | apply below_alloc | apply below_drewN | apply below_drew | refine below_set ?_ (by simp; try omega) _ | refine below_then ?_ (by with_reducible assumption))), T1.out, fun _ e => ?_, by rw [V1.out]⟩, (by repeat (first | exact Below.refl _ _ | with_reducible assumption | apply below_alloc | apply below_drewN | apply below_drew | refine below_set ?_ (by simp; try omega) _ | refine below_then ?_ (by with_reducible assumption)))⟩
      have := G.out.len
      rw [e] at this
      exact h0 this.symm

theorem From_any (base : Nat) (n : Int) (w : World) (hB : base ≤ w.heap.size) (h1 : -9223372036854775808 ≤ n) (h2 : n ≤ 9223372036854775807) : Calls Tryz.prog 64 #[.int .i64 n] w (RetInt base w n) := by
  have key : ∀ (p : Bool) (x y : Int) (W : World) (b : Nat), b = W.heap.size → Limb x → Limb y → sgn p (x + 4294967296 * y) = n →
      Calls Tryz.prog 83 #[.bool p, .slice (some ⟨b, 0, none⟩) 2 2] (W.alloc (.cells #[.int .u32 x, .int .u32 y] 137)) (RetInt base (W.alloc (.cells #[.int .u32 x, .int .u32 y] 137)) n) := by
    intro p x y W b hb hx hy hv
    refine (signed_any p _ 2 2 [x, y] _ (base := base) ⟨rfl, Nat.le_refl _, (Limbs.nil.cons hy).cons hx, Reads.new base W b hb _ _⟩ (by omega)).mono ?_
    intro e w' h
    rw [← hv]
    simpa [val, W_eq] using h
  have K := Lib.hid key
  clear key
  rcases Int.lt_or_le n 0 with hn | hn
  · obtain ⟨m, rfl⟩ : ∃ m : Int, n = -m := ⟨-n, by omega⟩
    have w1 : IntKind.u64.wrap (-IntKind.u64.wrap (-m)) = m := by simp only [IntKind.wrap_u64]; omega
    have W1 := Lib.hid w1
    clear w1
    go_enter Tryz.func64, Tryz.ntmps64
    go_wp2_with fail
    rw [W1.out]
    refine (K.out true (m % 4294967296) (m / 4294967296 % 4294967296) _ _ (by simp) ⟨by omega, by omega⟩ ⟨by omega, by omega⟩ (by simp [sgn]; omega)).mono ?_
    rintro e w' ⟨p', A, k, c, rfl, hi, hb⟩
    have I1 := Lib.hid hi
    have B1 := Lib.hid hb
    have c0 := keptc hb w.heap.size 0 (.bool false) (by simp [go_sem])
    have c1 := keptc hb w.heap.size 1 (.slice none 0 0) (by simp [go_sem])
    have f0 := keptf hb w.heap.size 0 false (by simp; omega) (by simp [go_sem])
    have f1 := keptf hb w.heap.size 1 false (by simp; omega) (by simp [go_sem])
    have T1 := Lib.hid (keptt hb w.heap.size 88 (by simp; omega) (by simp [typ_alloc, otyp_cells]))
    clear hi hb
    go_wp2_with fail
    refine bodyPost_ret (v := .agg #[.bool p', .slice A k c]) (by simp [results, Tryz.results64, go_sem, c0, c1]) rfl ⟨p', A, k, c, rfl, I1.out.keeps (by repeat (first | exact Keeps.refl _ _ _ | apply Keeps.alloc | apply Keeps.drewN | apply Keeps.drew | refine Keeps.set ?_ (by simp; try omega) (by first | (simp [T1.out]; done) | (simp [Tr.out]; done)) _)), below_set (below_set (below_then (by repeat (first | exact Below.refl _ _ | with_reducible assumption | apply below_alloc | apply below_drewN | apply below_drew | refine below_set ?_ (by simp; try omega) _ | refine below_then ?_ (by with_reducible assumption))) B1.out) (by simp) _) (by simp) _⟩
  · have hd : decide (n < 0) = false := decide_eq_false (by omega)
    go_enter Tryz.func64, Tryz.ntmps64
    go_wp2_with fail
    refine (K.out false (n % 4294967296) (n / 4294967296) _ _ (by simp) ⟨by omega, by omega⟩ ⟨by omega, by omega⟩ (by simp [sgn]; omega)).mono ?_
    rintro e w' ⟨p', A, k, c, rfl, hi, hb⟩
    have I1 := Lib.hid hi
    have B1 := Lib.hid hb
    have c0 := keptc hb w.heap.size 0 (.bool false) (by simp [go_sem])
    have c1 := keptc hb w.heap.size 1 (.slice none 0 0) (by simp [go_sem])
    have f0 := keptf hb w.heap.size 0 false (by simp; omega) (by simp [go_sem])
    have f1 := keptf hb w.heap.size 1 false (by simp; omega) (by simp [go_sem])
    have T1 := Lib.hid (keptt hb w.heap.size 88 (by simp; omega) (by simp [typ_alloc, otyp_cells]))
    clear hi hb
    go_wp2_with fail
    refine bodyPost_ret (v := .agg #[.bool p', .slice A k c]) (by simp [results, Tryz.results64, go_sem, c0, c1]) rfl ⟨p', A, k, c, rfl, I1.out.keeps (by repeat (first | exact Keeps.refl _ _ _ | apply Keeps.alloc | apply Keeps.drewN | apply Keeps.drew | refine Keeps.set ?_ (by simp; try omega) (by first | (simp [T1.out]; done) | (simp [Tr.out]; done)) _)), below_set (below_set (below_then (by repeat (first | exact Below.refl _ _ | with_reducible assumption | apply below_alloc | apply below_drewN | apply below_drew | refine below_set ?_ (by simp; try omega) _ | refine below_then ?_ (by with_reducible assumption))) B1.out) (by simp) _) (by simp) _⟩
end Go.Proofs.YtpifbaiibhaklaaGreatDoor
namespace Go.Proofs.YtpifbaiibhaklaaGreatDoor
open Go.RowKit Big
set_option maxHeartbeats 400000
set_option linter.unusedVariables false
set_option linter.unusedSimpArgs false

theorem info261 : (Tryz.prog.info? 137).map (fun i => (i.zero, i.size, i.bytes)) = some (some (.int .u32 0), 1, 4) := by kernel_rfl
theorem make_u32 (m : Nat) (hm : m ≤ 2199023255552) (W : World) :
    (Instr.makeSlice 86 (.int .i64 (m : Int)) (.int .i64 (m : Int))).run Tryz.prog W = .ok (.slice (some ⟨W.heap.size, 0, none⟩) m m) (W.alloc (.cells (madeCells #[.int .u32 0] m) 137)) := by
  exact run_make_row' 86 137 (.int .u32 0) 4 Tryz.underlying86 info261 rfl .i64 .i64 m (by omega) (by omega) W

theorem plus_ge (A B : Option Addr) (n c m d : Nat) (l k : List Int) (w : World) (base : Nat) (hB : base ≤ w.heap.size) (h1 : IsMag base w A n c l) (h2 : IsMag base w B m d k) (hn : n ≤ 1099511627776) (hm : m ≤ n) :
    Calls Tryz.prog 99 #[.slice A n c, .slice B m d] w fun e w' => ∃ g r, e = .returned (.slice (some ⟨g, 0, none⟩) (n + 1) (n + 1)) ∧ IsMag base w' (some ⟨g, 0, none⟩) (n + 1) (n + 1) r ∧ val r = val l + val k ∧ Below w.heap.size w w' := by
  have hmk := make_u32 (n + 1) (by omega)
  have e1 : ((n + 1 : Nat) : Int) = (n : Int) + 1 := by omega
  rw [e1] at hmk
  clear e1
  have hnm : decide (n < m) = false := decide_eq_false (by omega)
  have L1 := Lib.hid h1.len
  have L2 := Lib.hid h2.len
  have V1 := Lib.hid h1.limbs
  have V2 := Lib.hid h2.limbs
  go_enter Tryz.func99, Tryz.ntmps99
  go_wp2
  clear hmk hnm
  go_loopw [6, 22] (fun v q wr => ∃ (i : Nat) (cy : Int) (r : List Int), i ≤ n ∧ q = .int .i64 (i : Int) ∧ v = .int .u64 cy ∧ 0 ≤ cy ∧ cy ≤ 1 ∧ Hid (r.length = n + 1) ∧ Hid (Limbs r) ∧ Digits wr w.heap.size r ∧
      Hid (val (r.take i) + W ^ i * cy = val (l.take i) + val (k.take i)) ∧ Below w.heap.size w wr) (fun _ q _ => n - (intOf q).toNat)
  case atStart => exact ⟨0, 0, List.replicate (n + 1) 0, Nat.zero_le _, rfl, rfl, by omega, by omega, Lib.hid (by simp), Lib.hid (Limbs.replicate _), Digits.made w _, Lib.hid (by simp [val]), (by repeat (first | exact Below.refl _ _ | with_reducible assumption | apply below_alloc | apply below_drewN | apply below_drew | refine below_set ?_ (by simp; try omega) _ | refine below_then ?_ (by with_reducible assumption)))⟩
  case round =>
    obtain ⟨i, cy, r, hi, rfl, rfl, hc0, hc1, hr, hlr, hd, hv, hb⟩ := hrel
    have Hd := Lib.hid hd
    have Hb := Lib.hid hb
    by_cases hlt : i < n
    · obtain ⟨a, ea, ha⟩ := (h1.below hb).at_ i (by omega)
      subst ea
      have x0 := V1.out.getD i
      have hcg := hd.cell i (by rw [hr.out]; omega)
      have hfg := hd.frozen i
      have step := Lib.hid (fun s hs => plus_step (r := r) (l := l) (k := k) (i := i) (cy := cy) (s := s) (by rw [hr.out]; omega) hv.out hs)
      unfold Limb at x0
      generalize l.getD i 0 = x at ha x0 step
      obtain ⟨x0, x1⟩ := x0
      by_cases him : i < m
      · obtain ⟨b, eb, hbb⟩ := (h2.below hb).at_ i him
        subst eb
        have y0 := V2.out.getD i
        unfold Limb at y0
        generalize k.getD i 0 = y at hbb y0 step
        obtain ⟨y0, y1⟩ := y0
        clear hd hb
        go_wp2
        go_roundw
        case rel => exact ⟨i + 1, (cy + x + y) / 4294967296, r.set i ((cy + x + y) % 4294967296), by omega, by go_num, rfl, by omega, by omega, Lib.hid (by rw [List.length_set]; exact hr.out), Lib.hid (hlr.out.set _ ⟨by omega, by omega⟩), Hd.out.set _ _, Lib.hid (step.out _ rfl), below_set Hb.out (by simp) _⟩
        case measure => simp [intOf]; omega
      · have y0 : k.getD i 0 = 0 := by rw [List.getD_eq_getElem?_getD, List.getElem?_eq_none (by rw [L2.out]; omega)]; rfl
        have Y0 := Lib.hid y0
        clear hd hb y0
        go_wp2
        go_roundw
        case rel => exact ⟨i + 1, (cy + x) / 4294967296, r.set i ((cy + x) % 4294967296), by omega, by go_num, rfl, by omega, by omega, Lib.hid (by rw [List.length_set]; exact hr.out), Lib.hid (hlr.out.set _ ⟨by omega, by omega⟩), Hd.out.set _ _, Lib.hid (step.out _ (by rw [Y0.out]; omega)), below_set Hb.out (by simp) _⟩
        case measure => simp [intOf]; omega
    · obtain rfl : i = n := by omega
      have hcg := hd.cell i (by rw [hr.out]; omega)
      have hfg := hd.frozen i
      clear hd hb
      go_wp2
      go_ret
      have hq : (r.set i cy).length = i + 1 := by rw [List.length_set]; exact hr.out
      have hm' : cy % 4294967296 = cy := by omega
      refine ⟨w.heap.size, r.set i cy, rfl, ?_, ?_, below_set Hb.out (by simp) _⟩
      · have := (Hd.out.set i cy).mag base (hlr.out.set _ ⟨hc0, by omega⟩)
        rw [hq] at this
        simpa [hm'] using this
      · have h3 := val_take_set r i cy (by rw [hr.out]; omega)
        rw [List.take_of_length_le (by omega)] at h3
        rw [h3, hv.out, List.take_of_length_le (by rw [L1.out]; omega), List.take_of_length_le (by rw [L2.out]; omega)]

theorem plus_lt (A B : Option Addr) (n c m d : Nat) (l k : List Int) (w : World) (base : Nat) (hB : base ≤ w.heap.size) (h1 : IsMag base w A n c l) (h2 : IsMag base w B m d k) (hn : n ≤ 1099511627776) (hm : m < n) :
    Calls Tryz.prog 99 #[.slice B m d, .slice A n c] w fun e w' => ∃ g r, e = .returned (.slice (some ⟨g, 0, none⟩) (n + 1) (n + 1)) ∧ IsMag base w' (some ⟨g, 0, none⟩) (n + 1) (n + 1) r ∧ val r = val l + val k ∧ Below w.heap.size w w' := by
  have hmk := make_u32 (n + 1) (by omega)
  have e1 : ((n + 1 : Nat) : Int) = (n : Int) + 1 := by omega
  rw [e1] at hmk
  clear e1
  have hnm : decide (m < n) = true := decide_eq_true (by omega)
  have L1 := Lib.hid h1.len
  have L2 := Lib.hid h2.len
  have V1 := Lib.hid h1.limbs
  have V2 := Lib.hid h2.limbs
  go_enter Tryz.func99, Tryz.ntmps99
  go_wp2
  clear hmk hnm
  go_loopw [6, 22] (fun v q wr => ∃ (i : Nat) (cy : Int) (r : List Int), i ≤ n ∧ q = .int .i64 (i : Int) ∧ v = .int .u64 cy ∧ 0 ≤ cy ∧ cy ≤ 1 ∧ Hid (r.length = n + 1) ∧ Hid (Limbs r) ∧ Digits wr w.heap.size r ∧
      Hid (val (r.take i) + W ^ i * cy = val (l.take i) + val (k.take i)) ∧ Below w.heap.size w wr) (fun _ q _ => n - (intOf q).toNat)
  case atStart => exact ⟨0, 0, List.replicate (n + 1) 0, Nat.zero_le _, rfl, rfl, by omega, by omega, Lib.hid (by simp), Lib.hid (Limbs.replicate _), Digits.made w _, Lib.hid (by simp [val]), (by repeat (first | exact Below.refl _ _ | with_reducible assumption | apply below_alloc | apply below_drewN | apply below_drew | refine below_set ?_ (by simp; try omega) _ | refine below_then ?_ (by with_reducible assumption)))⟩
  case round =>
    obtain ⟨i, cy, r, hi, rfl, rfl, hc0, hc1, hr, hlr, hd, hv, hb⟩ := hrel
    have Hd := Lib.hid hd
    have Hb := Lib.hid hb
    by_cases hlt : i < n
    · obtain ⟨a, ea, ha⟩ := (h1.below hb).at_ i (by omega)
      subst ea
      have x0 := V1.out.getD i
      have hcg := hd.cell i (by rw [hr.out]; omega)
      have hfg := hd.frozen i
      have step := Lib.hid (fun s hs => plus_step (r := r) (l := l) (k := k) (i := i) (cy := cy) (s := s) (by rw [hr.out]; omega) hv.out hs)
      unfold Limb at x0
      generalize l.getD i 0 = x at ha x0 step
      obtain ⟨x0, x1⟩ := x0
      by_cases him : i < m
      · obtain ⟨b, eb, hbb⟩ := (h2.below hb).at_ i him
        subst eb
        have y0 := V2.out.getD i
        unfold Limb at y0
        generalize k.getD i 0 = y at hbb y0 step
        obtain ⟨y0, y1⟩ := y0
        clear hd hb
        go_wp2
        go_roundw
        case rel => exact ⟨i + 1, (cy + x + y) / 4294967296, r.set i ((cy + x + y) % 4294967296), by omega, by go_num, rfl, by omega, by omega, Lib.hid (by rw [List.length_set]; exact hr.out), Lib.hid (hlr.out.set _ ⟨by omega, by omega⟩), Hd.out.set _ _, Lib.hid (step.out _ rfl), below_set Hb.out (by simp) _⟩
        case measure => simp [intOf]; omega
      · have y0 : k.getD i 0 = 0 := by rw [List.getD_eq_getElem?_getD, List.getElem?_eq_none (by rw [L2.out]; omega)]; rfl
        have Y0 := Lib.hid y0
        clear hd hb y0
        go_wp2
        go_roundw
        case rel => exact ⟨i + 1, (cy + x) / 4294967296, r.set i ((cy + x) % 4294967296), by omega, by go_num, rfl, by omega, by omega, Lib.hid (by rw [List.length_set]; exact hr.out), Lib.hid (hlr.out.set _ ⟨by omega, by omega⟩), Hd.out.set _ _, Lib.hid (step.out _ (by rw [Y0.out]; omega)), below_set Hb.out (by simp) _⟩
        case measure => simp [intOf]; omega
    · obtain rfl : i = n := by omega
      have hcg := hd.cell i (by rw [hr.out]; omega)
      have hfg := hd.frozen i
      clear hd hb
      go_wp2
      go_ret
      have hq : (r.set i cy).length = i + 1 := by rw [List.length_set]; exact hr.out
      have hm' : cy % 4294967296 = cy := by omega
      refine ⟨w.heap.size, r.set i cy, rfl, ?_, ?_, below_set Hb.out (by simp) _⟩
      · have := (Hd.out.set i cy).mag base (hlr.out.set _ ⟨hc0, by omega⟩)
        rw [hq] at this
        simpa [hm'] using this
      · have h3 := val_take_set r i cy (by rw [hr.out]; omega)
        rw [List.take_of_length_le (by omega)] at h3
        rw [h3, hv.out, List.take_of_length_le (by rw [L1.out]; omega), List.take_of_length_le (by rw [L2.out]; omega)]

theorem plus_any (A B : Option Addr) (n c m d : Nat) (l k : List Int) (w : World) (base : Nat) (hB : base ≤ w.heap.size) (h1 : IsMag base w A n c l) (h2 : IsMag base w B m d k) (hn : n ≤ 1099511627776) (hm : m ≤ 1099511627776) :
    Calls Tryz.prog 99 #[.slice A n c, .slice B m d] w fun e w' => ∃ g r q, e = .returned (.slice (some ⟨g, 0, none⟩) q q) ∧ q ≤ max n m + 1 ∧ IsMag base w' (some ⟨g, 0, none⟩) q q r ∧ val r = val l + val k ∧ Below w.heap.size w w' := by
  rcases Nat.lt_or_ge n m with h | h
  · refine (plus_lt B A m d n c k l w base hB h2 h1 hm h).mono ?_
    rintro e w' ⟨g, r, h1, h2, h3, h4⟩
    exact ⟨g, r, m + 1, h1, by omega, h2, by rw [h3, Int.add_comm], h4⟩
  · refine (plus_ge A B n c m d l k w base hB h1 h2 hn h).mono ?_
    rintro e w' ⟨g, r, h⟩
    exact ⟨g, r, n + 1, h.1, by omega, h.2⟩
end Go.Proofs.YtpifbaiibhaklaaGreatDoor
namespace Go.Proofs.YtpifbaiibhaklaaGreatDoor
open Go.RowKit Big
set_option maxHeartbeats 400000
set_option linter.unusedVariables false
set_option linter.unusedSimpArgs false

theorem minus_any (A B : Option Addr) (n c m d : Nat) (l k : List Int) (w : World) (base : Nat) (h1 : IsMag base w A n c l) (h2 : IsMag base w B m d k) (hn : n ≤ 1099511627776) (hm : m ≤ n) (hle : val k ≤ val l) :
    Calls Tryz.prog 100 #[.slice A n c, .slice B m d] w fun e w' => ∃ g r, e = .returned (.slice (some ⟨g, 0, none⟩) n n) ∧ IsMag base w' (some ⟨g, 0, none⟩) n n r ∧ val r = val l - val k ∧ Below w.heap.size w w' := by
  have hmk := make_u32 n (by omega)
  have L1 := Lib.hid h1.len
  have L2 := Lib.hid h2.len
  have V1 := Lib.hid h1.limbs
  have V2 := Lib.hid h2.limbs
  have Hle := Lib.hid hle
  clear hle
  go_enter Tryz.func100, Tryz.ntmps100
  go_wp2
  clear hmk
  go_loopw [6, 15] (fun v q wr => ∃ (i : Nat) (bw : Int) (r : List Int), i ≤ n ∧ q = .int .i64 (i : Int) ∧ v = .int .i64 bw ∧ 0 ≤ bw ∧ bw ≤ 1 ∧ Hid (r.length = n) ∧ Hid (Limbs r) ∧ Digits wr w.heap.size r ∧
      Hid (val (r.take i) - W ^ i * bw = val (l.take i) - val (k.take i)) ∧ Below w.heap.size w wr) (fun _ q _ => n - (intOf q).toNat)
  case atStart => exact ⟨0, 0, List.replicate n 0, Nat.zero_le _, rfl, rfl, by omega, by omega, Lib.hid (by simp), Lib.hid (Limbs.replicate _), Digits.made w _, Lib.hid (by simp [val]), (by repeat (first | exact Below.refl _ _ | with_reducible assumption | apply below_alloc | apply below_drewN | apply below_drew | refine below_set ?_ (by simp; try omega) _ | refine below_then ?_ (by with_reducible assumption)))⟩
  case round =>
    obtain ⟨i, bw, r, hi, rfl, rfl, hc0, hc1, hr, hlr, hd, hv, hb⟩ := hrel
    have Hd := Lib.hid hd
    have Hb := Lib.hid hb
    by_cases hlt : i < n
    · obtain ⟨a, ea, ha⟩ := (h1.below hb).at_ i (by omega)
      subst ea
      have x0 := V1.out.getD i
      have hcg := hd.cell i (by rw [hr.out]; omega)
      have hfg := hd.frozen i
      have step := Lib.hid (fun s hs => minus_step (r := r) (l := l) (k := k) (i := i) (bw := bw) (t := s) (by rw [hr.out]; omega) hv.out hs)
      unfold Limb at x0
      generalize l.getD i 0 = x at ha x0 step
      obtain ⟨x0, x1⟩ := x0
      by_cases him : i < m
      · obtain ⟨b, eb, hbb⟩ := (h2.below hb).at_ i him
        subst eb
        have y0 := V2.out.getD i
        unfold Limb at y0
        generalize k.getD i 0 = y at hbb y0 step
        obtain ⟨y0, y1⟩ := y0
        clear hd hb
        by_cases hneg : x - bw - y < 0
        · have dn : decide (x - bw - y < 0) = true := decide_eq_true hneg
          have e1 : -((x - bw - y) / 4294967296) = 1 := by omega
          have E1 := Lib.hid e1
          clear e1
          go_wp2
          go_roundw
          case rel => exact ⟨i + 1, 1, r.set i ((x - bw - y) % 4294967296), by omega, by go_num, rfl, by omega, by omega, Lib.hid (by rw [List.length_set]; exact hr.out), Lib.hid (hlr.out.set _ ⟨by omega, by omega⟩), Hd.out.set _ _, Lib.hid (by have := step.out _ rfl; rwa [E1.out] at this), below_set Hb.out (by simp) _⟩
          case measure => simp [intOf]; omega
        · have dn : decide (x - bw - y < 0) = false := decide_eq_false hneg
          have e1 : -((x - bw - y) / 4294967296) = 0 := by omega
          have E1 := Lib.hid e1
          clear e1
          go_wp2
          go_roundw
          case rel => exact ⟨i + 1, 0, r.set i ((x - bw - y) % 4294967296), by omega, by go_num, rfl, by omega, by omega, Lib.hid (by rw [List.length_set]; exact hr.out), Lib.hid (hlr.out.set _ ⟨by omega, by omega⟩), (by rw [show (x - bw - y) % 4294967296 = x - bw - y by omega]; exact Hd.out.set _ _), Lib.hid (by have := step.out _ rfl; rwa [E1.out] at this), below_set Hb.out (by simp) _⟩
          case measure => simp [intOf]; omega
      · have y0 : k.getD i 0 = 0 := by rw [List.getD_eq_getElem?_getD, List.getElem?_eq_none (by rw [L2.out]; omega)]; rfl
        have Y0 := Lib.hid y0
        clear hd hb y0
        by_cases hneg : x - bw < 0
        · have dn : decide (x - bw < 0) = true := decide_eq_true hneg
          have e1 : -((x - bw) / 4294967296) = 1 := by omega
          have E1 := Lib.hid e1
          clear e1
          go_wp2
          go_roundw
          case rel => exact ⟨i + 1, 1, r.set i ((x - bw) % 4294967296), by omega, by go_num, rfl, by omega, by omega, Lib.hid (by rw [List.length_set]; exact hr.out), Lib.hid (hlr.out.set _ ⟨by omega, by omega⟩), Hd.out.set _ _, Lib.hid (by have := step.out (x - bw) (by rw [Y0.out]; omega); rwa [E1.out] at this), below_set Hb.out (by simp) _⟩
          case measure => simp [intOf]; omega
        · have dn : decide (x - bw < 0) = false := decide_eq_false hneg
          have e1 : -((x - bw) / 4294967296) = 0 := by omega
          have E1 := Lib.hid e1
          clear e1
          go_wp2
          go_roundw
          case rel => exact ⟨i + 1, 0, r.set i ((x - bw) % 4294967296), by omega, by go_num, rfl, by omega, by omega, Lib.hid (by rw [List.length_set]; exact hr.out), Lib.hid (hlr.out.set _ ⟨by omega, by omega⟩), (by rw [show (x - bw) % 4294967296 = x - bw by omega]; exact Hd.out.set _ _), Lib.hid (by have := step.out (x - bw) (by rw [Y0.out]; omega); rwa [E1.out] at this), below_set Hb.out (by simp) _⟩
          case measure => simp [intOf]; omega
    · obtain rfl : i = n := by omega
      clear hd hb
      go_wp2
      go_ret
      refine ⟨w.heap.size, r, rfl, ?_, minus_end hlr.out hr.out L1.out (by rw [L2.out]; exact hm) Hle.out hc0 hv.out, Hb.out⟩
      have := Hd.out.mag base hlr.out
      rwa [hr.out] at this
end Go.Proofs.YtpifbaiibhaklaaGreatDoor
namespace Go.Proofs.YtpifbaiibhaklaaGreatDoor
open Go.RowKit Big
set_option maxHeartbeats 400000
set_option linter.unusedVariables false
set_option linter.unusedSimpArgs false

theorem add_same (p : Bool) (A B : Option Addr) (n c m d : Nat) (l k : List Int) (w : World) (base : Nat) (hB : base ≤ w.heap.size) (h1 : IsMag base w A n c l) (h2 : IsMag base w B m d k) (hn : n ≤ 549755813888) (hm : m ≤ 549755813888) :
    Calls Tryz.prog 86 #[.agg #[.bool p, .slice A n c], .agg #[.bool p, .slice B m d]] w (RetInt base w (sgn p (val l + val k))) := by
  have H1 := Lib.hid (fun W (hW : Below w.heap.size w W) => plus_any A B n c m d l k W base (Nat.le_trans hB hW.size) (h1.below hW) (h2.below hW) (by omega) (by omega))
  have bb : (p == p) = true := by cases p <;> rfl
  clear h1 h2
  go_enter Tryz.func86, Tryz.ntmps86
  go_wp2_with fail
  go_region_held3 (fun w' => w'.cell? ⟨w.heap.size, 0, none⟩ = some (.bool p) ∧ w'.cell? ⟨w.heap.size, 1, none⟩ = some (.slice A n c) ∧ w'.cell? ⟨w.heap.size + 1, 1, none⟩ = some (.slice B m d))
    (first
      | exact ⟨c0, c1, c2⟩
      | exact ⟨d0, d1, d2⟩
      | (refine ⟨?_, ?_, ?_⟩ <;> (repeat (refine cell_set_far ?_ (by dsimp only; omega) _)) <;> with_reducible assumption)
      | go_keep)
    (first
      | (go_at_call 99; refine (H1.out _ (by repeat (first | exact Below.refl _ _ | with_reducible assumption | apply below_alloc | apply below_drewN | apply below_drew | refine below_set ?_ (by simp; try omega) _ | refine below_then ?_ (by with_reducible assumption)))).mono ?_; rintro e w' ⟨g, r, q, rfl, hq, hi, hv, hb⟩; have c0 := keptc hb (w.heap.size) 0 (.bool p) (by first | with_reducible assumption | (simp [go_sem]; done)); have c1 := keptc hb w.heap.size 1 (.slice A n c) (by first | with_reducible assumption | (simp [go_sem]; done)); have c2 := keptc hb (w.heap.size + 1) 1 (.slice B m d) (by first | with_reducible assumption | (simp [go_sem]; done)); have y0 := keptc hb (w.heap.size + 1 + 1) 0 (.bool false) (by first | with_reducible assumption | (simp [go_sem]; done)); have y1 := keptc hb (w.heap.size + 1 + 1) 1 (.slice none 0 0) (by first | with_reducible assumption | (simp [go_sem]; done)); have fy0 := keptF hb (g := w.heap.size + 1 + 1) (o := 0) (v := .bool false) (by first | with_reducible assumption | (simp [go_sem]; done)) (by first | with_reducible assumption | (simp [go_sem]; done)); have fy1 := keptF hb (g := w.heap.size + 1 + 1) (o := 1) (v := .slice none 0 0) (by first | with_reducible assumption | (simp [go_sem]; done)) (by first | with_reducible assumption | (simp [go_sem]; done)); have Ty := Lib.hid (keptT hb (g := w.heap.size + 1 + 1) (o := 0) (v := .bool false) (by first | with_reducible assumption | (simp [go_sem]; done)) (e := 88) (by first | with_reducible assumption | exact Hid.out (by with_reducible assumption) | (simp [typ_alloc, typ_drewN, typ_drew, otyp_cells]; done))); have I1 := Lib.hid hi; have B1 := Lib.hid hb; have V1 := Lib.hid hv; clear hi hb hv)
      | (go_at_call 83; refine (signed_any p _ _ _ r _ I1.out (by omega)).mono ?_; rintro e w2 ⟨p', A', k', c', rfl, hi2, hb2⟩; have d0 := keptc hb2 _ _ _ c0; have d1 := keptc hb2 _ _ _ c1; have d2 := keptc hb2 _ _ _ c2; have r0 := keptc hb2 (w.heap.size + 1 + 1) 0 (.bool false) (by first | with_reducible assumption | (simp [go_sem]; done)); have r1 := keptc hb2 (w.heap.size + 1 + 1) 1 (.slice none 0 0) (by first | with_reducible assumption | (simp [go_sem]; done)); have fr0 := keptF hb2 (g := w.heap.size + 1 + 1) (o := 0) (v := .bool false) (by first | with_reducible assumption | (simp [go_sem]; done)) (by first | with_reducible assumption | (simp [go_sem]; done)); have fr1 := keptF hb2 (g := w.heap.size + 1 + 1) (o := 1) (v := .slice none 0 0) (by first | with_reducible assumption | (simp [go_sem]; done)) (by first | with_reducible assumption | (simp [go_sem]; done)); have Tr := Lib.hid (keptT hb2 (g := w.heap.size + 1 + 1) (o := 0) (v := .bool false) (by first | with_reducible assumption | (simp [go_sem]; done)) (e := 88) (by first | with_reducible assumption | exact Hid.out (by with_reducible assumption) | (simp [typ_alloc, typ_drewN, typ_drew, otyp_cells]; done))); have I2 := Lib.hid hi2; have B2 := Lib.hid hb2; clear hi2 hb2))
  go_wp2_with fail
  refine bodyPost_ret (v := .agg #[.bool p', .slice A' k' c']) (by simp [results, Tryz.results86, go_sem, r0, r1]) rfl ⟨p', A', k', c', rfl, ?_, below_set (below_set (below_then (below_then (by repeat (first | exact Below.refl _ _ | with_reducible assumption | apply below_alloc | apply below_drewN | apply below_drew | refine below_set ?_ (by simp; try omega) _ | refine below_then ?_ (by with_reducible assumption))) B1.out) B2.out) (by simp; omega) _) (by simp; omega) _⟩
  have := I2.out.keeps (w' := (w2.setCell { block := w.heap.size + 1 + 1, off := 0 } (Value.bool p')).setCell { block := w.heap.size + 1 + 1, off := 1 } (Value.slice A' k' c')) (Keeps.set (Keeps.set (Keeps.refl _ _ _) (by simp; omega) (by simp [Tr.out]) _) (by simp; omega) (by simp [Tr.out]) _)
  rwa [V1.out] at this

theorem add_ge (p q : Bool) (hpq : (p == q) = false) (A B : Option Addr) (n c m d : Nat) (l k : List Int) (w : World) (base : Nat) (hB : base ≤ w.heap.size) (h1 : IsMag base w A n c l) (h2 : IsMag base w B m d k) (t1 : Trim l) (t2 : Trim k) (hn : n ≤ 549755813888) (hm : m ≤ 549755813888) (hle : val k ≤ val l) (hmn : m ≤ n) :
    Calls Tryz.prog 86 #[.agg #[.bool p, .slice A n c], .agg #[.bool q, .slice B m d]] w (RetInt base w (sgn p (val l - val k))) := by
  have H1 := Lib.hid (fun W (hW : Below w.heap.size w W) => minus_any A B n c m d l k W base (h1.below hW) (h2.below hW) (by omega) (by omega) hle)
  have H0 := Lib.hid (fun W (hW : Below w.heap.size w W) => order_any A B n c m d l k W (h1.below hW) (h2.below hW) t1 t2 (by omega) (by omega))
  have b0 : decide ((0 : Int) ≤ cmpI (val l) (val k)) = true := decide_eq_true (by unfold cmpI; split <;> (try split) <;> omega)
  clear h1 h2 t1 t2 hle
  generalize cmpI (val l) (val k) = o at b0 H0
  go_enter Tryz.func86, Tryz.ntmps86
  go_wp2_with fail
  refine (H0.out _ (by repeat (first | exact Below.refl _ _ | with_reducible assumption | apply below_alloc | apply below_drewN | apply below_drew | refine below_set ?_ (by simp; try omega) _ | refine below_then ?_ (by with_reducible assumption)))).mono ?_
  rintro e w0 ⟨rfl, q0, rfl⟩
  clear H0
  go_wp2_with fail
  go_region_held3 (fun w' => w'.cell? ⟨w.heap.size, 0, none⟩ = some (.bool p) ∧ w'.cell? ⟨w.heap.size, 1, none⟩ = some (.slice A n c) ∧ w'.cell? ⟨w.heap.size + 1, 1, none⟩ = some (.slice B m d))
    (first
      | exact ⟨c0, c1, c2⟩
      | exact ⟨d0, d1, d2⟩
      | (refine ⟨?_, ?_, ?_⟩ <;> (repeat (refine cell_set_far ?_ (by dsimp only; omega) _)) <;> with_reducible assumption)
      | go_keep)
    (first
      | (go_at_call 100; refine (H1.out _ (by repeat (first | exact Below.refl _ _ | with_reducible assumption | apply below_alloc | apply below_drewN | apply below_drew | refine below_set ?_ (by simp; try omega) _ | refine below_then ?_ (by with_reducible assumption)))).mono ?_; rintro e w' ⟨g, r, rfl, hi, hv, hb⟩; have c0 := keptc hb (w.heap.size) 0 (.bool p) (by first | with_reducible assumption | (simp [go_sem]; done)); have c1 := keptc hb w.heap.size 1 (.slice A n c) (by first | with_reducible assumption | (simp [go_sem]; done)); have c2 := keptc hb (w.heap.size + 1) 1 (.slice B m d) (by first | with_reducible assumption | (simp [go_sem]; done)); have y0 := keptc hb (w.heap.size + 1 + 1) 0 (.bool false) (by first | with_reducible assumption | (simp [go_sem]; done)); have y1 := keptc hb (w.heap.size + 1 + 1) 1 (.slice none 0 0) (by first | with_reducible assumption | (simp [go_sem]; done)); have fy0 := keptF hb (g := w.heap.size + 1 + 1) (o := 0) (v := .bool false) (by first | with_reducible assumption | (simp [go_sem]; done)) (by first | with_reducible assumption | (simp [go_sem]; done)); have fy1 := keptF hb (g := w.heap.size + 1 + 1) (o := 1) (v := .slice none 0 0) (by first | with_reducible assumption | (simp [go_sem]; done)) (by first | with_reducible assumption | (simp [go_sem]; done)); have Ty := Lib.hid (keptT hb (g := w.heap.size + 1 + 1) (o := 0) (v := .bool false) (by first | with_reducible assumption | (simp [go_sem]; done)) (e := 88) (by first | with_reducible assumption | exact Hid.out (by with_reducible assumption) | (simp [typ_alloc, typ_drewN, typ_drew, otyp_cells]; done))); have I1 := Lib.hid hi; have B1 := Lib.hid hb; have V1 := Lib.hid hv; clear hi hb hv)
      | (go_at_call 83; refine (signed_any p _ _ _ r _ I1.out (by omega)).mono ?_; rintro e w2 ⟨p', A', k', c', rfl, hi2, hb2⟩; have d0 := keptc hb2 _ _ _ c0; have d1 := keptc hb2 _ _ _ c1; have d2 := keptc hb2 _ _ _ c2; have r0 := keptc hb2 (w.heap.size + 1 + 1) 0 (.bool false) (by first | with_reducible assumption | (simp [go_sem]; done)); have r1 := keptc hb2 (w.heap.size + 1 + 1) 1 (.slice none 0 0) (by first | with_reducible assumption | (simp [go_sem]; done)); have fr0 := keptF hb2 (g := w.heap.size + 1 + 1) (o := 0) (v := .bool false) (by first | with_reducible assumption | (simp [go_sem]; done)) (by first | with_reducible assumption | (simp [go_sem]; done)); have fr1 := keptF hb2 (g := w.heap.size + 1 + 1) (o := 1) (v := .slice none 0 0) (by first | with_reducible assumption | (simp [go_sem]; done)) (by first | with_reducible assumption | (simp [go_sem]; done)); have Tr := Lib.hid (keptT hb2 (g := w.heap.size + 1 + 1) (o := 0) (v := .bool false) (by first | with_reducible assumption | (simp [go_sem]; done)) (e := 88) (by first | with_reducible assumption | exact Hid.out (by with_reducible assumption) | (simp [typ_alloc, typ_drewN, typ_drew, otyp_cells]; done))); have I2 := Lib.hid hi2; have B2 := Lib.hid hb2; clear hi2 hb2))
  go_wp2_with fail
  refine bodyPost_ret (v := .agg #[.bool p', .slice A' k' c']) (by simp [results, Tryz.results86, go_sem, r0, r1]) rfl ⟨p', A', k', c', rfl, ?_, below_set (below_set (below_then (below_then (by repeat (first | exact Below.refl _ _ | with_reducible assumption | apply below_alloc | apply below_drewN | apply below_drew | refine below_set ?_ (by simp; try omega) _ | refine below_then ?_ (by with_reducible assumption))) B1.out) B2.out) (by simp; omega) _) (by simp; omega) _⟩
  have := I2.out.keeps (w' := (w2.setCell { block := w.heap.size + 1 + 1, off := 0 } (Value.bool p')).setCell { block := w.heap.size + 1 + 1, off := 1 } (Value.slice A' k' c')) (Keeps.set (Keeps.set (Keeps.refl _ _ _) (by simp; omega) (by simp [Tr.out]) _) (by simp; omega) (by simp [Tr.out]) _)
  rwa [V1.out] at this

theorem add_lt (p q : Bool) (hpq : (p == q) = false) (A B : Option Addr) (n c m d : Nat) (l k : List Int) (w : World) (base : Nat) (hB : base ≤ w.heap.size) (h1 : IsMag base w A n c l) (h2 : IsMag base w B m d k) (t1 : Trim l) (t2 : Trim k) (hn : n ≤ 549755813888) (hm : m ≤ 549755813888) (hle : val l < val k) (hmn : n ≤ m) :
    Calls Tryz.prog 86 #[.agg #[.bool p, .slice A n c], .agg #[.bool q, .slice B m d]] w (RetInt base w (sgn q (val k - val l))) := by
  have H1 := Lib.hid (fun W (hW : Below w.heap.size w W) => minus_any B A m d n c k l W base (h2.below hW) (h1.below hW) (by omega) (by omega) (by omega))
  have H0 := Lib.hid (fun W (hW : Below w.heap.size w W) => order_any A B n c m d l k W (h1.below hW) (h2.below hW) t1 t2 (by omega) (by omega))
  have b0 : decide ((0 : Int) ≤ cmpI (val l) (val k)) = false := decide_eq_false (by unfold cmpI; split <;> (try split) <;> omega)
  clear h1 h2 t1 t2 hle
  generalize cmpI (val l) (val k) = o at b0 H0
  go_enter Tryz.func86, Tryz.ntmps86
  go_wp2_with fail
  refine (H0.out _ (by repeat (first | exact Below.refl _ _ | with_reducible assumption | apply below_alloc | apply below_drewN | apply below_drew | refine below_set ?_ (by simp; try omega) _ | refine below_then ?_ (by with_reducible assumption)))).mono ?_
  rintro e w0 ⟨rfl, q0, rfl⟩
  clear H0
  go_wp2_with fail
  go_region_held3 (fun w' => w'.cell? ⟨w.heap.size + 1, 0, none⟩ = some (.bool q) ∧ w'.cell? ⟨w.heap.size, 1, none⟩ = some (.slice A n c) ∧ w'.cell? ⟨w.heap.size + 1, 1, none⟩ = some (.slice B m d))
    (first
      | exact ⟨c0, c1, c2⟩
      | exact ⟨d0, d1, d2⟩
      | (refine ⟨?_, ?_, ?_⟩ <;> (repeat (refine cell_set_far ?_ (by dsimp only; omega) _)) <;> with_reducible assumption)
      | go_keep)
    (first
      | (go_at_call 100; refine (H1.out _ (by repeat (first | exact Below.refl _ _ | with_reducible assumption | apply below_alloc | apply below_drewN | apply below_drew | refine below_set ?_ (by simp; try omega) _ | refine below_then ?_ (by with_reducible assumption)))).mono ?_; rintro e w' ⟨g, r, rfl, hi, hv, hb⟩; have c0 := keptc hb (w.heap.size + 1) 0 (.bool q) (by first | with_reducible assumption | (simp [go_sem]; done)); have c1 := keptc hb w.heap.size 1 (.slice A n c) (by first | with_reducible assumption | (simp [go_sem]; done)); have c2 := keptc hb (w.heap.size + 1) 1 (.slice B m d) (by first | with_reducible assumption | (simp [go_sem]; done)); have y0 := keptc hb (w.heap.size + 1 + 1) 0 (.bool false) (by first | with_reducible assumption | (simp [go_sem]; done)); have y1 := keptc hb (w.heap.size + 1 + 1) 1 (.slice none 0 0) (by first | with_reducible assumption | (simp [go_sem]; done)); have fy0 := keptF hb (g := w.heap.size + 1 + 1) (o := 0) (v := .bool false) (by first | with_reducible assumption | (simp [go_sem]; done)) (by first | with_reducible assumption | (simp [go_sem]; done)); have fy1 := keptF hb (g := w.heap.size + 1 + 1) (o := 1) (v := .slice none 0 0) (by first | with_reducible assumption | (simp [go_sem]; done)) (by first | with_reducible assumption | (simp [go_sem]; done)); have Ty := Lib.hid (keptT hb (g := w.heap.size + 1 + 1) (o := 0) (v := .bool false) (by first | with_reducible assumption | (simp [go_sem]; done)) (e := 88) (by first | with_reducible assumption | exact Hid.out (by with_reducible assumption) | (simp [typ_alloc, typ_drewN, typ_drew, otyp_cells]; done))); have I1 := Lib.hid hi; have B1 := Lib.hid hb; have V1 := Lib.hid hv; clear hi hb hv)
      | (go_at_call 83; refine (signed_any q _ _ _ r _ I1.out (by omega)).mono ?_; rintro e w2 ⟨p', A', k', c', rfl, hi2, hb2⟩; have d0 := keptc hb2 _ _ _ c0; have d1 := keptc hb2 _ _ _ c1; have d2 := keptc hb2 _ _ _ c2; have r0 := keptc hb2 (w.heap.size + 1 + 1) 0 (.bool false) (by first | with_reducible assumption | (simp [go_sem]; done)); have r1 := keptc hb2 (w.heap.size + 1 + 1) 1 (.slice none 0 0) (by first | with_reducible assumption | (simp [go_sem]; done)); have fr0 := keptF hb2 (g := w.heap.size + 1 + 1) (o := 0) (v := .bool false) (by first | with_reducible assumption | (simp [go_sem]; done)) (by first | with_reducible assumption | (simp [go_sem]; done)); have fr1 := keptF hb2 (g := w.heap.size + 1 + 1) (o := 1) (v := .slice none 0 0) (by first | with_reducible assumption | (simp [go_sem]; done)) (by first | with_reducible assumption | (simp [go_sem]; done)); have Tr := Lib.hid (keptT hb2 (g := w.heap.size + 1 + 1) (o := 0) (v := .bool false) (by first | with_reducible assumption | (simp [go_sem]; done)) (e := 88) (by first | with_reducible assumption | exact Hid.out (by with_reducible assumption) | (simp [typ_alloc, typ_drewN, typ_drew, otyp_cells]; done))); have I2 := Lib.hid hi2; have B2 := Lib.hid hb2; clear hi2 hb2))
  go_wp2_with fail
  refine bodyPost_ret (v := .agg #[.bool p', .slice A' k' c']) (by simp [results, Tryz.results86, go_sem, r0, r1]) rfl ⟨p', A', k', c', rfl, ?_, below_set (below_set (below_then (below_then (by repeat (first | exact Below.refl _ _ | with_reducible assumption | apply below_alloc | apply below_drewN | apply below_drew | refine below_set ?_ (by simp; try omega) _ | refine below_then ?_ (by with_reducible assumption))) B1.out) B2.out) (by simp; omega) _) (by simp; omega) _⟩
  have := I2.out.keeps (w' := (w2.setCell { block := w.heap.size + 1 + 1, off := 0 } (Value.bool p')).setCell { block := w.heap.size + 1 + 1, off := 1 } (Value.slice A' k' c')) (Keeps.set (Keeps.set (Keeps.refl _ _ _) (by simp; omega) (by simp [Tr.out]) _) (by simp; omega) (by simp [Tr.out]) _)
  rwa [V1.out] at this

theorem Add_any (base : Nat) (p q : Bool) (A B : Option Addr) (n c m d : Nat) (x y : Int) (w : World) (hB : base ≤ w.heap.size) (h1 : IsInt base w p A n c x) (h2 : IsInt base w q B m d y) (hx : lim x ≤ 549755813888) (hy : lim y ≤ 549755813888) :
    Calls Tryz.prog 86 #[.agg #[.bool p, .slice A n c], .agg #[.bool q, .slice B m d]] w (RetInt base w (x + y)) := by
  rw [← h1.len] at hx
  rw [← h2.len] at hy
  obtain ⟨l, g1, t1, s1, rfl⟩ := h1
  obtain ⟨k, g2, t2, s2, rfl⟩ := h2
  by_cases hpq : p = q
  · subst hpq
    have := add_same p A B n c m d l k w base hB g1 g2 hx hy
    rwa [show sgn p (val l + val k) = sgn p (val l) + sgn p (val k) by unfold sgn; split <;> omega] at this
  · have hpq' : (p == q) = false := by cases p <;> cases q <;> simp_all
    rcases Int.lt_or_le (val l) (val k) with h | h
    · have hmn : n ≤ m := by
        rcases Nat.lt_or_ge m n with h' | h'
        · have := val_lt_of_length g2.limbs g1.limbs t1 (by rw [g1.len, g2.len]; exact h'); omega
        · exact h'
      have := add_lt p q hpq' A B n c m d l k w base hB g1 g2 t1 t2 hx hy h hmn
      rwa [show sgn q (val k - val l) = sgn p (val l) + sgn q (val k) by cases p <;> cases q <;> simp_all [sgn] <;> omega] at this
    · have hmn : m ≤ n := by
        rcases Nat.lt_or_ge n m with h' | h'
        · have := val_lt_of_length g1.limbs g2.limbs t2 (by rw [g1.len, g2.len]; exact h'); omega
        · exact h'
      have := add_ge p q hpq' A B n c m d l k w base hB g1 g2 t1 t2 hx hy h hmn
      rwa [show sgn p (val l - val k) = sgn p (val l) + sgn q (val k) by cases p <;> cases q <;> simp_all [sgn] <;> omega] at this
end Go.Proofs.YtpifbaiibhaklaaGreatDoor
namespace Go.Proofs.YtpifbaiibhaklaaGreatDoor
open Go.RowKit Big
set_option maxHeartbeats 400000
set_option linter.unusedVariables false
set_option linter.unusedSimpArgs false

theorem scale_any (A : Option Addr) (n c : Nat) (l : List Int) (by_ pl : Int) (w : World) (base : Nat) (hB : base ≤ w.heap.size) (h1 : IsMag base w A n c l) (hn : n ≤ 549755813888) (hb1 : 0 ≤ by_) (hb2 : by_ < 4294967296) (hp1 : 0 ≤ pl) (hp2 : pl < 4294967296) :
    Calls Tryz.prog 134 #[.slice A n c, .int .u32 by_, .int .u32 pl] w fun e w' => ∃ A' k c' r, e = .returned (.slice A' k c') ∧ IsMag base w' A' k c' r ∧ Trim r ∧ k ≤ n + 1 ∧ val r = val l * by_ + pl ∧ Below w.heap.size w w' := by
  have hmk := make_u32 (n + 1) (by omega)
  have e1 : ((n + 1 : Nat) : Int) = (n : Int) + 1 := by omega
  rw [e1] at hmk
  clear e1
  have L1 := Lib.hid h1.len
  have V1 := Lib.hid h1.limbs
  go_enter Tryz.func134, Tryz.ntmps134
  go_wp2
  clear hmk
  go_loopw [8, 19] (fun v q wr => ∃ (i : Nat) (cy : Int) (r : List Int), i ≤ n ∧ q = .int .i64 (i : Int) ∧ v = .int .u64 cy ∧ 0 ≤ cy ∧ cy < 4294967296 ∧ Hid (r.length = n + 1) ∧ Hid (Limbs r) ∧ Digits wr w.heap.size r ∧
      Hid (val (r.take i) + W ^ i * cy = val (l.take i) * by_ + pl) ∧ Below w.heap.size w wr) (fun _ q _ => n - (intOf q).toNat)
  case atStart => exact ⟨0, pl, List.replicate (n + 1) 0, Nat.zero_le _, rfl, rfl, hp1, hp2, Lib.hid (by simp), Lib.hid (Limbs.replicate _), Digits.made w _, Lib.hid (by simp [val]), (by repeat (first | exact Below.refl _ _ | with_reducible assumption | apply below_alloc | apply below_drewN | apply below_drew | refine below_set ?_ (by simp; try omega) _ | refine below_then ?_ (by with_reducible assumption)))⟩
  case round =>
    obtain ⟨i, cy, r, hi, rfl, rfl, hc0, hc1, hr, hlr, hd, hv, hb⟩ := hrel
    have Hd := Lib.hid hd
    have Hb := Lib.hid hb
    by_cases hlt : i < n
    · obtain ⟨a, ea, ha⟩ := (h1.below hb).at_ i (by omega)
      subst ea
      have x0 := V1.out.getD i
      have hcg := hd.cell i (by rw [hr.out]; omega)
      have hfg := hd.frozen i
      have step := Lib.hid (fun s hs => scale_step (r := r) (l := l) (i := i) (cy := cy) (by_ := by_) (pl := pl) (s := s) (by rw [hr.out]; omega) hv.out hs)
      unfold Limb at x0
      generalize l.getD i 0 = x at ha x0 step
      obtain ⟨x0, x1⟩ := x0
      obtain ⟨p0, p1⟩ := mul_bd2 x0 x1 hb1 hb2
      have o1 : (cy + x * by_) / 4294967296 < 4294967296 := by omega
      have o0 : 0 ≤ (cy + x * by_) / 4294967296 := by omega
      have O0 := Lib.hid o0
      have O1 := Lib.hid o1
      clear hd hb o0 o1
      go_wp2
      go_roundw
      case rel => exact ⟨i + 1, (cy + x * by_) / 4294967296, r.set i ((cy + x * by_) % 4294967296), by omega, by go_num, rfl, O0.out, O1.out, Lib.hid (by rw [List.length_set]; exact hr.out), Lib.hid (hlr.out.set _ ⟨by omega, by omega⟩), Hd.out.set _ _, Lib.hid (step.out _ rfl), below_set Hb.out (by simp) _⟩
      case measure => simp [intOf]; omega
    · obtain rfl : i = n := by omega
      have hcg := hd.cell i (by rw [hr.out]; omega)
      have hfg := hd.frozen i
      clear hd hb
      go_wp2_with fail
      have hq : (r.set i cy).length = i + 1 := by rw [List.length_set]; exact hr.out
      have hm' : cy % 4294967296 = cy := by omega
      have D1 := Hd.out.set i cy
      have M1 := D1.mag base (hlr.out.set _ ⟨hc0, by omega⟩)
      rw [hq] at M1
      have H1 := Lib.hid (trim_any _ _ _ _ _ M1 (by omega))
      have Q1 := Lib.hid hq
      have M := Lib.hid M1
      have F1 := Lib.hid (val_take_set r i cy (by rw [hr.out]; omega))
      clear hq hm' D1 M1
      refine H1.out.mono ?_
      rintro e w' ⟨k, rfl, hk, ht, hv', rfl⟩
      have Ht := Lib.hid ht
      have Hv := Lib.hid hv'
      clear ht hv' H1
      go_wp2_with fail
      go_ret
      refine ⟨_, k, i + 1, (r.set i cy).take k, rfl, M.out.take k hk, Ht.out, hk, ?_, below_set Hb.out (by simp) _⟩
      have h3 := F1.out
      rw [List.take_of_length_le (by rw [Q1.out]; omega)] at h3
      rw [Hv.out, h3, hv.out, List.take_of_length_le (by rw [L1.out]; omega)]
end Go.Proofs.YtpifbaiibhaklaaGreatDoor
namespace Go.Proofs.YtpifbaiibhaklaaGreatDoor
open Go.RowKit Big
set_option maxHeartbeats 400000
set_option linter.unusedVariables false
set_option linter.unusedSimpArgs false

theorem or_u64 (x y : Int) (hx : 0 ≤ x) (hx' : x < 4294967296) (hy : 0 ≤ y) (hy' : y < 4294967296) : bits .or .u64 (x * 4294967296) y = x * 4294967296 + y := by
  obtain ⟨a, rfl⟩ := Int.eq_ofNat_of_zero_le hx
  obtain ⟨b, rfl⟩ := Int.eq_ofNat_of_zero_le hy
  have h := u64_or_nat (a * 4294967296) b (by omega) (by omega)
  rw [show ((a * 4294967296 : Nat) : Int) = (a : Int) * 4294967296 by omega] at h
  rw [h]
  have e : a * 4294967296 ||| b = a * 4294967296 + b := by
    have := Nat.shiftLeft_add_eq_or_of_lt (i := 32) (b := b) (by omega) a
    rw [Nat.shiftLeft_eq] at this
    exact this.symm
  rw [e]
  omega

theorem short_any (A : Option Addr) (n c : Nat) (l : List Int) (by_ : Int) (w : World) (base : Nat) (hB : base ≤ w.heap.size) (h1 : IsMag base w A n c l) (hn : n ≤ 1099511627776) (hb1 : 1 ≤ by_) (hb2 : by_ < 4294967296) :
    Calls Tryz.prog 94 #[.slice A n c, .int .u32 by_] w fun e w' => ∃ A' k c' r, e = .returned (.tuple #[.slice A' k c', .int .u32 (val l % by_)]) ∧ IsMag base w' A' k c' r ∧ Trim r ∧ k ≤ n ∧ val r = val l / by_ ∧ Below w.heap.size w w' := by
  have hmk := make_u32 n (by omega)
  have L1 := Lib.hid h1.len
  have V1 := Lib.hid h1.limbs
  go_enter Tryz.func94, Tryz.ntmps94
  go_wp2
  clear hmk
  go_loopw [7, 8] (fun v q wr => ∃ (i : Int) (rest : Int) (r : List Int), -1 ≤ i ∧ i < n ∧ q = .int .i64 i ∧ v = .int .u64 rest ∧ 0 ≤ rest ∧ rest < by_ ∧ Hid (r.length = n) ∧ Hid (Limbs r) ∧ Digits wr w.heap.size r ∧
      Hid (val (l.drop (i + 1).toNat) = val (r.drop (i + 1).toNat) * by_ + rest) ∧ Below w.heap.size w wr) (fun _ q _ => (intOf q + 1).toNat)
  case atStart => exact ⟨(n : Int) - 1, 0, List.replicate n 0, by omega, by omega, rfl, rfl, by omega, by omega, Lib.hid (by simp), Lib.hid (Limbs.replicate _), Digits.made w _, Lib.hid (by rw [List.drop_eq_nil_of_le (by rw [L1.out]; omega), List.drop_eq_nil_of_le (by simp)]; simp [val]), (by repeat (first | exact Below.refl _ _ | with_reducible assumption | apply below_alloc | apply below_drewN | apply below_drew | refine below_set ?_ (by simp; try omega) _ | refine below_then ?_ (by with_reducible assumption)))⟩
  case round =>
    obtain ⟨i, rest, r, hi, hi', rfl, rfl, hc0, hc1, hr, hlr, hd, hv, hb⟩ := hrel
    have Hd := Lib.hid hd
    have Hb := Lib.hid hb
    by_cases hlt : 0 ≤ i
    · obtain ⟨i, rfl⟩ := Int.eq_ofNat_of_zero_le hlt
      obtain ⟨a, ea, ha⟩ := (h1.below hb).at_ i (by omega)
      subst ea
      have x0 := V1.out.getD i
      have hcg := hd.cell i (by rw [hr.out]; omega)
      have hfg := hd.frozen i
      have step := Lib.hid (fun s hs => short_step (r := r) (l := l) (i := i) (rest := rest) (by_ := by_) (s := s) (by rw [hr.out]; omega) (by rw [L1.out]; omega) hv.out hs)
      unfold Limb at x0
      generalize l.getD i 0 = x at ha x0 step
      obtain ⟨x0, x1⟩ := x0
      have hor := or_u64 rest x hc0 (by omega) x0 x1
      have s0 : 0 ≤ rest * 4294967296 + x := by omega
      have q0 : 0 ≤ (rest * 4294967296 + x) / by_ := Int.ediv_nonneg s0 (by omega)
      have q1 : (rest * 4294967296 + x) / by_ < 4294967296 := quo_lt (by omega) (by omega)
      have r0 : 0 ≤ (rest * 4294967296 + x) % by_ := Int.emod_nonneg _ (by omega)
      have r1 : (rest * 4294967296 + x) % by_ < by_ := Int.emod_lt_of_pos _ (by omega)
      clear hd hb
      go_wp2
      go_roundw
      case rel => exact ⟨(i : Int) - 1, (rest * 4294967296 + x) % by_, r.set i ((rest * 4294967296 + x) / by_), by omega, by omega, rfl, rfl, r0, r1, Lib.hid (by rw [List.length_set]; exact hr.out), Lib.hid (hlr.out.set _ ⟨q0, q1⟩), Hd.out.set _ _, Lib.hid (by rw [show ((i : Int) - 1 + 1).toNat = i by omega]; exact step.out _ rfl), below_set Hb.out (by simp) _⟩
      case measure => simp [intOf]
    · obtain rfl : i = -1 := by omega
      have H1 := Lib.hid (trim_any _ _ _ _ _ (hd.mag base hlr.out) (by rw [hr.out]; exact hn))
      have M1 := Lib.hid (hd.mag base hlr.out)
      have hv' : val l = val r * by_ + rest := hv.out
      have D1 := Lib.hid (div_unique hv' hc0 hc1)
      have H1' := H1.out
      have M1' := M1.out
      rw [hr.out] at H1' M1'
      have H := Lib.hid H1'
      have M := Lib.hid M1'
      clear hd hb H1 H1' M1 M1' hv' hv
      go_wp2_with fail
      refine H.out.mono ?_
      rintro e w' ⟨k, rfl, hk, ht, hv', rfl⟩
      have Ht := Lib.hid ht
      have Hv := Lib.hid hv'
      clear ht hv' H
      go_wp2_with fail
      go_ret2
      exact ⟨_, k, n, r.take k, by rw [← D1.out.2]; rfl, M.out.take k hk, Ht.out, hk, by rw [Hv.out, D1.out.1], Hb.out⟩
end Go.Proofs.YtpifbaiibhaklaaGreatDoor
