/- Plain mathematics: decimal texts of integers, in groups of nine digits.
  What the walks take of Go's library: contracts of the shelf, turned to this program, and the tables that it reads.
  A row that the call itself makes by append: one law for elements of any number of cells.
  What a text consists of: predicates on runes that hold of every rune beyond ASCII, asked by strings.ContainsFunc.
  Package integer: Text.
  Package integer: Parse.
  Package integer: Parse of a right text.
  Package rational: From, one, whole, Sign.
  Package rational: whole. -/
import Derived.Test.YtpifbaiibhaklaaGreatDoorL0
import Derived.Lib.ItoaNum
import Derived.Lib.Repeat
import Derived.Lib.ParseIntB
import Derived.Lib.Strings
import Derived.Test.YtpifbaiibhaklaaGreatDoorShelf
import Derived.WalkSmall
import Derived.Lib.AppendIntMem
import Derived.OwnWalk
import Derived.Maps.AppendAt
import Derived.Laws.OwnMore
import Derived.Deep.AppendLies
import Derived.Test.YtpifbaiibhaklaaGreatDoorProg
import Derived.WalkKit
import Derived.WalkSpells
import Derived.WalkLawsBesides
import Derived.Deep.QuietTactic
import Derived.BigQuiet
import Derived.Lib.Hide
import Derived.Deep.LoopGhost
import Derived.Deep.OwnRows
import Derived.Deep.RegionHeld3
import Derived.BigGuard
import Derived.BigCall
namespace Go.Proofs.YtpifbaiibhaklaaGreatDoor
namespace Big
open Go.Lib

/-- The last k decimal digits, zeros in front. -/
def padK : Nat → Nat → List UInt8
  | 0, _ => []
  | k + 1, r => padK k (r / 10) ++ [UInt8.ofNat (48 + r % 10)]
theorem padK_length (k r : Nat) : (padK k r).length = k := by
  induction k generalizing r with
  | zero => rfl
  | succ k ih => simp [padK, ih]
theorem dec_small {u : Nat} (h : u < 10) : decDigits u = [UInt8.ofNat (48 + u)] := by rw [decDigits, dif_pos h]
theorem dec_big {u : Nat} (h : ¬ u < 10) : decDigits u = decDigits (u / 10) ++ [UInt8.ofNat (48 + u % 10)] := by rw [decDigits, dif_neg h]
theorem dec_pad (k q r : Nat) (hq : 0 < q) (hr : r < 10 ^ k) : decDigits (q * 10 ^ k + r) = decDigits q ++ padK k r := by
  induction k generalizing r with
  | zero => have : r = 0 := by simpa using hr
            subst this; simp [padK]
  | succ k ih =>
    rw [Nat.pow_succ] at hr ⊢
    have hp : 0 < 10 ^ k := Nat.pow_pos (by decide)
    have h1 : (q * (10 ^ k * 10) + r) / 10 = q * 10 ^ k + r / 10 := by
      rw [← Nat.mul_assoc]; omega
    have h2 : (q * (10 ^ k * 10) + r) % 10 = r % 10 := by
      rw [← Nat.mul_assoc]; omega
    have h3 : ¬ q * (10 ^ k * 10) + r < 10 := by
      rw [← Nat.mul_assoc]
      have : 1 ≤ q * 10 ^ k := Nat.mul_pos hq hp
      omega
    rw [dec_big h3, h1, h2, ih (r / 10) (by omega)]
    simp [padK]
theorem pad_zero (k : Nat) : padK k 0 = List.replicate k 48 := by
  induction k with
  | zero => rfl
  | succ k ih => rw [padK, Nat.zero_div, ih, List.replicate_succ']; rfl
theorem pad_dec (k r : Nat) (hr : r < 10 ^ (k + 1)) : padK (k + 1) r = List.replicate (k + 1 - (decDigits r).length) 48 ++ decDigits r := by
  induction k generalizing r with
  | zero =>
    have h : r < 10 := by simpa using hr
    rw [dec_small h, padK, padK, Nat.mod_eq_of_lt h]
    rfl
  | succ k ih =>
    by_cases h : r < 10
    · rw [padK, Nat.div_eq_of_lt h, pad_zero, dec_small h, Nat.mod_eq_of_lt h]
      simp
    · rw [padK, ih (r / 10) (by rw [Nat.pow_succ] at hr; omega), dec_big h]
      simp
theorem dec_len_pos (u : Nat) : 1 ≤ (decDigits u).length := by rw [decDigits_length]; exact nDigits_pos u
theorem nDigits_le (k u : Nat) (hk : 1 ≤ k) (h : u < 10 ^ k) : nDigits u ≤ k := by
  induction k generalizing u with
  | zero => omega
  | succ k ih =>
    by_cases hu : u < 10
    · rw [nDigits_small hu]; omega
    · rw [nDigits_big hu]
      rcases Nat.eq_zero_or_pos k with h0 | h0
      · subst h0; simp at h; omega
      · have := ih (u / 10) h0 (by rw [Nat.pow_succ] at h; omega)
        omega
theorem dec_len_le (k u : Nat) (hk : 1 ≤ k) (h : u < 10 ^ k) : (decDigits u).length ≤ k := by rw [decDigits_length]; exact nDigits_le k u hk h
theorem dec_group (M : Nat) (h : M / 1000000000 ≠ 0) : decDigits M = decDigits (M / 1000000000) ++ (List.replicate (9 - (decDigits (M % 1000000000)).length) 48 ++ decDigits (M % 1000000000)) := by
  have h1 := dec_pad 9 (M / 1000000000) (M % 1000000000) (by omega) (Nat.mod_lt _ (by decide))
  rw [pad_dec 8 _ (Nat.mod_lt _ (by decide))] at h1
  rw [← h1]
  congr 1
  omega
/-- The groups of nine digits that are done, the lowest first. -/
structure Groups (gs : List (List UInt8)) (M N : Nat) : Prop where
  text : decDigits N = (if M = 0 then [] else decDigits M) ++ gs.reverse.flatten
  len : gs.length ≤ gs.flatten.length
theorem Groups.start (N : Nat) (h : N ≠ 0) : Groups [] N N := ⟨by simp [h], Nat.zero_le _⟩
theorem Groups.more {gs : List (List UInt8)} {M N : Nat} (g : Groups gs M N) (h : M / 1000000000 ≠ 0) : Groups (gs ++ [List.replicate (9 - (decDigits (M % 1000000000)).length) 48 ++ decDigits (M % 1000000000)]) (M / 1000000000) N := by
  have hM : M ≠ 0 := by rintro rfl; simp at h
  refine ⟨?_, ?_⟩
  · have h1 := g.text
    rw [if_neg hM, dec_group M h] at h1
    rw [if_neg h, h1]
    simp
  · have := g.len
    have := dec_len_pos (M % 1000000000)
    simp only [List.length_append, List.length_singleton, List.flatten_append, List.flatten_singleton, List.length_replicate]
    omega
theorem Groups.last {gs : List (List UInt8)} {M N : Nat} (g : Groups gs M N) (hM : M ≠ 0) (h : M / 1000000000 = 0) : Groups (gs ++ [decDigits (M % 1000000000)]) (M / 1000000000) N := by
  refine ⟨?_, ?_⟩
  · have h1 := g.text
    rw [if_neg hM] at h1
    rw [h, h1, show M % 1000000000 = M by omega]
    simp
  · have := g.len
    have := dec_len_pos (M % 1000000000)
    simp only [List.length_append, List.length_singleton, List.flatten_append, List.flatten_singleton]
    omega
theorem Groups.count {gs : List (List UInt8)} {M N : Nat} (g : Groups gs M N) : gs.length ≤ (decDigits N).length := by
  have h1 := g.len
  rw [g.text, List.length_append]
  have : gs.reverse.flatten.length = gs.flatten.length := by simp [List.length_flatten, List.sum_reverse]
  omega
theorem join_nil (xs : List (List UInt8)) : [].intercalate xs = xs.flatten := by
  induction xs with
  | nil => rfl
  | cons x t ih =>
    cases t with
    | nil => simp [List.intercalate]
    | cons y t => simp only [List.intercalate, List.intersperse] at ih ⊢; simp [ih]
/-- The text of an integer. -/
theorem itoa_sgn_false (n : Nat) : itoa (n : Int) = decDigits n := by unfold itoa; rw [if_neg (by omega)]; simp
theorem itoa_sgn_true (n : Nat) (h : n ≠ 0) : itoa (-(n : Int)) = 45 :: decDigits n := by unfold itoa; rw [if_pos (by omega)]; simp
theorem dec_len_lim (z : Int) : (decDigits z.natAbs).length ≤ 10 * lim z + 1 := by
  refine dec_len_le _ _ (by omega) ?_
  have h := lim_lt z
  have h2 : (4294967296 : Nat) ^ lim z ≤ (10 ^ 10) ^ lim z := Nat.pow_le_pow_left (by decide) _
  rw [← Nat.pow_mul] at h2
  have h3 : 10 ^ (10 * lim z) ≤ 10 ^ (10 * lim z + 1) := Nat.pow_le_pow_right (by decide) (by omega)
  omega
/-- What decimal digits mean. -/
def natFrom (acc : Nat) (l : List UInt8) : Nat := l.foldl (fun a c => a * 10 + (c.toNat - 48)) acc
def natOf (l : List UInt8) : Nat := natFrom 0 l
def isDig (c : UInt8) : Bool := decide (48 ≤ c.toNat) && decide (c.toNat ≤ 57)
theorem natFrom_append (acc : Nat) (a b : List UInt8) : natFrom acc (a ++ b) = natFrom (natFrom acc a) b := List.foldl_append ..
theorem natFrom_eq (acc : Nat) (l : List UInt8) : natFrom acc l = acc * 10 ^ l.length + natOf l := by
  induction l generalizing acc with
  | nil => simp [natFrom, natOf]
  | cons c t ih =>
    show natFrom (acc * 10 + (c.toNat - 48)) t = acc * 10 ^ (t.length + 1) + natFrom (0 * 10 + (c.toNat - 48)) t
    rw [ih, ih (0 * 10 + _), Nat.pow_succ, Nat.add_mul, Nat.zero_mul, Nat.zero_add]
    have : acc * 10 * 10 ^ t.length = acc * (10 ^ t.length * 10) := by rw [Nat.mul_assoc, Nat.mul_comm 10]
    omega
theorem natOf_append (a b : List UInt8) : natOf (a ++ b) = natOf a * 10 ^ b.length + natOf b := by
  show natFrom 0 (a ++ b) = _
  rw [natFrom_append, natFrom_eq]
  rfl
theorem natOf_lt {l : List UInt8} (h : l.all isDig = true) : natOf l < 10 ^ l.length := by
  induction l with
  | nil => decide
  | cons c t ih =>
    have hc : isDig c = true ∧ t.all isDig = true := by simpa using h
    have h1 := ih hc.2
    have h2 : c.toNat - 48 ≤ 9 := by have := hc.1; simp [isDig] at this; omega
    have : natOf (c :: t) = (c.toNat - 48) * 10 ^ t.length + natOf t := by
      show natFrom (0 * 10 + (c.toNat - 48)) t = _
      rw [natFrom_eq]; simp
    rw [this, List.length_cons, Nat.pow_succ]
    have := Nat.mul_le_mul_right (10 ^ t.length) h2
    omega
theorem parseM_digits (M : Nat) (hM : M < 18446744073709551616) : ∀ (l : List UInt8) (acc : Nat), l.all isDig = true → natFrom acc l ≤ M → parseUintM M acc l = .ok (natFrom acc l)
  | [], acc, _, _ => rfl
  | c :: r, acc, h, hle => by
    have hc : isDig c = true ∧ r.all isDig = true := by simpa using h
    have h1 : 48 ≤ c.toNat ∧ c.toNat ≤ 57 := by have := hc.1; simpa [isDig] using this
    have hle' : natFrom (acc * 10 + (c.toNat - 48)) r ≤ M := hle
    have hge : acc * 10 + (c.toNat - 48) ≤ natFrom (acc * 10 + (c.toNat - 48)) r := by
      rw [natFrom_eq]
      have := Nat.le_mul_of_pos_right (acc * 10 + (c.toNat - 48)) (Nat.pow_pos (n := r.length) (show 0 < 10 by decide))
      omega
    unfold parseUintM
    rw [if_pos h1, if_neg (by omega), if_neg (by omega), parseM_digits M hM r _ hc.2 hle']
    rfl
theorem parseB_digits (l : List UInt8) (h0 : l ≠ []) (h : l.all isDig = true) (hl : l.length ≤ 9) : parseUintB 32 l = .ok (natOf l) := by
  unfold parseUintB
  rw [if_neg h0]
  refine parseM_digits _ (by decide) l 0 h ?_
  have h1 := natOf_lt h
  have h2 : 10 ^ l.length ≤ 10 ^ 9 := Nat.pow_le_pow_right (by decide) hl
  show natOf l ≤ _
  have : (2 : Nat) ^ 32 - 1 = 4294967295 := by decide
  omega
/-- The reading of an integer's text: ErrLong, ErrSyntax, ErrForm, or the integer. -/
def parseZ (l : List UInt8) : Int × Int :=
  if 65536 < l.length then (0, 5) else
    let neg := Lib.hasPrefix l [45]
    let d := Lib.trimPrefix l [45]
    if d = [] ∨ d.all isDig = false then (0, 14)
    else if d.head? = some 48 ∧ (1 < d.length ∨ neg = true) then (0, 3)
    else ((if neg then -(natOf d : Int) else natOf d), 0)
end Big
end Go.Proofs.YtpifbaiibhaklaaGreatDoor
namespace Go.Proofs.YtpifbaiibhaklaaGreatDoor
open Go.RowKit Big
set_option maxHeartbeats 400000
set_option linter.unusedVariables false
set_option linter.unusedSimpArgs false

theorem gPow : Tryz.prog.globalNamed "internal/strconv.uint64pow10" = some 1 := by kernel_rfl
/-- The library's variables hold what its text lays. -/
structure Good (w : World) : Prop where
  size : 8 ≤ w.heap.size
  pow : Lib.TabIs Tryz.prog w "internal/strconv.uint64pow10" .u64 Lib.pow10Tab
  maxLen : ∃ m : Int, w.cell? ⟨0, 0, none⟩ = some (.int .i64 m)
theorem Good.below {w w' : World} (h : Good w) (hb : Below w.heap.size w w') : Good w' :=
  ⟨Nat.le_trans h.size hb.size, var?_below hb gPow (Nat.lt_of_lt_of_le (by decide) h.size) h.pow, by
    obtain ⟨m, hm⟩ := h.maxLen
    exact ⟨m, cell_below hb hm⟩⟩

/-- strconv.Itoa of a group. -/
theorem Itoa_any (r : Int) (h0 : -9223372036854775808 ≤ r) (h1 : r ≤ 9223372036854775807) (w : World) (hg : Good w) :
    Calls Tryz.prog 95 #[.int .i64 r] w fun e w' => ∃ s : ByteArray, e = .returned (.string s) ∧ s.data.toList = Lib.itoa r ∧ Below w.heap.size w w' :=
  (Tryz.strconv_Itoa r h0 h1 w hg.pow).mono fun e w' ⟨he, k, os, hw⟩ => ⟨_, he, by simp, by rw [hw]; exact Lib.below_grow _ w (Nat.le_refl _) k os⟩
theorem repeatL_zero (c : Nat) : Lib.repeatL [48] c = List.replicate c 48 := by
  induction c with
  | zero => rfl
  | succ c ih => rw [Lib.repeatL, ih, List.replicate_succ]; rfl
/-- strings.Repeat("0", c). -/
theorem Repeat_zero (c : Int) (h0 : 0 ≤ c) (h1 : c ≤ 9) (w : World) :
    Calls Tryz.prog 96 #[.string ⟨#[48]⟩, .int .i64 c] w fun e w' => ∃ s : ByteArray, e = .returned (.string s) ∧ s.data.toList = List.replicate c.toNat 48 ∧ Below w.heap.size w w' := by
  obtain ⟨n, rfl⟩ := Int.eq_ofNat_of_zero_le h0
  refine (Tryz.strings_Repeat ⟨#[48]⟩ n w (by omega) ?_).mono fun e w' ⟨he, hb⟩ => ⟨_, he, ?_, hb⟩
  · show 1 * n ≤ _
    omega
  · simp [← repeatL_zero]

end Go.Proofs.YtpifbaiibhaklaaGreatDoor
namespace Go.Proofs.YtpifbaiibhaklaaGreatDoor
open Go.RowKit Big

theorem own_nil (W : World) (base : Nat) (e : TypeId) (size : Nat) : W.ownsRow base e size (.slice none 0 0) 0 [] := ⟨by simp, .inl ⟨rfl, rfl⟩⟩
theorem own_base {w : World} {base : Nat} {e : TypeId} {size n : Nat} {v : Value} {xs : List Value} (h : w.ownsRow base e size v n xs) (k : Nat) (hk : v.ownBlock = some k) : base ≤ k := by
  rcases h.2 with ⟨rfl, _⟩ | ⟨g, cap, cur, rfl, hb, _⟩
  · simp [Value.ownBlock] at hk
  · have : g = k := by simpa [Value.ownBlock] using hk
    omega
theorem grown_of_below {w w1 : World} (h : Below w.heap.size w w1) (row : Option Nat) : w.grownBy w1 row := ⟨h.os, h.tape, h.output, h.size, fun i hi _ => h.block i hi⟩
/-- A row of the call's own lives on while memory only grows. -/
theorem own_below {w w1 : World} {base : Nat} {e : TypeId} {size n : Nat} {v : Value} {xs : List Value} (h : w.ownsRow base e size v n xs) (hb : Below w.heap.size w w1) : w1.ownsRow base e size v n xs :=
  h.kept (grown_of_below hb none) (by cases v.ownBlock <;> simp)
theorem own_drewN {w : World} {base : Nat} {e : TypeId} {size n : Nat} {v : Value} {xs : List Value} (h : w.ownsRow base e size v n xs) (q : Nat) : (w.drewN q).ownsRow base e size v n xs := own_below h (below_drewN (Below.refl _ _) q)
theorem own_slice {w : World} {base n : Nat} {e : TypeId} {size : Nat} {v : Value} {xs : List Value} (h : w.ownsRow base e size v n xs) : ∃ A c, v = .slice A n c ∧ n ≤ c := by
  rcases h.2 with ⟨rfl, rfl⟩ | ⟨g, cap, cur, rfl, _, _, h1, _⟩
  · exact ⟨none, 0, rfl, Nat.le_refl _⟩
  · exact ⟨_, cap, rfl, h1⟩
theorem own_ne {w : World} {base : Nat} {e t : TypeId} {size n g : Nat} {v : Value} {xs : List Value} (h : w.ownsRow base e size v n xs) (ht : typ w g = some t) (hne : e ≠ t) : some g ≠ v.ownBlock := by
  rcases h.2 with ⟨rfl, _⟩ | ⟨g', cap, cur, rfl, _, hh, _⟩
  · simp [Value.ownBlock]
  · intro he
    have : g = g' := by simpa [Value.ownBlock] using he
    subst this
    simp [typ, hh, otyp] at ht
    exact hne ht
/-- A store elsewhere. -/
theorem own_set {w : World} {base : Nat} {e : TypeId} {size n : Nat} {v : Value} {xs : List Value} (h : w.ownsRow base e size v n xs) {p : Addr} (hne : some p.block ≠ v.ownBlock) (u : Value) : (w.setCell p u).ownsRow base e size v n xs := by
  obtain ⟨h1, h2⟩ := h
  refine ⟨h1, ?_⟩
  rcases h2 with h2 | ⟨g, cap, cur, rfl, hg, hh, r⟩
  · exact .inl h2
  · exact .inr ⟨g, cap, cur, rfl, hg, by rw [Below.heap_setCell _ _ _ _ (fun e => hne (by rw [e]; rfl))]; exact hh, r⟩
theorem below_grownB {B : Nat} {w W w1 : World} (h : Below B w W) (hB : B ≤ W.heap.size) {row : Option Nat} (hg : W.grownBy w1 row) (hr : ∀ k, row = some k → B ≤ k) : Below B w w1 := h.grown hg hB hr

theorem Keeps.of_grown {base e b0 e' size n : Nat} {W w1 : World} {v : Value} {xs : List Value} (hg : W.grownBy w1 v.ownBlock) (HO : W.ownsRow b0 e' size v n xs) (hb : base ≤ b0) (hne : e' ≠ e) : Keeps base e W w1 :=
  ⟨hg.size, fun b hlt hk => hg.block b hlt (fun he => by
    rcases hk with hk | hk
    · have := own_base HO b he.symm
      omega
    · exact own_ne HO hk hne he)⟩

theorem grown_cell {W w1 : World} {row : Option Nat} (hg : W.grownBy w1 row) {a : Addr} {v : Value} (hc : W.cell? a = some v) (hne : ∀ k, row = some k → k ≠ a.block) : w1.cell? a = some v :=
  (World.cell?_of_block (hg.block a.block (World.block_lt_of_cell? W a hc) (fun e => hne _ e.symm rfl))).trans hc

section
variable {P : Program} {ops : Array Oper} {rest : List Oper} {o : Oper} {a : Act} {Q : Exit → Act → World → Prop}
/-- append(v, x), behind 'at_builtin': the goal's world is the old one and the box of x. -/
theorem append_cells {W : World} (base : Nat) (hgd : o.guard = none) (s x : Operand) (t e : TypeId) (z : Value) (size bytes : Nat)
    (ho : o.op = .call { callee := .builtin .append, args := #[s, x], argTypes := #[t, t] })
    (ht : P.underlying t = some (.slice e)) (hinfo : (P.info? e).map (fun i => (i.zero, i.size, i.bytes)) = some (some z, size, bytes)) (hz : z.cells.size = size) (hs0 : 0 < size) (hb0 : 0 < bytes)
    (v : Value) (n : Nat) (xs ys : List Value) (hs : a.eval s = v) (hx : a.eval x = .slice (some ⟨W.heap.size, 0, none⟩) 1 1) (hys : ys.length = size) (h1 : ∀ u ∈ ys, u.oneCell' = true)
    (HO : W.ownsRow base e size v n xs) (hbase : base ≤ W.heap.size) (hl : (n + 1) * bytes ≤ 140737488355328)
    (h : ∀ v1 w1, w1.ownsRow base e size v1 (n + 1) (xs ++ ys) → W.grownBy w1 v.ownBlock → (∀ k, v1.ownBlock = some k → v.ownBlock = some k ∨ W.heap.size ≤ k) → wpList P ops Q rest (a.put o.dst v1) w1) :
    wpList P ops Q (o :: rest) a (W.alloc (.cells ys.toArray e)) := by
  obtain ⟨i0, hi, hzz⟩ := Option.map_eq_some_iff.1 hinfo
  simp only [Prod.mk.injEq] at hzz
  obtain ⟨hz0, hz1, hz2⟩ := hzz
  have hlen : n + 1 ≤ 140737488355328 := Nat.le_trans (Nat.le_mul_of_pos_right _ hb0) hl
  refine wpList_append_own_at (W.alloc (.cells ys.toArray e)) hgd s x t ho base e i0 z size bytes ht hi hz0 hz1 hz2 hz hs0 v n xs hs (HO.alloc _) ⟨W.heap.size, 0, none⟩ 1 1 ys hx (by rw [hys]; simp)
    (by simpa using World.news_of_block (cs := ys.toArray) (t := e) (fr := (0, 0)) (heap_alloc_new W (.cells ys.toArray e))) h1 (by simp only [maxLen]; omega) hl (by simp; omega) ?_
  intro v1 w1 hown hg _ hat
  refine h v1 w1 hown (World.grownBy.trans (World.grownBy_alloc W _ _) hg) (fun k hk => ?_)
  rcases hat with hat | hat
  · exact .inl (hat ▸ hk)
  · rw [hk] at hat
    injection hat with hat
    exact .inr (by rw [hat]; simp)
end
end Go.Proofs.YtpifbaiibhaklaaGreatDoor
namespace Go.Proofs.YtpifbaiibhaklaaGreatDoor
open Go.RowKit Big
set_option maxHeartbeats 400000
set_option linter.unusedVariables false
set_option linter.unusedSimpArgs false

theorem idx_any (p : Nat → Bool) (hp : ∀ r, 128 ≤ r → p r = true) (s : ByteArray) : ∀ (f pos : Nat), s.size - pos ≤ f → decide (0 ≤ Lib.idxFuncFrom p true s f pos) = (s.data.toList.drop pos).any (fun b => p b.toNat) := by
  intro f
  induction f with
  | zero =>
    intro pos h
    rw [List.drop_eq_nil_of_le (by rw [← Lib.size_eq]; omega)]
    simp [Lib.idxFuncFrom]
  | succ f ih =>
    intro pos h
    unfold Lib.idxFuncFrom
    by_cases hlt : pos < s.size
    · have hl : pos < s.data.toList.length := by rw [← Lib.size_eq]; exact hlt
      rw [if_pos hlt, List.drop_eq_getElem_cons hl, List.any_cons]
      have he : s.data.toList[pos] = s[pos] := rfl
      rw [he]
      rcases Nat.lt_or_ge s[pos].toNat 128 with h1 | h1
      · rw [decode_ascii s pos hlt h1]
        by_cases hpp : p s[pos].toNat = true
        · rw [if_pos hpp, hpp]; simp
        · rw [if_neg hpp, ih (pos + 1) (by omega)]
          simp [hpp]
      · rw [if_pos (hp _ (decode_high s pos hlt h1).1), hp _ h1]
        simp
    · rw [if_neg hlt, List.drop_eq_nil_of_le (by rw [← Lib.size_eq]; omega)]
      simp
theorem contains_any (p : Nat → Bool) (hp : ∀ r, 128 ≤ r → p r = true) (s : ByteArray) : decide (0 ≤ Lib.idxFunc p true s) = s.data.toList.any (fun b => p b.toNat) := by
  have h := idx_any p hp s s.size 0 (by omega)
  rw [List.drop_zero] at h
  exact h

def notDigit (r : Nat) : Bool := decide (r < 48) || decide (57 < r)
def notGraph (r : Nat) : Bool := decide (r < 33) || decide (126 < r)
theorem notDigit_high (r : Nat) (h : 128 ≤ r) : notDigit r = true := by unfold notDigit; simp; omega
theorem notGraph_high (r : Nat) (h : 128 ≤ r) : notGraph r = true := by unfold notGraph; simp; omega
theorem pred242 (w : World) : PredAt Tryz.prog 132 #[] encR notDigit w := by
  intro W r _
  unfold FnGives notDigit encR
  by_cases h : r < 48
  · have h' : decide ((r : Int) < 48) = true := decide_eq_true (by omega)
    go_enter Tryz.func132, Tryz.ntmps132
    go_wp2
    go_ret
    exact ⟨by simp [h], 0, rfl⟩
  · have h' : decide ((r : Int) < 48) = false := decide_eq_false (by omega)
    go_enter Tryz.func132, Tryz.ntmps132
    go_wp2
    go_ret
    exact ⟨by simp [h]; omega, 0, rfl⟩
theorem pred206 (w : World) : PredAt Tryz.prog 81 #[] encR notGraph w := by
  intro W r _
  unfold FnGives notGraph encR
  by_cases h : r < 33
  · have h' : decide ((r : Int) < 33) = true := decide_eq_true (by omega)
    go_enter Tryz.func81, Tryz.ntmps81
    go_wp2
    go_ret
    exact ⟨by simp [h], 0, rfl⟩
  · have h' : decide ((r : Int) < 33) = false := decide_eq_false (by omega)
    go_enter Tryz.func81, Tryz.ntmps81
    go_wp2
    go_ret
    exact ⟨by simp [h]; omega, 0, rfl⟩
theorem Digits_any (s : ByteArray) (w : World) :
    Calls Tryz.prog 80 #[.string s, .func (.func 132) #[] #[]] w fun e w' => e = .returned (.bool (s.data.toList.any fun b => notDigit b.toNat)) ∧ Below w.heap.size w w' := by
  rw [← contains_any notDigit notDigit_high s]
  exact Tryz.strings_ContainsFunc 132 #[] (enters_of Tryz.func132 (by kernel_rfl) rfl) notDigit s w (pred242 w)
theorem Graph_any (s : ByteArray) (w : World) :
    Calls Tryz.prog 80 #[.string s, .func (.func 81) #[] #[]] w fun e w' => e = .returned (.bool (s.data.toList.any fun b => notGraph b.toNat)) ∧ Below w.heap.size w w' := by
  rw [← contains_any notGraph notGraph_high s]
  exact Tryz.strings_ContainsFunc 81 #[] (enters_of Tryz.func81 (by kernel_rfl) rfl) notGraph s w (pred206 w)
theorem bytesWorld_below (w : World) (e : TypeId) (s : ByteArray) : Below w.heap.size w (Lib.bytesWorld w e s) :=
  ⟨rfl, rfl, rfl, by rw [Lib.bytesWorld_size]; omega, fun i hi => Lib.bytesWorld_at_old w e s i hi⟩
/-- strconv.ParseUint of one to nine digits. -/
theorem ParseUint_any (s : ByteArray) (w : World) (h0 : s.data.toList ≠ []) (h : s.data.toList.all isDig = true) (hl : s.data.toList.length ≤ 9) :
    Calls Tryz.prog 133 #[.string s, .int .i64 10, .int .i64 32] w fun e w' => e = .returned (.tuple #[.int .u64 (natOf s.data.toList : Nat), .nilIface]) ∧ Below w.heap.size w w' :=
  (Tryz.strconv_ParseUint_10_at32_ok s (by rw [Lib.size_eq]; omega) _ (parseB_digits _ h0 h hl) w).mono fun e w' ⟨he, hw⟩ => ⟨he, by
    rcases hw with rfl | rfl
    · exact Below.refl _ _
    · exact bytesWorld_below _ _ _⟩
end Go.Proofs.YtpifbaiibhaklaaGreatDoor
namespace Go.Proofs.YtpifbaiibhaklaaGreatDoor
open Go.RowKit Big
set_option maxHeartbeats 400000
set_option linter.unusedVariables false
set_option linter.unusedSimpArgs false

theorem info9 : (Tryz.prog.info? 9).map (fun i => (i.zero, i.size, i.bytes)) = some (some (.string ByteArray.empty), 1, 16) := by kernel_rfl
def strs (ss : List ByteArray) : List Value := ss.map .string

theorem below_grownB2 {B : Nat} {w w1 w2 : World} (h : Below B w w1) (k : Below B w1 w2) : Below B w w2 := h.trans k
theorem below_setCells {B g : Nat} {w : World} (vs : List Value) : ∀ (o : Nat) (W : World), Below B w W → B ≤ g → Below B w (W.setCells g o vs) := by
  induction vs with
  | nil => exact fun _ _ h _ => h
  | cons v t ih => exact fun o W h hB => ih (o + 1) _ (h.setCell (p := ⟨g, o, none⟩) hB v) hB
/-- slices.Reverse of strings: the cells in the other order; all else is as it was. -/
theorem Reverse_any (g cap : Nat) (ss : List ByteArray) (w : World) (hn : ss.length ≤ 1099511627776) (hc : ∀ j u, (strs ss)[j]? = some u → w.cell? ((⟨g, 0, none⟩ : Addr).add j) = some u) (hf : ∀ j, w.frozen? ⟨g, j, none⟩ = false) :
    Calls Tryz.prog 97 #[.slice (some ⟨g, 0, none⟩) ss.length cap] w fun e w' => e = .returned (.tuple #[]) ∧ (∀ B, B ≤ g → B ≤ w.heap.size → Below B w w') ∧
      (∀ (j : Nat) x, ss.reverse[j]? = some x → w'.cell? ⟨g, 0 + j, none⟩ = some (.string x)) ∧ (∀ a : Addr, a.block ≠ g → w'.cell? a = w.cell? a) := by
  refine (Tryz.slices_Reverse_string_cells g 0 ss.length cap (fun i => ss.getD i ByteArray.empty) w (by omega) (fun i hi => ?_) (fun j _ => hf _)).mono ?_
  · have := hc i (.string (ss.getD i ByteArray.empty)) (by simp [strs, List.getElem?_eq_getElem hi, List.getD_eq_getElem?_getD])
    rw [add_plain] at this
    rw [Nat.zero_add]
    exact this
  · rintro e w' ⟨he, q, rfl⟩
    have hl : (Lib.strsOf (fun i => ss.getD i ByteArray.empty) ss.length) = ss.map (·.data.toList) := by
      apply List.ext_getElem
      · simp [Lib.strsOf]
      · intro i h1 h2
        have hi : i < ss.length := by simpa using h2
        simp [Lib.strsOf, hi]
    have hm : (Lib.strsOf (fun i => ss.getD i ByteArray.empty) ss.length).reverse.map encStr = strs ss.reverse := by
      rw [hl, ← List.map_reverse, List.map_map]
      unfold strs
      refine List.map_congr_left fun x _ => ?_
      simp [encStr]
    rw [hm]
    refine ⟨he, fun B hB hW => ?_, fun j x hx => ?_, fun a ha => ?_⟩
    · exact below_setCells (strs ss.reverse) 0 _ (below_drewN (Below.refl B w) q) hB
    · have hj : j < (strs ss.reverse).length := by have := (List.getElem?_eq_some_iff.1 hx).1; simpa [strs] using this
      rw [World.cell?_setCells_in g (strs ss.reverse) 0 _ (fun i hi => ?_) j hj]
      · simp only [strs, List.getElem_map]
        rw [(List.getElem?_eq_some_iff.1 hx).2]
      · have hi' : i < ss.length := by simpa [strs] using hi
        have := hc i (.string (ss.getD i ByteArray.empty)) (by simp [strs, List.getElem?_eq_getElem hi', List.getD_eq_getElem?_getD])
        rw [add_plain] at this
        rw [Nat.zero_add, World.cell?_drewN, this]
        rfl
    · exact World.cell?_setCells_out g _ _ _ _ (fun e => absurd e ha)
set_option maxRecDepth 100000 in
theorem Text_any (p : Bool) (A : Option Addr) (n c : Nat) (x : Int) (w : World) (base : Nat) (hB : base ≤ w.heap.size) (hg : Good w) (h : IsInt base w p A n c x) (hx : lim x ≤ 1073741824) :
    Calls Tryz.prog 84 #[.agg #[.bool p, .slice A n c]] w fun e w' => ∃ s : ByteArray, e = .returned (.string s) ∧ s.data.toList = Lib.itoa x ∧ Below w.heap.size w w' := by
  have hl2 := dec_len_lim x
  rw [← h.len] at hx
  obtain ⟨l, g1, t1, s1, rfl⟩ := h
  have hl := g1.len
  have G := Lib.hid hg
  have L1 := Lib.hid hl
  by_cases h0 : n = 0
  · subst h0
    obtain rfl := List.eq_nil_of_length_eq_zero hl
    clear hl g1 t1 s1 hg
    go_enter Tryz.func84, Tryz.ntmps84
    go_wp2
    go_ret
    exact ⟨_, rfl, by rw [show sgn p (val []) = ((0 : Nat) : Int) by cases p <;> rfl, itoa_sgn_false, dec_small (by decide)]; rfl, (by repeat (first | exact Below.refl _ _ | with_reducible assumption | apply below_alloc | apply below_drewN | apply below_drew | refine below_set ?_ (by simp; try omega) _ | refine below_then ?_ (by with_reducible assumption)))⟩
  · have hp := trim_pos g1.limbs t1 (by rintro rfl; exact h0 hl.symm)
    have hp2 := pow_pos (l.length - 1)
    have hp : 0 < val l := by omega
    clear hp2
    obtain ⟨N, hN⟩ : ∃ N : Nat, val l = N := ⟨(val l).toNat, by omega⟩
    have hN0 : N ≠ 0 := by omega
    have hz : ((n : Int) == 0) = false := beq_eq_false_iff_ne.2 (by omega)
    have hNl : (Lib.decDigits N).length ≤ 10 * n + 1 := by
      have e1 : (sgn p (val l)).natAbs = N := by unfold sgn; split <;> omega
      have e2 : lim (sgn p (val l)) = n := by
        unfold sgn
        split
        · rw [lim_neg, lim_val g1.limbs t1, hl]
        · rw [lim_val g1.limbs t1, hl]
      rw [e1, e2] at hl2
      exact hl2
    clear hl hl2
    have HNl := Lib.hid hNl
    have HN := Lib.hid hN
    have T1 := Lib.hid t1
    clear hNl hN t1 s1 hp
    go_enter Tryz.func84, Tryz.ntmps84
    go_wp2
    go_loopg [3, 4] N (fun M v q wr => ∃ (B : Option Addr) (k c2 : Nat) (l2 : List Int) (ss : List ByteArray), k ≤ n ∧ q = .slice B k c2 ∧ IsMag base wr B k c2 l2 ∧ Hid (Trim l2) ∧ Hid (val l2 = (M : Nat)) ∧
      Hid (wr.ownsRow (w.heap.size + 1) 9 1 v ss.length (strs ss)) ∧ Hid (Groups (ss.map (·.data.toList)) M N) ∧ Below w.heap.size w wr ∧ wr.cell? ⟨w.heap.size, 0, none⟩ = some (.bool p))
    case atStart => exact ⟨A, n, c, l, [], Nat.le_refl _, rfl, g1.below (by repeat (first | exact Below.refl _ _ | with_reducible assumption | apply below_alloc | apply below_drewN | apply below_drew | refine below_set ?_ (by simp; try omega) _ | refine below_then ?_ (by with_reducible assumption))), T1, HN, Lib.hid (own_nil _ _ _ _), Lib.hid (Groups.start N hN0), (by repeat (first | exact Below.refl _ _ | with_reducible assumption | apply below_alloc | apply below_drewN | apply below_drew | refine below_set ?_ (by simp; try omega) _ | refine below_then ?_ (by with_reducible assumption))), by simp [go_sem]⟩
    case round =>
      obtain ⟨B, k, c2, l2, ss, hk, rfl, hm, ht, hv, hown, hgr, hb, c0⟩ := hrel
      have hcnt : ss.length ≤ 10 * n + 1 := by have := hgr.out.count; have := HNl.out; simp only [List.length_map] at *; omega
      have Hb := Lib.hid hb
      have Hm := Lib.hid hm
      have L2 := Lib.hid hm.len
      by_cases hk0 : 0 < k
      · have gk0 : gk ≠ 0 := by
          have := trim_pos hm.limbs ht.out (by rintro rfl; have := hm.len; simp at this; omega)
          have := pow_pos (l2.length - 1)
          have := hv.out
          omega
        have HS := Lib.hid (fun W (hW : Below wr.heap.size wr W) => short_any B k c2 l2 1000000000 W base (Nat.le_trans hB (Nat.le_trans hb.size hW.size)) (hm.below hW) (by omega) (by decide) (by decide))
        clear hb hm
        go_wp2_with fail
        refine (HS.out _ (by repeat (first | exact Below.refl _ _ | with_reducible assumption | apply below_alloc | apply below_drewN | apply below_drew | refine below_set ?_ (by simp; try omega) _ | refine below_then ?_ (by with_reducible assumption)))).mono ?_
        rintro e w1 ⟨B', k', c', r, rfl, hi, ht', hk', hv', hb1⟩
        have c1 := keptc hb1 _ _ _ c0
        have Hi := Lib.hid hi
        have Ht' := Lib.hid ht'
        have B1 := Lib.hid (below_then Hb.out hb1)
        have G1 := Lib.hid ((G.out.below Hb.out).below hb1)
        have O1 := Lib.hid (own_below hown.out hb1)
        have HR := Lib.hid (show val l2 % 1000000000 = ((gk % 1000000000 : Nat) : Int) by rw [hv.out]; omega)
        have HV := Lib.hid (show val r = ((gk / 1000000000 : Nat) : Int) by rw [hv', hv.out]; omega)
        have hk1 : (k' = 0) ↔ (gk / 1000000000 = 0) := by
          have e1 := trim_zero hi.limbs ht'
          rw [HV.out] at e1
          have e2 := hi.len
          constructor
          · rintro rfl
            have := e1.2 (List.eq_nil_of_length_eq_zero e2)
            omega
          · intro e
            have := e1.1 (by omega)
            rw [this] at e2
            simpa using e2.symm
        have HK := Lib.hid hk1
        clear hi ht' hv' hb1 HS hown hk1 c0
        go_wp2_with fail
        rw [HR.out]
        refine (Itoa_any ((gk % 1000000000 : Nat) : Int) (by omega) (by omega) _ G1.out).mono ?_
        rintro e w2 ⟨s1, rfl, hs1, hb2⟩
        have hlen : s1.size ≤ 9 := by
          have e1 : s1.size = s1.data.toList.length := Lib.size_eq _
          rw [e1, hs1, itoa_sgn_false]
          exact dec_len_le 9 _ (by decide) (Nat.mod_lt _ (by decide))
        have c2' := keptc hb2 _ _ _ c1
        have S1 := Lib.hid hs1
        have B2 := Lib.hid (below_then B1.out hb2)
        have G2 := Lib.hid (G1.out.below hb2)
        have O2 := Lib.hid (own_below O1.out hb2)
        have I2 := Lib.hid (Hi.out.below hb2)
        clear hs1 hb2 O1 B1 G1 c1
        by_cases hkz : 0 < k'
        · have hq : gk / 1000000000 ≠ 0 := fun e => by have := HK.out.2 e; omega
          go_wp2_with fail
          refine (Repeat_zero (9 - (s1.size : Int)) (by omega) (by omega) _).mono ?_
          rintro e w3 ⟨s2, rfl, hs2, hb3⟩
          have hlen2 : s2.size ≤ 9 := by rw [Lib.size_eq, hs2, List.length_replicate]; omega
          have c3 := keptc hb3 _ _ _ c2'
          have S2 := Lib.hid hs2
          have B3 := Lib.hid (below_then B2.out hb3)
          have O3 := Lib.hid (own_below O2.out hb3)
          have I3 := Lib.hid (I2.out.below hb3)
          have S12 := Lib.hid (show (s2 ++ s1).data.toList = List.replicate (9 - (Lib.decDigits (gk % 1000000000)).length) 48 ++ Lib.decDigits (gk % 1000000000) by
            have e2 : s1.size = (Lib.decDigits (gk % 1000000000)).length := by rw [Lib.size_eq, S1.out, itoa_sgn_false]
            rw [ByteArray.toList_data_append, hs2, S1.out, itoa_sgn_false, ← e2]
            congr 2
            omega)
          clear hs2 hb3 O2 I2 B2 G2 c2'
          go_wp2_with (at_builtin; go_must (refine append_cells (w.heap.size + 1) rfl (.tmp 35) (.tmp 37) 81 9 (.string ByteArray.empty) 1 16 rfl Tryz.underlying81 info9 rfl (by decide) (by decide) u3 ss.length (strs ss) [.string (s2 ++ s1)] rfl rfl rfl (by simp [Value.oneCell']) O3.out (World.block_lt_of_cell? _ _ c3) (by omega) ?_); intro v1 w4 hown4 hgr4 _)
          have c4 := grown_cell hgr4 c3 (fun k hk => by have := own_base O3.out k hk; dsimp only; omega)
          have B4 := Lib.hid (below_grownB B3.out B3.out.size hgr4 (fun k hk => by have := own_base O3.out k hk; omega))
          have I4 := Lib.hid (I3.out.keeps (Keeps.of_grown hgr4 O3.out (by omega) (by decide)))
          have O4 := Lib.hid hown4
          clear hown4 hgr4 O3 I3 B3 c3
          go_wp2_with fail
          go_roundg (gk / 1000000000)
          case measure => omega
          case rel => exact ⟨B', k', c', r, ss ++ [s2 ++ s1], by omega, rfl, I4.out, Ht', HV, Lib.hid (by simpa [strs] using O4.out), Lib.hid (by rw [List.map_append, List.map_singleton, S12.out]; exact hgr.out.more hq), B4.out, c4⟩
        · obtain rfl : k' = 0 := by omega
          go_wp2_with (at_builtin; go_must (refine append_cells (w.heap.size + 1) rfl (.tmp 35) (.tmp 37) 81 9 (.string ByteArray.empty) 1 16 rfl Tryz.underlying81 info9 rfl (by decide) (by decide) u3 ss.length (strs ss) [.string s1] rfl rfl rfl (by simp [Value.oneCell']) O2.out (World.block_lt_of_cell? _ _ c2') (by omega) ?_); intro v1 w4 hown4 hgr4 _)
          have c4 := grown_cell hgr4 c2' (fun k hk => by have := own_base O2.out k hk; dsimp only; omega)
          have B4 := Lib.hid (below_grownB B2.out B2.out.size hgr4 (fun k hk => by have := own_base O2.out k hk; omega))
          have I4 := Lib.hid (I2.out.keeps (Keeps.of_grown hgr4 O2.out (by omega) (by decide)))
          have O4 := Lib.hid hown4
          clear hown4 hgr4 O2 I2 B2 c2'
          go_wp2_with fail
          go_roundg (gk / 1000000000)
          case measure => omega
          case rel => exact ⟨B', 0, c', r, ss ++ [s1], by omega, rfl, I4.out, Ht', HV, Lib.hid (by simpa [strs] using O4.out), Lib.hid (by rw [List.map_append, List.map_singleton, S1.out, itoa_sgn_false]; exact hgr.out.last gk0 (by first | exact HK.out.1 rfl | exact HK.out.1 trivial | exact HK.out)), B4.out, c4⟩
      · obtain rfl : k = 0 := by omega
        have hs0 : gk = 0 := by
          have := (trim_zero hm.limbs ht.out).2 (List.eq_nil_of_length_eq_zero hm.len)
          have := hv.out
          omega
        subst hs0
        have hne : 0 < ss.length := by
          rcases Nat.eq_zero_or_pos ss.length with e | e
          · have e2 := List.eq_nil_of_length_eq_zero e
            subst e2
            have h1 := hgr.out.text
            have h2 := dec_len_pos N
            rw [h1] at h2
            simp at h2
          · exact e
        obtain ⟨g, cap, hv3, hgb, hgl⟩ := hown.out.form hne
        have hcap : ss.length ≤ cap := by
          obtain ⟨A', c', e, hle⟩ := own_slice hown.out
          rw [hv3] at e
          injection e with _ _ e
          omega
        subst hv3
        have hc := hown.out.cells (g := g) rfl
        have hf : ∀ j, wr.frozen? ⟨g, j, none⟩ = false := by
          rcases hown.out.2 with ⟨e, _⟩ | ⟨g', cap', cur, e, _, hh, _⟩
          · cases e
          · intro j
            injection e with e _ _
            injection e with e
            injection e with e _ _
            subst e
            simp [World.frozen?, hh]
        have HR := Lib.hid (Reverse_any g cap ss wr (by omega) hc hf)
        clear hc hf hb hm hown
        go_wp2_with fail
        refine HR.out.mono ?_
        rintro e w2 ⟨rfl, hb2, hc2, hx2⟩
        have hT : (Lib.join (ss.reverse.map (·.data.toList)) (⟨#[]⟩ : ByteArray).data.toList) = Lib.decDigits N := by
          have h1 := hgr.out.text
          rw [if_pos rfl, List.nil_append] at h1
          rw [h1, ← List.map_reverse]
          exact join_nil _
        have Hb2 := Lib.hid (below_grownB2 Hb.out (hb2 w.heap.size (by omega) Hb.out.size))
        have c2 := (hx2 ⟨w.heap.size, 0, none⟩ (by dsimp only; omega)).trans c0
        have hgl2 : g < w2.heap.size := World.block_lt_of_cell? _ _ (hc2 0 _ (List.getElem?_eq_getElem (by rw [List.length_reverse]; exact hne)))
        have HJ := Lib.hid (Tryz.strings_Join g 0 cap ss.reverse ⟨#[]⟩ w2 hc2 hgl2 (by rw [List.length_reverse]; omega) (by rw [List.length_reverse]; exact hcap) (by rw [hT]; have := HNl.out; omega))
        rw [hT, List.length_reverse] at HJ
        have hsz : (⟨(Lib.decDigits N).toArray⟩ : ByteArray).size ≤ 10 * n + 1 := by have := HNl.out; rw [Lib.size_eq]; simpa using this
        have hX : Lib.itoa (sgn p (val l)) = if p then 45 :: Lib.decDigits N else Lib.decDigits N := by
          rw [HN.out]
          cases p
          · exact itoa_sgn_false N
          · exact itoa_sgn_true N hN0
        have HX := Lib.hid hX
        have hD : (⟨(Lib.decDigits N).toArray⟩ : ByteArray).data.toList = Lib.decDigits N := rfl
        have HD := Lib.hid hD
        generalize (⟨(Lib.decDigits N).toArray⟩ : ByteArray) = T at HJ hsz HD
        clear hc2 hx2 hb2 hT c0 HR hX hD
        go_wp2_with fail
        refine HJ.out.mono ?_
        rintro e w3 ⟨rfl, hb3⟩
        have c3 := keptc hb3 _ _ _ c2
        have Hb3 := Lib.hid (below_then Hb2.out hb3)
        clear hb3 c2
        cases p
        · go_wp2_with fail
          go_ret
          exact ⟨T, rfl, by rw [HX.out, HD.out]; rfl, Hb3.out⟩
        · go_wp2_with fail
          go_ret
          exact ⟨_, rfl, by rw [HX.out, ByteArray.toList_data_append, HD.out]; rfl, Hb3.out⟩
end Go.Proofs.YtpifbaiibhaklaaGreatDoor
namespace Go.Proofs.YtpifbaiibhaklaaGreatDoor
open Go.RowKit Big
set_option maxHeartbeats 400000
set_option linter.unusedVariables false
set_option linter.unusedSimpArgs false

/-- An integer in memory and an error number. -/
def RetInt2 (base : Nat) (w : World) (z er : Int) (e : Ending) (w' : World) : Prop := ∃ p A n c, e = .returned (.tuple #[.agg #[.bool p, .slice A n c], .int .i64 er]) ∧ IsInt base w' p A n c z ∧ Below w.heap.size w w'
theorem IsInt.zero (base : Nat) (w : World) : IsInt base w false none 0 0 0 := ⟨[], ⟨rfl, Nat.le_refl _, Limbs.nil, .inl rfl⟩, .inl rfl, by simp, rfl⟩
theorem dig_notDigit (d : List UInt8) : d.any (fun b => notDigit b.toNat) = !d.all isDig := by
  induction d with
  | nil => rfl
  | cons c t ih =>
    rw [List.any_cons, List.all_cons, ih]
    have : notDigit c.toNat = !isDig c := by
      unfold notDigit isDig
      by_cases h1 : c.toNat < 48
      · simp [h1]
        try omega
      · by_cases h2 : 57 < c.toNat
        · simp [h2]
        · simp [h1, h2]
          try omega
    rw [this]
    cases isDig c <;> simp

theorem CutMinus_any (s : ByteArray) (w : World) : Calls Tryz.prog 131 #[.string s, .string ⟨#[45]⟩] w fun e w' => ∃ D : ByteArray, e = .returned (.tuple #[.string D, .bool (Lib.hasPrefix s.data.toList [45])]) ∧ D.data.toList = Lib.trimPrefix s.data.toList [45] ∧ w' = w :=
  (Tryz.strings_CutPrefix s ⟨#[45]⟩ w).mono fun e w' ⟨he, hw⟩ => ⟨_, he, by simp, hw⟩
theorem toList_ne {D : ByteArray} (h : D.data.toList ≠ []) : ¬ D.toList = [] := by rw [ByteArray.toList_eq]; exact h
theorem parse_long (base : Nat) (s : ByteArray) (w : World) (hB : base ≤ w.heap.size) (hs : 65536 < s.size) (hs2 : s.size ≤ 9223372036854775807) :
    Calls Tryz.prog 107 #[.string s] w (RetInt2 base w 0 5) := by
  go_enter Tryz.func107, Tryz.ntmps107
  go_wp2_with fail
  refine bodyPost_ret (v := .tuple #[.agg #[.bool false, .slice none 0 0], .int .i64 5]) (by simp [results, Tryz.results107, go_sem]) rfl ⟨false, none, 0, 0, rfl, IsInt.zero _ _, (by repeat (first | exact Below.refl _ _ | with_reducible assumption | apply below_alloc | apply below_drewN | apply below_drew | refine below_set ?_ (by simp; try omega) _ | refine below_then ?_ (by with_reducible assumption)))⟩
theorem parse_bad (base : Nat) (s : ByteArray) (w : World) (hB : base ≤ w.heap.size) (hs : s.size ≤ 65536)
    (h : Lib.trimPrefix s.data.toList [45] = [] ∨ (Lib.trimPrefix s.data.toList [45]).all isDig = false) :
    Calls Tryz.prog 107 #[.string s] w (RetInt2 base w 0 14) := by
  have h1 := Lib.hid (fun W => CutMinus_any s W)
  generalize Lib.trimPrefix s.data.toList [45] = d at h h1
  generalize Lib.hasPrefix s.data.toList [45] = neg at h1
  by_cases h0 : d = []
  · subst h0
    clear h
    go_enter Tryz.func107, Tryz.ntmps107
    go_wp2_with fail
    refine (h1.out _).mono ?_
    rintro e w' ⟨D, rfl, hD, rfl⟩
    obtain rfl : D = ⟨#[]⟩ := by cases D with | mk a => simp at hD; subst hD; rfl
    clear hD
    go_wp2_with fail
    refine bodyPost_ret (v := .tuple #[.agg #[.bool false, .slice none 0 0], .int .i64 14]) (by simp [results, Tryz.results107, go_sem]) rfl ⟨false, none, 0, 0, rfl, IsInt.zero _ _, (by repeat (first | exact Below.refl _ _ | with_reducible assumption | apply below_alloc | apply below_drewN | apply below_drew | refine below_set ?_ (by simp; try omega) _ | refine below_then ?_ (by with_reducible assumption)))⟩
  · have h : d.all isDig = false := by simpa [h0] using h
    go_enter Tryz.func107, Tryz.ntmps107
    go_wp2_with fail
    refine (h1.out _).mono ?_
    rintro e w' ⟨D, rfl, hD, rfl⟩
    have hne := toList_ne (D := D) (by rw [hD]; exact h0)
    have H2 := Lib.hid (Digits_any D)
    have ha : (D.data.toList.any fun b => notDigit b.toNat) = true := by rw [hD, dig_notDigit, h]; rfl
    rw [ha] at H2
    clear hD ha h
    go_wp2_with fail
    refine (H2.out _).mono ?_
    rintro e w2 ⟨rfl, hb⟩
    have r0 := keptc hb (w.heap.size) 0 (.bool false) (by first | with_reducible assumption | (simp [go_sem]; done)); have r1 := keptc hb (w.heap.size) 1 (.slice none 0 0) (by first | with_reducible assumption | (simp [go_sem]; done)); have fr0 := keptF hb (g := w.heap.size) (o := 0) (v := .bool false) (by first | with_reducible assumption | (simp [go_sem]; done)) (by first | with_reducible assumption | (simp [go_sem]; done)); have fr1 := keptF hb (g := w.heap.size) (o := 1) (v := .slice none 0 0) (by first | with_reducible assumption | (simp [go_sem]; done)) (by first | with_reducible assumption | (simp [go_sem]; done)); have Tr := Lib.hid (keptT hb (g := w.heap.size) (o := 0) (v := .bool false) (by first | with_reducible assumption | (simp [go_sem]; done)) (e := 88) (by first | with_reducible assumption | exact Hid.out (by with_reducible assumption) | (simp [typ_alloc, typ_drewN, typ_drew, otyp_cells]; done)))
    have B1 := Lib.hid hb
    clear hb
    go_wp2_with fail
    refine bodyPost_ret (v := .tuple #[.agg #[.bool false, .slice none 0 0], .int .i64 14]) (by simp [results, Tryz.results107, go_sem, r0, r1]) rfl ⟨false, none, 0, 0, rfl, IsInt.zero _ _, ?_⟩
    exact below_set (below_set (below_then (by repeat (first | exact Below.refl _ _ | with_reducible assumption | apply below_alloc | apply below_drewN | apply below_drew | refine below_set ?_ (by simp; try omega) _ | refine below_then ?_ (by with_reducible assumption))) B1.out) (by simp) _) (by simp) _
theorem parse_form (base : Nat) (s : ByteArray) (w : World) (hB : base ≤ w.heap.size) (hs : s.size ≤ 65536)
    (h0 : Lib.trimPrefix s.data.toList [45] ≠ []) (h : (Lib.trimPrefix s.data.toList [45]).all isDig = true) (hz : (Lib.trimPrefix s.data.toList [45]).head? = some 48)
    (hlong : 1 < (Lib.trimPrefix s.data.toList [45]).length ∨ Lib.hasPrefix s.data.toList [45] = true) :
    Calls Tryz.prog 107 #[.string s] w (RetInt2 base w 0 3) := by
  have h1 := Lib.hid (fun W => CutMinus_any s W)
  generalize Lib.trimPrefix s.data.toList [45] = d at h h1 h0 hz hlong
  generalize Lib.hasPrefix s.data.toList [45] = neg at h1 hlong
  go_enter Tryz.func107, Tryz.ntmps107
  go_wp2_with fail
  refine (h1.out _).mono ?_
  rintro e w' ⟨D, rfl, hD, rfl⟩
  have hne := toList_ne (D := D) (by rw [hD]; exact h0)
  have H2 := Lib.hid (Digits_any D)
  have ha : (D.data.toList.any fun b => notDigit b.toNat) = false := by rw [hD, dig_notDigit, h]; rfl
  rw [ha] at H2
  have hsz : 0 < D.size := by rw [Lib.size_eq, hD]; exact List.length_pos_iff.2 h0
  have hx : D[0].toNat = 48 := by
    have e1 : D.data.toList[0]? = some 48 := by rw [hD, ← List.head?_eq_getElem?]; exact hz
    have e2 : D.data.toList[0]? = some D[0] := List.getElem?_eq_getElem (by rw [← Lib.size_eq]; exact hsz)
    rw [e2] at e1
    injection e1 with e1
    rw [e1]
    rfl
  have HX := Lib.hid hx
  have hlong : 1 < D.size ∨ neg = true := by rw [Lib.size_eq, hD]; exact hlong
  have hem : D.toList.isEmpty = false := by rw [List.isEmpty_eq_false_iff]; exact hne
  have hx' : ((D[0].toNat : Int) == 48) = true := by rw [hx]; rfl
  clear hD ha h hx hne h0 hz
  by_cases hD1 : 1 < D.size
  · clear hlong
    go_wp2_with fail
    refine (H2.out _).mono ?_
    rintro e w2 ⟨rfl, hb⟩
    have r0 := keptc hb (w.heap.size) 0 (.bool false) (by first | with_reducible assumption | (simp [go_sem]; done)); have r1 := keptc hb (w.heap.size) 1 (.slice none 0 0) (by first | with_reducible assumption | (simp [go_sem]; done)); have fr0 := keptF hb (g := w.heap.size) (o := 0) (v := .bool false) (by first | with_reducible assumption | (simp [go_sem]; done)) (by first | with_reducible assumption | (simp [go_sem]; done)); have fr1 := keptF hb (g := w.heap.size) (o := 1) (v := .slice none 0 0) (by first | with_reducible assumption | (simp [go_sem]; done)) (by first | with_reducible assumption | (simp [go_sem]; done)); have Tr := Lib.hid (keptT hb (g := w.heap.size) (o := 0) (v := .bool false) (by first | with_reducible assumption | (simp [go_sem]; done)) (e := 88) (by first | with_reducible assumption | exact Hid.out (by with_reducible assumption) | (simp [typ_alloc, typ_drewN, typ_drew, otyp_cells]; done)))
    have B1 := Lib.hid hb
    clear hb
    go_wp2_with fail
    refine bodyPost_ret (v := .tuple #[.agg #[.bool false, .slice none 0 0], .int .i64 3]) (by simp [results, Tryz.results107, go_sem, r0, r1]) rfl ⟨false, none, 0, 0, rfl, IsInt.zero _ _, ?_⟩
    exact below_set (below_set (below_then (by repeat (first | exact Below.refl _ _ | with_reducible assumption | apply below_alloc | apply below_drewN | apply below_drew | refine below_set ?_ (by simp; try omega) _ | refine below_then ?_ (by with_reducible assumption))) B1.out) (by simp) _) (by simp) _
  · obtain rfl : neg = true := by simpa [hD1] using hlong
    clear hlong
    go_wp2_with fail
    refine (H2.out _).mono ?_
    rintro e w2 ⟨rfl, hb⟩
    have r0 := keptc hb (w.heap.size) 0 (.bool false) (by first | with_reducible assumption | (simp [go_sem]; done)); have r1 := keptc hb (w.heap.size) 1 (.slice none 0 0) (by first | with_reducible assumption | (simp [go_sem]; done)); have fr0 := keptF hb (g := w.heap.size) (o := 0) (v := .bool false) (by first | with_reducible assumption | (simp [go_sem]; done)) (by first | with_reducible assumption | (simp [go_sem]; done)); have fr1 := keptF hb (g := w.heap.size) (o := 1) (v := .slice none 0 0) (by first | with_reducible assumption | (simp [go_sem]; done)) (by first | with_reducible assumption | (simp [go_sem]; done)); have Tr := Lib.hid (keptT hb (g := w.heap.size) (o := 0) (v := .bool false) (by first | with_reducible assumption | (simp [go_sem]; done)) (e := 88) (by first | with_reducible assumption | exact Hid.out (by with_reducible assumption) | (simp [typ_alloc, typ_drewN, typ_drew, otyp_cells]; done)))
    have B1 := Lib.hid hb
    clear hb
    go_wp2_with fail
    refine bodyPost_ret (v := .tuple #[.agg #[.bool false, .slice none 0 0], .int .i64 3]) (by simp [results, Tryz.results107, go_sem, r0, r1]) rfl ⟨false, none, 0, 0, rfl, IsInt.zero _ _, ?_⟩
    exact below_set (below_set (below_then (by repeat (first | exact Below.refl _ _ | with_reducible assumption | apply below_alloc | apply below_drewN | apply below_drew | refine below_set ?_ (by simp; try omega) _ | refine below_then ?_ (by with_reducible assumption))) B1.out) (by simp) _) (by simp) _
end Go.Proofs.YtpifbaiibhaklaaGreatDoor
namespace Go.Proofs.YtpifbaiibhaklaaGreatDoor
open Go.RowKit Big
set_option maxHeartbeats 1000000
set_option linter.unusedVariables false
set_option linter.unusedSimpArgs false

def p10 (i : Nat) : Int := ((10 ^ i : Nat) : Int)
theorem p10_zero : p10 0 = 1 := rfl
theorem p10_succ (i : Nat) : p10 (i + 1) = p10 i * 10 := by unfold p10; rw [Nat.pow_succ]; omega
theorem p10_bd {i : Nat} (h : i ≤ 9) : 0 < p10 i ∧ p10 i ≤ 1000000000 := by
  unfold p10
  have h1 : 10 ^ i ≤ 10 ^ 9 := Nat.pow_le_pow_right (by decide) h
  have h2 : 0 < 10 ^ i := Nat.pow_pos (by decide)
  constructor
  · omega
  · have : (10 : Nat) ^ 9 = 1000000000 := by decide
    omega

set_option maxRecDepth 100000 in
theorem parse_ok (base : Nat) (s : ByteArray) (w : World) (hB : base ≤ w.heap.size) (hs : s.size ≤ 65536)
    (h0 : Lib.trimPrefix s.data.toList [45] ≠ []) (h : (Lib.trimPrefix s.data.toList [45]).all isDig = true)
    (hz : ¬ ((Lib.trimPrefix s.data.toList [45]).head? = some 48 ∧ (1 < (Lib.trimPrefix s.data.toList [45]).length ∨ Lib.hasPrefix s.data.toList [45] = true))) :
    Calls Tryz.prog 107 #[.string s] w (RetInt2 base w (sgn (Lib.hasPrefix s.data.toList [45]) (natOf (Lib.trimPrefix s.data.toList [45]))) 0) := by
  have hsl : (Lib.trimPrefix s.data.toList [45]).length ≤ 65536 := by
    have : (Lib.trimPrefix s.data.toList [45]).length ≤ s.data.toList.length := by unfold Lib.trimPrefix; split <;> simp
    rw [← Lib.size_eq] at this
    omega
  have h1 := Lib.hid (fun W => CutMinus_any s W)
  generalize Lib.trimPrefix s.data.toList [45] = d at h h1 h0 hz hsl
  generalize Lib.hasPrefix s.data.toList [45] = neg at h1 hz
  go_enter Tryz.func107, Tryz.ntmps107
  go_wp2_with fail
  refine (h1.out _).mono ?_
  rintro e w' ⟨D, rfl, hD, rfl⟩
  have hne := toList_ne (D := D) (by rw [hD]; exact h0)
  have H2 := Lib.hid (Digits_any D)
  have ha : (D.data.toList.any fun b => notDigit b.toNat) = false := by rw [hD, dig_notDigit, h]; rfl
  rw [ha] at H2
  have hsz : 0 < D.size := by rw [Lib.size_eq, hD]; exact List.length_pos_iff.2 h0
  have hsz2 : D.size ≤ 65536 := by rw [Lib.size_eq, hD]; exact hsl
  have hz' : D[0].toNat = 48 → D.size ≤ 1 ∧ neg = false := by
    intro e
    have e2 : D.data.toList[0]? = some D[0] := List.getElem?_eq_getElem (by rw [← Lib.size_eq]; exact hsz)
    have e3 : d.head? = some 48 := by
      rw [List.head?_eq_getElem?, ← hD, e2]
      congr 1
      exact UInt8.toNat_inj.1 e
    have e4 : ¬ (1 < d.length ∨ neg = true) := fun hh => hz ⟨e3, hh⟩
    rw [Lib.size_eq, hD]
    constructor
    · omega
    · cases neg
      · rfl
      · exact absurd (Or.inr rfl) e4
  have hem : D.toList.isEmpty = false := by rw [List.isEmpty_eq_false_iff]; exact hne
  have HD := Lib.hid hD
  have HA := Lib.hid h
  clear hD ha h hne h0 hz hsl
  by_cases hx : D[0].toNat = 48
  · have hx' : ((D[0].toNat : Int) == 48) = true := by rw [hx]; rfl
    obtain ⟨hD1, rfl⟩ := hz' hx
    have hD2 : ¬ 1 < D.size := by omega
    clear hx hz'
    go_wp2_with fail
    refine (H2.out _).mono ?_
    rintro e w2 ⟨rfl, hb⟩
    have r0 := keptc hb (w.heap.size) 0 (.bool false) (by first | with_reducible assumption | (simp [go_sem]; done)); have r1 := keptc hb (w.heap.size) 1 (.slice none 0 0) (by first | with_reducible assumption | (simp [go_sem]; done)); have fr0 := keptF hb (g := w.heap.size) (o := 0) (v := .bool false) (by first | with_reducible assumption | (simp [go_sem]; done)) (by first | with_reducible assumption | (simp [go_sem]; done)); have fr1 := keptF hb (g := w.heap.size) (o := 1) (v := .slice none 0 0) (by first | with_reducible assumption | (simp [go_sem]; done)) (by first | with_reducible assumption | (simp [go_sem]; done)); have Tr := Lib.hid (keptT hb (g := w.heap.size) (o := 0) (v := .bool false) (by first | with_reducible assumption | (simp [go_sem]; done)) (e := 88) (by first | with_reducible assumption | exact Hid.out (by with_reducible assumption) | (simp [typ_alloc, typ_drewN, typ_drew, otyp_cells]; done)))
    have B1 := Lib.hid (below_then (w := w) (by repeat (first | exact Below.refl _ _ | with_reducible assumption | apply below_alloc | apply below_drewN | apply below_drew | refine below_set ?_ (by simp; try omega) _ | refine below_then ?_ (by with_reducible assumption))) hb)
    clear hb
    go_wp2_with fail
    go_loopg [4, 6] D.size (fun gk dig mv wr => ∃ (E : ByteArray) (pre : List UInt8) (A : Option Addr) (k c : Nat) (l : List Int), dig = .string E ∧ E.size ≤ gk ∧ Hid (pre ++ E.data.toList = d) ∧ mv = .slice A k c ∧ IsMag base wr A k c l ∧
        Hid (val l = (natOf pre : Nat)) ∧ k + E.size ≤ 65536 ∧ Below w.heap.size w wr ∧ wr.cell? ⟨w.heap.size, 0, none⟩ = some (.bool false) ∧ wr.cell? ⟨w.heap.size, 1, none⟩ = some (.slice none 0 0) ∧
        wr.frozen? ⟨w.heap.size, 0, none⟩ = false ∧ wr.frozen? ⟨w.heap.size, 1, none⟩ = false ∧ Hid (typ wr w.heap.size = some 88))
    case atStart => exact ⟨D, [], none, 0, 0, [], rfl, Nat.le_refl _, HD, rfl, ⟨rfl, Nat.le_refl _, Limbs.nil, .inl rfl⟩, Lib.hid rfl, by omega, B1.out, r0, r1, fr0, fr1, Tr⟩
    case round =>
      obtain ⟨E, pre, A, k, c, l, rfl, hEk, hpre, rfl, hm, hv, hkE, hb, c0, c1, f0, f1, Tc⟩ := hrel
      have Hm := Lib.hid hm
      have Hb := Lib.hid hb
      clear hm hb
      by_cases hE : 0 < E.size
      · obtain ⟨n, hn⟩ : ∃ n : Nat, (n : Int) = ((E.size : Int) - 1) % 9 + 1 := ⟨(((E.size : Int) - 1) % 9 + 1).toNat, by omega⟩
        have hn1 : 1 ≤ n := by omega
        have hn9 : n ≤ 9 := by omega
        have hnE : n ≤ E.size := by omega
        have HN := Lib.hid hn
        clear hn
        go_wp2_with fail
        rw [← HN.out]
        go_loop [8, 48] (fun b q => ∃ i : Nat, i ≤ n ∧ q = .int .i64 (i : Int) ∧ b = .int .u32 (p10 i)) (fun _ q => n - (intOf q).toNat)
        case atStart => exact ⟨0, Nat.zero_le _, rfl, rfl⟩
        case round =>
          obtain ⟨i, hi, rfl, rfl⟩ := hrel
          by_cases hin : i < n
          · have b1 := p10_bd (i := i) (by omega)
            have b2 := p10_bd (i := i + 1) (by omega)
            have b3 := p10_succ i
            have S := Lib.hid b3
            rw [b3] at b2
            clear b3
            generalize p10 i = b at b1 b2 S
            obtain ⟨b10, b11⟩ := b1
            obtain ⟨b20, b21⟩ := b2
            go_wp2
            go_round
            case rel => exact ⟨i + 1, by omega, by go_num, by rw [S.out]⟩
            case measure => simp [intOf]; omega
          · obtain rfl : i = n := by omega
            obtain ⟨C, hC⟩ : ∃ C, C = E.extract 0 i := ⟨_, rfl⟩
            have hCd : C.data.toList = E.data.toList.take i := by rw [hC, Lib.extract_from_zero]
            have hCE : E.data.toList = C.data.toList ++ (E.extract i E.size).data.toList := by rw [hCd, Lib.extract_to_end, List.take_append_drop]
            have hEall : E.data.toList.all isDig = true := by
              have h2 := HA.out
              rw [← hpre.out, List.all_append, Bool.and_eq_true] at h2
              exact h2.2
            have hCall : C.data.toList.all isDig = true := by
              rw [hCE, List.all_append, Bool.and_eq_true] at hEall
              exact hEall.1
            have hClen : C.data.toList.length = i := by rw [hCd, List.length_take, ← Lib.size_eq]; omega
            have hClt : (natOf C.data.toList : Nat) < 10 ^ i := by have := natOf_lt hCall; rwa [hClen] at this
            have hC9 : ((natOf C.data.toList : Nat) : Int) < 1000000000 := by
              have : 10 ^ i ≤ 10 ^ 9 := Nat.pow_le_pow_right (by decide) hn9
              have : (10 : Nat) ^ 9 = 1000000000 := by decide
              omega
            have HP := Lib.hid (ParseUint_any C wr (by intro e; rw [e] at hClen; simp at hClen; omega) hCall (by omega))
            have HC := Lib.hid hC
            have HCE := Lib.hid hCE
            have HCl := Lib.hid hClen
            have b1 := p10_bd (i := i) (by omega)
            obtain ⟨b10, b11⟩ := b1
            obtain ⟨v, hvv⟩ : ∃ v, natOf C.data.toList = v := ⟨_, rfl⟩
            have HV := Lib.hid hvv
            rw [hvv] at HP hC9
            have p10e : p10 i = ((10 ^ i : Nat) : Int) := rfl
            have P10 := Lib.hid p10e
            clear p10e
            generalize p10 i = b at b10 b11 P10
            clear hC hCd hCE hEall hCall hClen hClt hvv
            go_wp2_with fail
            rw [← HC.out]
            refine HP.out.mono ?_
            rintro e w3 ⟨rfl, hb3⟩
            have d0 := keptc hb3 _ _ _ c0
            have d1 := keptc hb3 _ _ _ c1
            have e0 := keptF hb3 c0 f0
            have e1 := keptF hb3 c1 f1
            have Td := Lib.hid (keptT hb3 c0 Tc.out)
            have Hm3 := Lib.hid (Hm.out.below hb3)
            have Hb3 := Lib.hid (below_then Hb.out hb3)
            clear hb3 c0 c1 f0 f1 HP
            go_wp2_with fail
            refine (scale_any A k c l b (v : Int) w3 base (Nat.le_trans hB Hb3.out.size) Hm3.out (by omega) (by omega) (by omega) (by omega) (by omega)).mono ?_
            rintro e w4 ⟨A', k', c', r, rfl, hi, ht, hk', hv', hb4⟩
            have g0 := keptc hb4 _ _ _ d0
            have g1 := keptc hb4 _ _ _ d1
            have h0' := keptF hb4 d0 e0
            have h1' := keptF hb4 d1 e1
            have Tg := Lib.hid (keptT hb4 d0 Td.out)
            have Hi := Lib.hid hi
            have Hv := Lib.hid hv'
            have Hb4 := Lib.hid (below_then Hb3.out hb4)
            clear hb4 d0 d1 e0 e1 hi ht hv'
            obtain ⟨F, hF⟩ : ∃ F, F = E.extract i E.size := ⟨_, rfl⟩
            have hFs : F.size = E.size - i := by rw [Lib.size_eq, hF, Lib.extract_to_end, List.length_drop, ← Lib.size_eq]
            have HF := Lib.hid hF
            have HFs := Lib.hid hFs
            have hle1 : F.size ≤ E.size - i := by omega
            clear hF hFs
            go_wp2_with fail
            rw [← HF.out]
            go_roundg F.size
            case measure => omega
            case rel => exact ⟨F, pre ++ C.data.toList, A', k', c', r, rfl, Nat.le_refl _, Lib.hid (by rw [HF.out, List.append_assoc, ← HCE.out]; exact hpre.out), rfl, Hi.out, Lib.hid (by rw [Hv.out, hv.out, natOf_append, HCl.out, HV.out, P10.out]; simp), by omega, Hb4.out, g0, g1, h0', h1', Tg⟩
      · have hE0 : E.data.toList = [] := List.eq_nil_of_length_eq_zero (by rw [← Lib.size_eq]; omega)
        have hval : val l = (natOf d : Nat) := by rw [hv.out, ← hpre.out, hE0, List.append_nil]
        have HVal := Lib.hid hval
        clear hval hE0
        go_wp2_with fail
        refine (signed_any _ A k c l wr (base := base) Hm.out (by omega)).mono ?_
        rintro e w3 ⟨p', A', k', c', rfl, hi, hb3⟩
        have d0 := keptc hb3 _ _ _ c0
        have d1 := keptc hb3 _ _ _ c1
        have e0 := keptF hb3 c0 f0
        have e1 := keptF hb3 c1 f1
        have Tr := Lib.hid (keptT hb3 c0 Tc.out)
        have I1 := Lib.hid hi
        have Hb3 := Lib.hid (below_then Hb.out hb3)
        clear hb3 c0 c1 f0 f1 hi r0 r1 fr0 fr1
        go_wp2_with fail
        refine bodyPost_ret (v := .tuple #[.agg #[.bool p', .slice A' k' c'], .int .i64 0]) (by simp [results, Tryz.results107, go_sem, d0, d1]) rfl ⟨p', A', k', c', rfl, ?_, below_set (below_set Hb3.out (by simp) _) (by simp) _⟩
        have := I1.out.keeps (w' := (w3.setCell { block := w.heap.size, off := 0 } (Value.bool p')).setCell { block := w.heap.size, off := 1 } (Value.slice A' k' c')) (by repeat (first | exact Keeps.refl _ _ _ | apply Keeps.alloc | apply Keeps.drewN | apply Keeps.drew | refine Keeps.set ?_ (by simp; try omega) (by first | (simp [T1.out]; done) | (simp [Tr.out]; done)) _))
        rwa [HVal.out] at this
  · have hx' : ((D[0].toNat : Int) == 48) = false := by rw [beq_eq_false_iff_ne]; omega
    clear hx hz'
    go_wp2_with fail
    refine (H2.out _).mono ?_
    rintro e w2 ⟨rfl, hb⟩
    have r0 := keptc hb (w.heap.size) 0 (.bool false) (by first | with_reducible assumption | (simp [go_sem]; done)); have r1 := keptc hb (w.heap.size) 1 (.slice none 0 0) (by first | with_reducible assumption | (simp [go_sem]; done)); have fr0 := keptF hb (g := w.heap.size) (o := 0) (v := .bool false) (by first | with_reducible assumption | (simp [go_sem]; done)) (by first | with_reducible assumption | (simp [go_sem]; done)); have fr1 := keptF hb (g := w.heap.size) (o := 1) (v := .slice none 0 0) (by first | with_reducible assumption | (simp [go_sem]; done)) (by first | with_reducible assumption | (simp [go_sem]; done)); have Tr := Lib.hid (keptT hb (g := w.heap.size) (o := 0) (v := .bool false) (by first | with_reducible assumption | (simp [go_sem]; done)) (e := 88) (by first | with_reducible assumption | exact Hid.out (by with_reducible assumption) | (simp [typ_alloc, typ_drewN, typ_drew, otyp_cells]; done)))
    have B1 := Lib.hid (below_then (w := w) (by repeat (first | exact Below.refl _ _ | with_reducible assumption | apply below_alloc | apply below_drewN | apply below_drew | refine below_set ?_ (by simp; try omega) _ | refine below_then ?_ (by with_reducible assumption))) hb)
    clear hb
    go_wp2_with fail
    go_loopg [4, 6] D.size (fun gk dig mv wr => ∃ (E : ByteArray) (pre : List UInt8) (A : Option Addr) (k c : Nat) (l : List Int), dig = .string E ∧ E.size ≤ gk ∧ Hid (pre ++ E.data.toList = d) ∧ mv = .slice A k c ∧ IsMag base wr A k c l ∧
        Hid (val l = (natOf pre : Nat)) ∧ k + E.size ≤ 65536 ∧ Below w.heap.size w wr ∧ wr.cell? ⟨w.heap.size, 0, none⟩ = some (.bool false) ∧ wr.cell? ⟨w.heap.size, 1, none⟩ = some (.slice none 0 0) ∧
        wr.frozen? ⟨w.heap.size, 0, none⟩ = false ∧ wr.frozen? ⟨w.heap.size, 1, none⟩ = false ∧ Hid (typ wr w.heap.size = some 88))
    case atStart => exact ⟨D, [], none, 0, 0, [], rfl, Nat.le_refl _, HD, rfl, ⟨rfl, Nat.le_refl _, Limbs.nil, .inl rfl⟩, Lib.hid rfl, by omega, B1.out, r0, r1, fr0, fr1, Tr⟩
    case round =>
      obtain ⟨E, pre, A, k, c, l, rfl, hEk, hpre, rfl, hm, hv, hkE, hb, c0, c1, f0, f1, Tc⟩ := hrel
      have Hm := Lib.hid hm
      have Hb := Lib.hid hb
      clear hm hb
      by_cases hE : 0 < E.size
      · obtain ⟨n, hn⟩ : ∃ n : Nat, (n : Int) = ((E.size : Int) - 1) % 9 + 1 := ⟨(((E.size : Int) - 1) % 9 + 1).toNat, by omega⟩
        have hn1 : 1 ≤ n := by omega
        have hn9 : n ≤ 9 := by omega
        have hnE : n ≤ E.size := by omega
        have HN := Lib.hid hn
        clear hn
        go_wp2_with fail
        rw [← HN.out]
        go_loop [8, 48] (fun b q => ∃ i : Nat, i ≤ n ∧ q = .int .i64 (i : Int) ∧ b = .int .u32 (p10 i)) (fun _ q => n - (intOf q).toNat)
        case atStart => exact ⟨0, Nat.zero_le _, rfl, rfl⟩
        case round =>
          obtain ⟨i, hi, rfl, rfl⟩ := hrel
          by_cases hin : i < n
          · have b1 := p10_bd (i := i) (by omega)
            have b2 := p10_bd (i := i + 1) (by omega)
            have b3 := p10_succ i
            have S := Lib.hid b3
            rw [b3] at b2
            clear b3
            generalize p10 i = b at b1 b2 S
            obtain ⟨b10, b11⟩ := b1
            obtain ⟨b20, b21⟩ := b2
            go_wp2
            go_round
            case rel => exact ⟨i + 1, by omega, by go_num, by rw [S.out]⟩
            case measure => simp [intOf]; omega
          · obtain rfl : i = n := by omega
            obtain ⟨C, hC⟩ : ∃ C, C = E.extract 0 i := ⟨_, rfl⟩
            have hCd : C.data.toList = E.data.toList.take i := by rw [hC, Lib.extract_from_zero]
            have hCE : E.data.toList = C.data.toList ++ (E.extract i E.size).data.toList := by rw [hCd, Lib.extract_to_end, List.take_append_drop]
            have hEall : E.data.toList.all isDig = true := by
              have h2 := HA.out
              rw [← hpre.out, List.all_append, Bool.and_eq_true] at h2
              exact h2.2
            have hCall : C.data.toList.all isDig = true := by
              rw [hCE, List.all_append, Bool.and_eq_true] at hEall
              exact hEall.1
            have hClen : C.data.toList.length = i := by rw [hCd, List.length_take, ← Lib.size_eq]; omega
            have hClt : (natOf C.data.toList : Nat) < 10 ^ i := by have := natOf_lt hCall; rwa [hClen] at this
            have hC9 : ((natOf C.data.toList : Nat) : Int) < 1000000000 := by
              have : 10 ^ i ≤ 10 ^ 9 := Nat.pow_le_pow_right (by decide) hn9
              have : (10 : Nat) ^ 9 = 1000000000 := by decide
              omega
            have HP := Lib.hid (ParseUint_any C wr (by intro e; rw [e] at hClen; simp at hClen; omega) hCall (by omega))
            have HC := Lib.hid hC
            have HCE := Lib.hid hCE
            have HCl := Lib.hid hClen
            have b1 := p10_bd (i := i) (by omega)
            obtain ⟨b10, b11⟩ := b1
            obtain ⟨v, hvv⟩ : ∃ v, natOf C.data.toList = v := ⟨_, rfl⟩
            have HV := Lib.hid hvv
            rw [hvv] at HP hC9
            have p10e : p10 i = ((10 ^ i : Nat) : Int) := rfl
            have P10 := Lib.hid p10e
            clear p10e
            generalize p10 i = b at b10 b11 P10
            clear hC hCd hCE hEall hCall hClen hClt hvv
            go_wp2_with fail
            rw [← HC.out]
            refine HP.out.mono ?_
            rintro e w3 ⟨rfl, hb3⟩
            have d0 := keptc hb3 _ _ _ c0
            have d1 := keptc hb3 _ _ _ c1
            have e0 := keptF hb3 c0 f0
            have e1 := keptF hb3 c1 f1
            have Td := Lib.hid (keptT hb3 c0 Tc.out)
            have Hm3 := Lib.hid (Hm.out.below hb3)
            have Hb3 := Lib.hid (below_then Hb.out hb3)
            clear hb3 c0 c1 f0 f1 HP
            go_wp2_with fail
            refine (scale_any A k c l b (v : Int) w3 base (Nat.le_trans hB Hb3.out.size) Hm3.out (by omega) (by omega) (by omega) (by omega) (by omega)).mono ?_
            rintro e w4 ⟨A', k', c', r, rfl, hi, ht, hk', hv', hb4⟩
            have g0 := keptc hb4 _ _ _ d0
            have g1 := keptc hb4 _ _ _ d1
            have h0' := keptF hb4 d0 e0
            have h1' := keptF hb4 d1 e1
            have Tg := Lib.hid (keptT hb4 d0 Td.out)
            have Hi := Lib.hid hi
            have Hv := Lib.hid hv'
            have Hb4 := Lib.hid (below_then Hb3.out hb4)
            clear hb4 d0 d1 e0 e1 hi ht hv'
            obtain ⟨F, hF⟩ : ∃ F, F = E.extract i E.size := ⟨_, rfl⟩
            have hFs : F.size = E.size - i := by rw [Lib.size_eq, hF, Lib.extract_to_end, List.length_drop, ← Lib.size_eq]
            have HF := Lib.hid hF
            have HFs := Lib.hid hFs
            have hle1 : F.size ≤ E.size - i := by omega
            clear hF hFs
            go_wp2_with fail
            rw [← HF.out]
            go_roundg F.size
            case measure => omega
            case rel => exact ⟨F, pre ++ C.data.toList, A', k', c', r, rfl, Nat.le_refl _, Lib.hid (by rw [HF.out, List.append_assoc, ← HCE.out]; exact hpre.out), rfl, Hi.out, Lib.hid (by rw [Hv.out, hv.out, natOf_append, HCl.out, HV.out, P10.out]; simp), by omega, Hb4.out, g0, g1, h0', h1', Tg⟩
      · have hE0 : E.data.toList = [] := List.eq_nil_of_length_eq_zero (by rw [← Lib.size_eq]; omega)
        have hval : val l = (natOf d : Nat) := by rw [hv.out, ← hpre.out, hE0, List.append_nil]
        have HVal := Lib.hid hval
        clear hval hE0
        go_wp2_with fail
        refine (signed_any _ A k c l wr (base := base) Hm.out (by omega)).mono ?_
        rintro e w3 ⟨p', A', k', c', rfl, hi, hb3⟩
        have d0 := keptc hb3 _ _ _ c0
        have d1 := keptc hb3 _ _ _ c1
        have e0 := keptF hb3 c0 f0
        have e1 := keptF hb3 c1 f1
        have Tr := Lib.hid (keptT hb3 c0 Tc.out)
        have I1 := Lib.hid hi
        have Hb3 := Lib.hid (below_then Hb.out hb3)
        clear hb3 c0 c1 f0 f1 hi r0 r1 fr0 fr1
        go_wp2_with fail
        refine bodyPost_ret (v := .tuple #[.agg #[.bool p', .slice A' k' c'], .int .i64 0]) (by simp [results, Tryz.results107, go_sem, d0, d1]) rfl ⟨p', A', k', c', rfl, ?_, below_set (below_set Hb3.out (by simp) _) (by simp) _⟩
        have := I1.out.keeps (w' := (w3.setCell { block := w.heap.size, off := 0 } (Value.bool p')).setCell { block := w.heap.size, off := 1 } (Value.slice A' k' c')) (by repeat (first | exact Keeps.refl _ _ _ | apply Keeps.alloc | apply Keeps.drewN | apply Keeps.drew | refine Keeps.set ?_ (by simp; try omega) (by first | (simp [T1.out]; done) | (simp [Tr.out]; done)) _))
        rwa [HVal.out] at this
/-- integer.Parse, at every text. -/
theorem Parse_any (base : Nat) (s : ByteArray) (w : World) (hB : base ≤ w.heap.size) (hs : s.size ≤ 9223372036854775807) : Calls Tryz.prog 107 #[.string s] w (RetInt2 base w (parseZ s.data.toList).1 (parseZ s.data.toList).2) := by
  unfold parseZ
  rw [← Lib.size_eq]
  by_cases h1 : 65536 < s.size
  · rw [if_pos h1]
    exact parse_long base s w hB h1 hs
  · rw [if_neg h1]
    dsimp only
    by_cases h2 : Lib.trimPrefix s.data.toList [45] = [] ∨ (Lib.trimPrefix s.data.toList [45]).all isDig = false
    · rw [if_pos h2]
      exact parse_bad base s w hB (by omega) h2
    · rw [if_neg h2]
      have h3 : Lib.trimPrefix s.data.toList [45] ≠ [] := fun e => h2 (.inl e)
      have h4 : (Lib.trimPrefix s.data.toList [45]).all isDig = true := by
        cases h : (Lib.trimPrefix s.data.toList [45]).all isDig with
        | true => rfl
        | false => exact absurd (.inr h) h2
      by_cases h5 : (Lib.trimPrefix s.data.toList [45]).head? = some 48 ∧ (1 < (Lib.trimPrefix s.data.toList [45]).length ∨ Lib.hasPrefix s.data.toList [45] = true)
      · rw [if_pos h5]
        exact parse_form base s w hB (by omega) h3 h4 h5.1 h5.2
      · rw [if_neg h5]
        exact parse_ok base s w hB (by omega) h3 h4 h5
end Go.Proofs.YtpifbaiibhaklaaGreatDoor
namespace Go.Proofs.YtpifbaiibhaklaaGreatDoor
open Go.RowKit Big
set_option maxHeartbeats 400000
set_option linter.unusedVariables false
set_option linter.unusedSimpArgs false

/-- The parts of an integer's value, and of a rational's. -/
structure MI where
  p : Bool
  A : Option Addr
  n : Nat
  c : Nat
structure MR where
  a : MI
  b : MI
def IsI (base : Nat) (w : World) (m : MI) (z : Int) : Prop := IsInt base w m.p m.A m.n m.c z
/-- A rational in memory: numerator and denominator without a common divisor; a denominator 0 counts as 1. -/
def IsRat (base : Nat) (w : World) (m : MR) (q : Rat) : Prop := IsI base w m.a q.num ∧ ∃ dz : Int, IsI base w m.b dz ∧ (dz = q.den ∨ (dz = 0 ∧ q.den = 1))
theorem IsI.keeps {base : Nat} {w w' : World} {m : MI} {z : Int} (h : IsI base w m z) (hk : Keeps base 137 w w') : IsI base w' m z := IsInt.keeps h hk
theorem IsI.below {base : Nat} {w w' : World} {m : MI} {z : Int} (h : IsI base w m z) (hb : Below w.heap.size w w') : IsI base w' m z := h.keeps (.of_below hb)
theorem IsRat.keeps {base : Nat} {w w' : World} {m : MR} {q : Rat} (h : IsRat base w m q) (hk : Keeps base 137 w w') : IsRat base w' m q := by
  obtain ⟨h1, dz, h2, h3⟩ := h
  exact ⟨h1.keeps hk, dz, h2.keeps hk, h3⟩
theorem IsRat.below {base : Nat} {w w' : World} {m : MR} {q : Rat} (h : IsRat base w m q) (hb : Below w.heap.size w w') : IsRat base w' m q := h.keeps (.of_below hb)
/-- How many digits a rational has. -/
def limR (q : Rat) : Nat := max (lim q.num) (lim q.den)
theorem lim_one : lim 1 = 1 := by rw [lim_pos (by decide)]; rw [show ((Int.natAbs 1 / 4294967296 : Nat) : Int) = 0 by decide, lim_zero]
/-- The call hands back a rational in memory. -/
def RetRat (base : Nat) (w : World) (q : Rat) (e : Ending) (w' : World) : Prop := ∃ m : MR, e = .returned (.agg #[.bool m.a.p, .slice m.a.A m.a.n m.a.c, .bool m.b.p, .slice m.b.A m.b.n m.b.c]) ∧ IsRat base w' m q ∧ Below w.heap.size w w'

theorem one_any (base : Nat) (w : World) (hB : base ≤ w.heap.size) : Calls Tryz.prog 89 #[] w (RetInt base w 1) := by
  have H := Lib.hid (fun W (hW : Below w.heap.size w W) => From_any base 1 W (Nat.le_trans hB hW.size) (by decide) (by decide))
  go_enter Tryz.func89, Tryz.ntmps89
  go_wp2_with fail
  refine (H.out _ (by repeat (first | exact Below.refl _ _ | with_reducible assumption | apply below_alloc | apply below_drewN | apply below_drew | refine below_set ?_ (by simp; try omega) _ | refine below_then ?_ (by with_reducible assumption)))).mono ?_
  rintro e w' ⟨p', A, k, c, rfl, hi, hb⟩
  have r0 := keptc hb (w.heap.size) 0 (.bool false) (by first | with_reducible assumption | (simp [go_sem]; done)); have r1 := keptc hb (w.heap.size) 1 (.slice none 0 0) (by first | with_reducible assumption | (simp [go_sem]; done)); have fr0 := keptF hb (g := w.heap.size) (o := 0) (v := .bool false) (by first | with_reducible assumption | (simp [go_sem]; done)) (by first | with_reducible assumption | (simp [go_sem]; done)); have fr1 := keptF hb (g := w.heap.size) (o := 1) (v := .slice none 0 0) (by first | with_reducible assumption | (simp [go_sem]; done)) (by first | with_reducible assumption | (simp [go_sem]; done)); have Tr := Lib.hid (keptT hb (g := w.heap.size) (o := 0) (v := .bool false) (by first | with_reducible assumption | (simp [go_sem]; done)) (e := 88) (by first | with_reducible assumption | exact Hid.out (by with_reducible assumption) | (simp [typ_alloc, typ_drewN, typ_drew, otyp_cells]; done)))
  have I1 := Lib.hid hi
  have B1 := Lib.hid (below_then (w := w) (by repeat (first | exact Below.refl _ _ | with_reducible assumption | apply below_alloc | apply below_drewN | apply below_drew | refine below_set ?_ (by simp; try omega) _ | refine below_then ?_ (by with_reducible assumption))) hb)
  clear hi hb
  go_wp2_with fail
  refine bodyPost_ret (v := .agg #[.bool p', .slice A k c]) (by simp [results, Tryz.results89, go_sem, r0, r1]) rfl ⟨p', A, k, c, rfl, I1.out.keeps (by repeat (first | exact Keeps.refl _ _ _ | apply Keeps.alloc | apply Keeps.drewN | apply Keeps.drew | refine Keeps.set ?_ (by simp; try omega) (by first | (simp [T1.out]; done) | (simp [Tr.out]; done)) _)), below_set (below_set B1.out (by simp) _) (by simp) _⟩

theorem rFrom_any (base : Nat) (n : Int) (w : World) (hB : base ≤ w.heap.size) (h1 : -9223372036854775808 ≤ n) (h2 : n ≤ 9223372036854775807) : Calls Tryz.prog 38 #[.int .i64 n] w (RetRat base w (n : Rat)) := by
  have H := Lib.hid (fun W (hW : Below w.heap.size w W) => From_any base n W (Nat.le_trans hB hW.size) h1 h2)
  go_enter Tryz.func38, Tryz.ntmps38
  go_wp2_with fail
  refine (H.out _ (by repeat (first | exact Below.refl _ _ | with_reducible assumption | apply below_alloc | apply below_drewN | apply below_drew | refine below_set ?_ (by simp; try omega) _ | refine below_then ?_ (by with_reducible assumption)))).mono ?_
  rintro e w' ⟨p', A, k, c, rfl, hi, hb⟩
  have r0 := keptc hb (w.heap.size) 0 (.bool false) (by first | with_reducible assumption | (simp [go_sem]; done)); have r1 := keptc hb (w.heap.size) 1 (.slice none 0 0) (by first | with_reducible assumption | (simp [go_sem]; done)); have r2 := keptc hb (w.heap.size) 2 (.bool false) (by first | with_reducible assumption | (simp [go_sem]; done)); have r3 := keptc hb (w.heap.size) 3 (.slice none 0 0) (by first | with_reducible assumption | (simp [go_sem]; done)); have fr0 := keptF hb (g := w.heap.size) (o := 0) (v := .bool false) (by first | with_reducible assumption | (simp [go_sem]; done)) (by first | with_reducible assumption | (simp [go_sem]; done)); have fr1 := keptF hb (g := w.heap.size) (o := 1) (v := .slice none 0 0) (by first | with_reducible assumption | (simp [go_sem]; done)) (by first | with_reducible assumption | (simp [go_sem]; done)); have fr2 := keptF hb (g := w.heap.size) (o := 2) (v := .bool false) (by first | with_reducible assumption | (simp [go_sem]; done)) (by first | with_reducible assumption | (simp [go_sem]; done)); have fr3 := keptF hb (g := w.heap.size) (o := 3) (v := .slice none 0 0) (by first | with_reducible assumption | (simp [go_sem]; done)) (by first | with_reducible assumption | (simp [go_sem]; done)); have Tr := Lib.hid (keptT hb (g := w.heap.size) (o := 0) (v := .bool false) (by first | with_reducible assumption | (simp [go_sem]; done)) (e := 90) (by first | with_reducible assumption | exact Hid.out (by with_reducible assumption) | (simp [typ_alloc, typ_drewN, typ_drew, otyp_cells]; done)))
  have I1 := Lib.hid hi
  have B1 := Lib.hid (below_then (w := w) (by repeat (first | exact Below.refl _ _ | with_reducible assumption | apply below_alloc | apply below_drewN | apply below_drew | refine below_set ?_ (by simp; try omega) _ | refine below_then ?_ (by with_reducible assumption))) hb)
  clear hi hb
  go_wp2_with fail
  refine bodyPost_ret (v := .agg #[.bool p', .slice A k c, .bool false, .slice none 0 0]) (by simp [results, Tryz.results38, go_sem, r0, r1, r2, r3]) rfl ⟨⟨⟨p', A, k, c⟩, ⟨false, none, 0, 0⟩⟩, rfl, ⟨?_, 0, IsInt.zero _ _, .inr ⟨rfl, Rat.den_intCast _⟩⟩, ?_⟩
  · rw [Rat.num_intCast]
    exact I1.out.keeps (by repeat (first | exact Keeps.refl _ _ _ | apply Keeps.alloc | apply Keeps.drewN | apply Keeps.drew | refine Keeps.set ?_ (by simp; try omega) (by first | (simp [T1.out]; done) | (simp [Tr.out]; done)) _))
  · exact below_set (below_set (below_set (below_set B1.out (by simp) _) (by simp) _) (by simp) _) (by simp) _

theorem rSign_any (base : Nat) (m : MR) (q : Rat) (w : World) (h : IsRat base w m q) (hq : limR q ≤ 1099511627776) :
    Calls Tryz.prog 66 #[.agg #[.bool m.a.p, .slice m.a.A m.a.n m.a.c, .bool m.b.p, .slice m.b.A m.b.n m.b.c]] w fun e w' => e = .returned (.int .i64 (sgnI q.num)) ∧ Below w.heap.size w w' := by
  have H := Lib.hid (fun W (hW : Below w.heap.size w W) => Sign_any m.a.p m.a.A m.a.n m.a.c q.num W (h.1.below hW) (by unfold limR at hq; omega))
  clear h
  go_enter Tryz.func66, Tryz.ntmps66
  go_wp2_with fail
  refine (H.out _ (by repeat (first | exact Below.refl _ _ | with_reducible assumption | apply below_alloc | apply below_drewN | apply below_drew | refine below_set ?_ (by simp; try omega) _ | refine below_then ?_ (by with_reducible assumption)))).mono ?_
  rintro e w' ⟨rfl, hb⟩
  have B1 := Lib.hid (below_then (w := w) (by repeat (first | exact Below.refl _ _ | with_reducible assumption | apply below_alloc | apply below_drewN | apply below_drew | refine below_set ?_ (by simp; try omega) _ | refine below_then ?_ (by with_reducible assumption))) hb)
  clear hb
  go_wp2_with fail
  go_ret
  exact ⟨rfl, B1.out⟩
end Go.Proofs.YtpifbaiibhaklaaGreatDoor
namespace Go.Proofs.YtpifbaiibhaklaaGreatDoor
open Go.RowKit Big
set_option maxHeartbeats 400000
set_option linter.unusedVariables false
set_option linter.unusedSimpArgs false

theorem lim_den (q : Rat) (h : limR q ≤ 1099511627776) {dz : Int} (hd : dz = q.den ∨ (dz = 0 ∧ q.den = 1)) : lim dz ≤ 1099511627776 := by
  unfold limR at h
  rcases hd with rfl | ⟨rfl, _⟩
  · omega
  · rw [lim_zero]; omega
theorem whole_any (base : Nat) (m : MR) (q : Rat) (w : World) (hB : base ≤ w.heap.size) (h : IsRat base w m q) (hq : limR q ≤ 1099511627776) :
    Calls Tryz.prog 76 #[.agg #[.bool m.a.p, .slice m.a.A m.a.n m.a.c, .bool m.b.p, .slice m.b.A m.b.n m.b.c]] w fun e w' => e = .returned (.bool (decide (q.den = 1))) ∧ Below w.heap.size w w' := by
  obtain ⟨_, dz, h2, h3⟩ := h
  have hdz := lim_den q hq h3
  have H1 := Lib.hid (fun W (hW : Below w.heap.size w W) => Sign_any m.b.p m.b.A m.b.n m.b.c dz W (h2.below hW) hdz)
  have H2 := Lib.hid (fun W (hW : Below w.heap.size w W) => one_any base W (Nat.le_trans hB hW.size))
  have H3 := Lib.hid (fun W (hW : Below w.heap.size w W) p A n c (hi : IsInt base W p A n c 1) => Compare_any m.b.p p m.b.A A m.b.n m.b.c n c dz 1 W (h2.below hW) hi hdz (by rw [lim_one]; omega))
  by_cases h0 : dz = 0
  · have hr : decide (q.den = 1) = true := by
      rcases h3 with h3 | h3
      · have := q.den_nz; omega
      · exact decide_eq_true h3.2
    have b0 : sgnI dz = 0 := by subst h0; rfl
    rw [b0] at H1
    clear h2 h3 H2 H3 h0 b0
    generalize decide (q.den = 1) = r at hr
    subst hr
    go_enter Tryz.func76, Tryz.ntmps76
    go_wp2_with fail
    first | (go_region_with (go_at_call 85; refine (H1.out _ (by repeat (first | exact Below.refl _ _ | with_reducible assumption | apply below_alloc | apply below_drewN | apply below_drew | refine below_set ?_ (by simp; try omega) _ | refine below_then ?_ (by with_reducible assumption)))).mono ?_; rintro e w1 ⟨rfl, hb⟩; have B1 := Lib.hid (below_then (w := w) (by repeat (first | exact Below.refl _ _ | with_reducible assumption | apply below_alloc | apply below_drewN | apply below_drew | refine below_set ?_ (by simp; try omega) _ | refine below_then ?_ (by with_reducible assumption))) hb); clear hb)) | fail
    all_goals (go_wp2_with fail; go_ret; first | exact ⟨rfl, B1.out⟩ | exact ⟨rfl, below_drew B1.out⟩)
  · have hd : dz = q.den := by
      rcases h3 with h3 | h3
      · exact h3
      · exact absurd h3.1 h0
    have b0 : sgnI dz = 1 := by unfold sgnI; rw [if_neg (by omega), if_neg h0]
    rw [b0] at H1
    have key : ∀ (o : Int) (r : Bool), cmpI dz 1 = o → decide (q.den = 1) = r → (o == 0) = r →
        Calls Tryz.prog 76 #[.agg #[.bool m.a.p, .slice m.a.A m.a.n m.a.c, .bool m.b.p, .slice m.b.A m.b.n m.b.c]] w fun e w' => e = .returned (.bool (decide (q.den = 1))) ∧ Below w.heap.size w w' := by
      intro o r ho hr hor
      rw [ho] at H3
      rw [hr]
      clear h2 h3 h0 b0 hd ho hr
      go_enter Tryz.func76, Tryz.ntmps76
      go_wp2_with fail
      go_region_held3 (fun w' => w'.cell? ⟨w.heap.size, 2, none⟩ = some (.bool m.b.p) ∧ w'.cell? ⟨w.heap.size, 3, none⟩ = some (.slice m.b.A m.b.n m.b.c))
        (first | exact ⟨c0, c1⟩ | exact ⟨d0, d1⟩ | exact ⟨e0, e1⟩ | go_keep)
        (first
          | (go_at_call 85; refine (H1.out _ (by repeat (first | exact Below.refl _ _ | with_reducible assumption | apply below_alloc | apply below_drewN | apply below_drew | refine below_set ?_ (by simp; try omega) _ | refine below_then ?_ (by with_reducible assumption)))).mono ?_; rintro e w1 ⟨rfl, hb⟩; have c0 := keptc hb w.heap.size 2 (.bool m.b.p) (by simp [go_sem]); have c1 := keptc hb w.heap.size 3 (.slice m.b.A m.b.n m.b.c) (by simp [go_sem]); have B1 := Lib.hid (below_then (w := w) (by repeat (first | exact Below.refl _ _ | with_reducible assumption | apply below_alloc | apply below_drewN | apply below_drew | refine below_set ?_ (by simp; try omega) _ | refine below_then ?_ (by with_reducible assumption))) hb))
          | (go_at_call 89; refine (H2.out _ B1.out).mono ?_; rintro e w2 ⟨p2, A2, n2, k2, rfl, hi2, hb2⟩; have d0 := keptc hb2 _ _ _ c0; have d1 := keptc hb2 _ _ _ c1; have B2 := Lib.hid (below_then B1.out hb2); have I2 := Lib.hid hi2; clear hi2)
          | (go_at_call 77; refine (H3.out _ B2.out _ _ _ _ I2.out).mono ?_; rintro e w3 ⟨rfl, hb3⟩; have e0 := keptc hb3 _ _ _ d0; have e1 := keptc hb3 _ _ _ d1; have B3 := Lib.hid (below_then B2.out hb3)))
      go_wp2_with fail
      go_ret
      exact ⟨by first | rfl | rw [hor], B3.out⟩
    by_cases h1 : q.den = 1
    · exact key 0 true (by rw [hd, h1]; rfl) (decide_eq_true h1) rfl
    · exact key 1 false (by have := q.den_nz; unfold cmpI; rw [if_neg (by omega), if_neg (by omega)]) (decide_eq_false h1) rfl
end Go.Proofs.YtpifbaiibhaklaaGreatDoor
