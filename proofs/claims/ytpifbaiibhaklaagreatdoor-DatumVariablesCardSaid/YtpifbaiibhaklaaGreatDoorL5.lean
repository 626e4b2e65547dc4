/- Equality of structs: the program's own types.
  Package datum: index.
  Maps keyed by int, entry by entry: what a look-up answers, what an insertion leaves.
  Package datum: the words of forms; what a map of factors holds. -/
import Derived.Test.YtpifbaiibhaklaaGreatDoorL0
import Derived.Test.YtpifbaiibhaklaaGreatDoorProg
import Derived.WalkKit
import Derived.WalkSpells
import Derived.WalkLawsBesides
import Derived.Deep.QuietTactic
import Derived.BigQuiet
import Derived.Lib.Hide
import Derived.Deep.LoopGhost
import Derived.Deep.OwnRows
import Derived.Laws.StructEq
import Derived.Test.YtpifbaiibhaklaaGreatDoorL4
import Derived.Maps.Own
import Derived.Test.YtpifbaiibhaklaaGreatDoorL2
import Derived.Test.YtpifbaiibhaklaaGreatDoorL3
namespace Go.Proofs.YtpifbaiibhaklaaGreatDoor
open Go.RowKit Big
set_option maxHeartbeats 4000000
set_option linter.unusedVariables false
set_option linter.unusedSimpArgs false

theorem eq_var (a b c d : Int) (w : World) : (binOp .eql 78 (.agg #[.int .i64 a, .int .i64 b]) (.agg #[.int .i64 c, .int .i64 d])).run Tryz.prog w = .ok (.bool ((a == c) && (b == d))) w := by
  have u3 := Tryz.underlying3
  have a3 := Tryz.isAgg3
  have z3 := Tryz.sizeOf3
  have hS : Tryz.prog.underlying 78 = some (.struct (Tryz.prog.fieldsOf 78)) := by kernel_rfl
  have hp : Tryz.prog.stoodInHeld 78 = false := by kernel_rfl
  rw [run_eql_struct, show (10000 : Nat) = 9999 + 1 from rfl, run_equalIn_agg w 9999 78 _ _ hS hp]
  simp only [Program.fieldsOf, Tryz.underlying78]
  go_simp
  by_cases h1 : a = c <;> by_cases h2 : b = d <;> simp [h1, h2]
theorem eq_key (a b c d : Int) (w : World) : (binOp .eql 61 (.agg #[.int .i64 a, .int .i64 b]) (.agg #[.int .i64 c, .int .i64 d])).run Tryz.prog w = .ok (.bool ((a == c) && (b == d))) w := by
  have u3 := Tryz.underlying3
  have a3 := Tryz.isAgg3
  have z3 := Tryz.sizeOf3
  have hS : Tryz.prog.underlying 61 = some (.struct (Tryz.prog.fieldsOf 61)) := by kernel_rfl
  have hp : Tryz.prog.stoodInHeld 61 = false := by kernel_rfl
  rw [run_eql_struct, show (10000 : Nat) = 9999 + 1 from rfl, run_equalIn_agg w 9999 61 _ _ hS hp]
  simp only [Program.fieldsOf, Tryz.underlying61]
  go_simp
  by_cases h1 : a = c <;> by_cases h2 : b = d <;> simp [h1, h2]
theorem eq_dim (s t : ByteArray) (a b c d e f : Int) (w : World) : (binOp .eql 46 (.agg #[.string s, .int .i64 a, .int .i64 b, .int .i64 c]) (.agg #[.string t, .int .i64 d, .int .i64 e, .int .i64 f])).run Tryz.prog w = .ok (.bool ((s.toList == t.toList) && (a == d) && (b == e) && (c == f))) w := by
  have u3 := Tryz.underlying3
  have a3 := Tryz.isAgg3
  have z3 := Tryz.sizeOf3
  have u9 := Tryz.underlying9
  have a9 := Tryz.isAgg9
  have z9 := Tryz.sizeOf9
  have hS : Tryz.prog.underlying 46 = some (.struct (Tryz.prog.fieldsOf 46)) := by kernel_rfl
  have hp : Tryz.prog.stoodInHeld 46 = false := by kernel_rfl
  rw [run_eql_struct, show (10000 : Nat) = 9999 + 1 from rfl, run_equalIn_agg w 9999 46 _ _ hS hp]
  simp only [Program.fieldsOf, Tryz.underlying46]
  go_simp
  by_cases h0 : s.toList = t.toList <;> by_cases h1 : a = d <;> by_cases h2 : b = e <;> by_cases h3 : c = f <;> simp [h0, h1, h2, h3]
theorem gd_var : Tryz.prog.eqGuardType Tryz.prog.depth 78 = false := by kernel_rfl
theorem gd_key : Tryz.prog.eqGuardType Tryz.prog.depth 61 = false := by kernel_rfl
theorem gd_dim : Tryz.prog.eqGuardType Tryz.prog.depth 46 = false := by kernel_rfl
end Go.Proofs.YtpifbaiibhaklaaGreatDoor
namespace Go.Proofs.YtpifbaiibhaklaaGreatDoor
open Go.RowKit Big
set_option maxHeartbeats 4000000
set_option linter.unusedVariables false
set_option linter.unusedSimpArgs false

/-- Is this the variable? -/
def isV (fe ki : Int) (v : Vr) : Bool := (fe == (v.feature : Int)) && (ki == v.kind)
set_option maxRecDepth 100000 in
theorem Index_any (base : Nat) (A : Option Addr) (n c : Nat) (vs : List Vr) (fe ki : Int) (w : World) (h : IsRow encV 2 base 78 w A n c vs) (hn : n ≤ 1000000) :
    Calls Tryz.prog 63 #[.slice A n c, .agg #[.int .i64 fe, .int .i64 ki]] w fun e w' => e = .returned (.int .i64 (idxI (isV fe ki) vs)) ∧ Below w.heap.size w w' := by
  have hlen := Lib.hid h.len
  have he := fun a b c d w => eq_var a b c d w
  have hm := gd_var
  go_enter Tryz.func63, Tryz.ntmps63
  go_wp2_with fail
  go_loopw [8] (fun q wr => ∃ (i : Nat), i ≤ n ∧ q = .int .i64 (i : Int) ∧ Hid ((vs.take i).any (isV fe ki) = false) ∧ Below w.heap.size w wr ∧ wr.cell? ⟨w.heap.size, 0, none⟩ = some (.int .i64 fe) ∧ wr.cell? ⟨w.heap.size, 1, none⟩ = some (.int .i64 ki)) (fun q _ => n - (intOf q).toNat)
  case atStart => exact ⟨0, Nat.zero_le _, rfl, Lib.hid rfl, (by repeat (first | exact Below.refl _ _ | with_reducible assumption | apply below_alloc | apply below_drewN | apply below_drew | refine below_set ?_ (by simp; try omega) _ | refine below_then ?_ (by with_reducible assumption))), by simp [go_sem], by simp [go_sem]⟩
  case round =>
    obtain ⟨i, hi, rfl, ha, hb, c0, c1⟩ := hrel
    have Hb := Lib.hid hb
    by_cases hlt : i < n
    · obtain ⟨ad, ea, x0, x1⟩ := vcellsAt (h.below hb) i hlt
      subst ea
      have i0 : (0 : Int) ≤ (i : Int) := by omega
      have i1 : (i : Int) < (n : Int) := by omega
      have Hs := Lib.hid (any_take_succ (isV fe ki) vs vd i (by rw [hlen.out]; exact hlt))
      have Hf := Lib.hid (idxI_found (isV fe ki) vs vd i (by rw [hlen.out]; exact hlt) ha.out)
      clear hb
      have hp : ((fe == ((vs.getD i vd).feature : Int)) && (ki == (vs.getD i vd).kind)) = isV fe ki (vs.getD i vd) := rfl
      generalize vs.getD i vd = f at x0 x1 Hs Hf hp
      generalize isV fe ki f = r at Hs Hf hp
      obtain ⟨f1, f2⟩ := f
      dsimp only at x0 x1 hp
      go_wp2_with fail
      go_quiet (fail)
      clear hp
      cases r
      · go_wp2_with fail
        go_roundw
        case rel => exact ⟨i + 1, by omega, by go_num, Lib.hid (by rw [Hs.out, ha.out]; rfl), by have := Hb.out; exact (by repeat (first | exact Below.refl _ _ | with_reducible assumption | apply below_alloc | apply below_drewN | apply below_drew | refine below_set ?_ (by simp; try omega) _ | refine below_then ?_ (by with_reducible assumption))), c0, c1⟩
        case measure => simp [intOf]; omega
      · go_wp2_with fail
        go_ret
        exact ⟨by rw [Hf.out (by trivial)]; rfl, by have := Hb.out; exact (by repeat (first | exact Below.refl _ _ | with_reducible assumption | apply below_alloc | apply below_drewN | apply below_drew | refine below_set ?_ (by simp; try omega) _ | refine below_then ?_ (by with_reducible assumption)))⟩
    · obtain rfl : i = n := by omega
      have e1 := idxI_none (isV fe ki) vs (by have := ha.out; rwa [← hlen.out, List.take_length] at this)
      clear hb
      go_wp2_with fail
      go_ret
      exact ⟨by rw [e1]; rfl, Hb.out⟩
/-- The index of a variable, or -1. -/
def indexOf (s : Sch) (fe ki : Int) : Int := idxI (isV fe ki) (varsOf s)
set_option maxRecDepth 100000 in
theorem index_any (base : Nat) (A Bz : Option Addr) (n c m d : Nat) (s : Sch) (fe ki : Int) (w : World) (hf : IsFs base 28 w A n c s.fs) (hz : IsZs base 30 w Bz m d s.zs) (hn : n ≤ 100000) (hm : m ≤ 100000) :
    Calls Tryz.prog 37 #[.agg #[.slice A n c, .slice Bz m d], .int .i64 fe, .int .i64 ki] w fun e w' => e = .returned (.int .i64 (indexOf s fe ki)) ∧ Below w.heap.size w w' := by
  have H := Lib.hid (fun W (hW : Below w.heap.size w W) => variables_any base A Bz n c m d s W (hf.below hW) (hz.below hW) (by omega) (by omega))
  have hlen := Lib.hid hf.len
  clear hf hz
  go_enter Tryz.func37, Tryz.ntmps37
  go_wp2_with fail
  refine (H.out _ (by repeat (first | exact Below.refl _ _ | with_reducible assumption | apply below_alloc | apply below_drewN | apply below_drew | refine below_set ?_ (by simp; try omega) _ | refine below_then ?_ (by with_reducible assumption)))).mono ?_
  rintro e w1 ⟨A', n', c', rfl, hrow, hb⟩
  have hn' : n' ≤ 1000000 := by
    have h1 := varsTo_len s s.fs.length
    have h2 := hrow.len
    have h3 := hlen.out
    unfold varsOf at h2
    omega
  have HI := Lib.hid (fun W (hW : Below w1.heap.size w1 W) => Index_any _ A' n' c' _ fe ki W (hrow.below hW) hn')
  have B1 := Lib.hid (below_then (w := w) (by repeat (first | exact Below.refl _ _ | with_reducible assumption | apply below_alloc | apply below_drewN | apply below_drew | refine below_set ?_ (by simp; try omega) _ | refine below_then ?_ (by with_reducible assumption))) hb)
  clear hb hrow H
  go_wp2_with fail
  refine (HI.out _ (by repeat (first | exact Below.refl _ _ | with_reducible assumption | apply below_alloc | apply below_drewN | apply below_drew | refine below_set ?_ (by simp; try omega) _ | refine below_then ?_ (by with_reducible assumption)))).mono ?_
  rintro e w2 ⟨rfl, hb⟩
  have B2 := Lib.hid (below_then B1.out hb)
  clear hb
  go_wp2_with fail
  go_ret
  exact ⟨rfl, B2.out⟩
end Go.Proofs.YtpifbaiibhaklaaGreatDoor
namespace Go.Proofs.YtpifbaiibhaklaaGreatDoor
open Go.RowKit Big Go.ChangeMaps
set_option maxHeartbeats 400000
set_option linter.unusedVariables false
set_option linter.unusedSimpArgs false

/-- What a list of entries has at an int. -/
def mget : List MapEntry → Int → Option Value
  | [], _ => none
  | x :: r, k => match x.key with
    | .int _ j => if j = k then some x.val else mget r k
    | _ => mget r k
theorem findNow_int (k : Int) : ∀ (es : List MapEntry) (_ : ∀ x ∈ es, ∃ j, x.key = .int .i64 j) (i : Nat), ∃ o, Instr.findNow (.int .i64) (.int .i64 k) es i = some o ∧ o.map (·.2) = mget es k
  | [], _, _ => ⟨none, rfl, rfl⟩
  | x :: r, h, i => by
    obtain ⟨j, hj⟩ := h x (List.mem_cons_self ..)
    unfold Instr.findNow mget
    rw [hj]
    simp only [Instr.sameNow, if_true]
    by_cases hk : k = j
    · subst hk
      exact ⟨some (i, x.val), by simp, by simp⟩
    · have h1 : (k == j) = false := by simpa using hk
      rw [h1]
      obtain ⟨o, ho, hm⟩ := findNow_int k r (fun y hy => h y (List.mem_cons_of_mem _ hy)) (i + 1)
      refine ⟨o, ho, ?_⟩
      rw [hm, if_neg (fun e => hk e.symm)]
section
variable {P : Program} {w : World} {b c : Nat} {es : Array MapEntry} {t kt e : TypeId} {z : Value}
theorem look_int (ht : P.underlying t = some (.map kt e)) (hk : P.underlying kt = some (.int .i64)) (hz : (zeroValue e).run P w = .ok z w) (hb : w.heap[b]? = some (.map es c)) (hes : ∀ x ∈ es.toList, ∃ j, x.key = .int .i64 j) (k : Int) :
    (Instr.lookup t (.map (some b)) (.int .i64 k) true).run P w = .ok (.tuple #[(mget es.toList k).getD z, .bool (mget es.toList k).isSome]) w := by
  obtain ⟨o, h1, h2⟩ := findNow_int k es.toList hes 0
  have hkey : MapKept.IsKey (.int .i64) (.int .i64 k) := by simp [MapKept.IsKey]
  rw [← h2]
  cases o with
  | none => simp [Instr.lookup, run_underlying ht, MapKept.run_getObj_map hb, MapKept.run_checkKey hk hkey, MapKept.run_findKey hk h1, hz, Result.andThen]
  | some r => simp [Instr.lookup, run_underlying ht, MapKept.run_getObj_map hb, MapKept.run_checkKey hk hkey, MapKept.run_findKey hk h1, Result.andThen]
/-- The map's block, written. -/
theorem ins_int (ht : P.underlying t = some (.map kt e)) (hk : P.underlying kt = some (.int .i64)) (hb : w.heap[b]? = some (.map es c)) (hes : ∀ x ∈ es.toList, ∃ j, x.key = .int .i64 j) (k : Int) (v : Value) (hn : mget es.toList k = none) :
    (Instr.mapUpdate t (.map (some b)) (.int .i64 k) v).run P w = .ok () (setBlock w b (.map (es.push { key := .int .i64 k, val := v, born := c }) (c + 1))) := by
  obtain ⟨o, h1, h2⟩ := findNow_int k es.toList hes 0
  have hkey : MapKept.IsKey (.int .i64) (.int .i64 k) := by simp [MapKept.IsKey]
  rw [hn] at h2
  obtain rfl : o = none := by cases o with
    | none => rfl
    | some r => simp at h2
  simp [Instr.mapUpdate, run_underlying ht, MapKept.run_getObj_map hb, MapKept.run_checkKey hk hkey, MapKept.run_findKey hk h1, MapKept.run_setObj_map _ hb, Result.andThen, setBlock]
end
end Go.Proofs.YtpifbaiibhaklaaGreatDoor
namespace Go.Proofs.YtpifbaiibhaklaaGreatDoor
open Go.RowKit Big Go.ChangeMaps
set_option maxHeartbeats 400000
set_option linter.unusedVariables false
set_option linter.unusedSimpArgs false

def bs (l : List UInt8) : ByteArray := ⟨l.toArray⟩
theorem bs_of {s : ByteArray} {l : List UInt8} (h : s.data.toList = l) : s = bs l := by
  subst h
  obtain ⟨⟨x⟩⟩ := s
  rfl
def ratV (m : MR) : Value := .agg #[.bool m.a.p, .slice m.a.A m.a.n m.a.c, .bool m.b.p, .slice m.b.A m.b.n m.b.c]
structure Fac where
  key : Int
  m : MR
  q : Rat
def fget (l : List Fac) (k : Int) : Option Fac := l.find? (fun f => f.key == k)
/-- A block is a map that holds these factors. -/
def IsFac (base : Nat) (w : World) (b : Nat) (l : List Fac) : Prop :=
  (∃ es c, w.heap[b]? = some (.map es c) ∧ es.toList.map (fun x => (x.key, x.val)) = l.map (fun f => (Value.int .i64 f.key, ratV f.m))) ∧ ∀ f ∈ l, IsRat base w f.m f.q ∧ f.q.den = 1 ∧ limR f.q ≤ 1000
theorem IsFac.lt {base : Nat} {w : World} {b : Nat} {l : List Fac} (h : IsFac base w b l) : b < w.heap.size := by
  obtain ⟨⟨es, c, h, _⟩, _⟩ := h
  exact (Array.getElem?_eq_some_iff.1 h).1
theorem IsFac.below {base : Nat} {w w' : World} {b : Nat} {l : List Fac} (h : IsFac base w b l) (hb : Below w.heap.size w w') : IsFac base w' b l := by
  have hlt := h.lt
  obtain ⟨⟨es, c, h1, h2⟩, h3⟩ := h
  exact ⟨⟨es, c, (hb.block b hlt).trans h1, h2⟩, fun f hf => ⟨(h3 f hf).1.below hb, (h3 f hf).2⟩⟩
theorem mget_fget : ∀ (es : List MapEntry) (l : List Fac) (_ : es.map (fun x => (x.key, x.val)) = l.map (fun f => (Value.int .i64 f.key, ratV f.m))) (k : Int), mget es k = (fget l k).map (fun f => ratV f.m)
  | [], [], _, _ => rfl
  | [], _ :: _, h, _ => by simp at h
  | _ :: _, [], h, _ => by simp at h
  | x :: r, f :: t, h, k => by
    simp only [List.map_cons, List.cons.injEq, Prod.mk.injEq] at h
    obtain ⟨⟨h1, h2⟩, h3⟩ := h
    have ih := mget_fget r t h3 k
    unfold mget
    rw [h1]
    unfold fget at ih ⊢
    by_cases hk : f.key = k
    · have : (f.key == k) = true := by simpa using hk
      rw [List.find?_cons_of_pos (by exact this)]
      simp [hk, h2]
    · have : ¬ (f.key == k) = true := by simpa using hk
      rw [List.find?_cons_of_neg (by exact this)]
      simp [hk, ih]
theorem zeroRat (w : World) : (zeroValue 90).run Tryz.prog w = .ok (ratV zMR) w := by kernel_rfl
theorem un_map : Tryz.prog.underlying 93 = some (.map 3 90) := by kernel_rfl
theorem un_int : Tryz.prog.underlying 3 = some (.int .i64) := by kernel_rfl
theorem IsFac.look {base : Nat} {w : World} {b : Nat} {l : List Fac} (h : IsFac base w b l) (k : Int) :
    (Instr.lookup 93 (.map (some b)) (.int .i64 k) true).run Tryz.prog w = .ok (.tuple #[((fget l k).map (fun f => ratV f.m)).getD (ratV zMR), .bool (fget l k).isSome]) w := by
  obtain ⟨⟨es, c, h1, h2⟩, _⟩ := h
  have := look_int (k := k) un_map un_int (zeroRat w) h1 (fun x hx => by
    have : (x.key, x.val) ∈ l.map (fun f => (Value.int .i64 f.key, ratV f.m)) := by rw [← h2]; exact List.mem_map_of_mem hx
    obtain ⟨f, _, hf⟩ := List.mem_map.1 this
    exact ⟨f.key, (Prod.mk.inj hf).1.symm⟩)
  rw [this, mget_fget _ _ h2, Option.isSome_map]

/-- The terms of a form, up to an index. -/
def termsTo (l : List Fac) : Nat → List (Nat × Int)
  | 0 => []
  | i + 1 => termsTo l i ++ (match fget l i with | some f => if f.q.num ≠ 0 then [(i, f.q.num)] else [] | none => [])
theorem termsTo_len (l : List Fac) (i : Nat) : (termsTo l i).length ≤ i := by
  induction i with
  | zero => simp [termsTo]
  | succ i ih =>
    unfold termsTo
    rw [List.length_append]
    split
    · split <;> simp <;> omega
    · simp; omega
def encT (p : Nat × Int) : List Value := [.int .i64 (p.1 : Int), .string (bs (Lib.itoa p.2))]
theorem encT_len (p : Nat × Int) : (encT p).length = 2 := rfl
structure Frm where
  cst : Int
  terms : List (Nat × Int)
theorem info_term : (Tryz.prog.info? 100).map (fun i => (i.zero, i.size, i.bytes)) = some (some (.agg #[.int .i64 0, .string ByteArray.empty]), 2, 24) := by kernel_rfl
/-- A form handed back. -/
def RetForm (f : Frm) (w : World) (e : Ending) (w' : World) : Prop := ∃ A n c, e = .returned (.agg #[.string (bs (Lib.itoa f.cst)), .slice A n c]) ∧ IsRow encT 2 0 100 w' A n c f.terms ∧ Below w.heap.size w w'
end Go.Proofs.YtpifbaiibhaklaaGreatDoor
