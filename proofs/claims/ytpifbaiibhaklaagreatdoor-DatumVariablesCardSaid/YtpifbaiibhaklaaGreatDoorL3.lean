/- Package datum: far, IsName, the searches for zones.
  Package datum: checkFeature. (Printed by gend3.py.)
  Package datum: checkZone. (Printed by gend4.py.) -/
import Derived.Test.YtpifbaiibhaklaaGreatDoorL1
import Derived.Test.YtpifbaiibhaklaaGreatDoorL2
namespace Go.Proofs.YtpifbaiibhaklaaGreatDoor
open Go.RowKit Big
set_option maxHeartbeats 400000
set_option linter.unusedVariables false
set_option linter.unusedSimpArgs false

def farB (x : Int) : Bool := decide (x < -268435456) || decide (268435456 < x)
theorem far_any (x : Int) (w : World) : Calls Tryz.prog 60 #[.int .i64 x] w fun e w' => e = .returned (.bool (farB x)) ∧ w' = w := by
  unfold farB
  by_cases h1 : x < -268435456
  · have e1 : decide (x < -268435456) = true := decide_eq_true h1
    go_enter Tryz.func60, Tryz.ntmps60
    go_wp2_with fail
    go_ret
    exact ⟨by first | rfl | (rw [e1]; rfl), rfl⟩
  · have e1 : decide (x < -268435456) = false := decide_eq_false h1
    go_enter Tryz.func60, Tryz.ntmps60
    go_wp2_with fail
    go_ret
    exact ⟨by first | rfl | (rw [e1]; rfl), rfl⟩

def isName (l : List UInt8) : Bool := decide (0 < l.length) && decide (l.length ≤ 40) && !(l.any fun b => notGraph b.toNat)
theorem IsName_any (s : ByteArray) (w : World) : Calls Tryz.prog 57 #[.string s] w fun e w' => e = .returned (.bool (isName s.data.toList)) ∧ Below w.heap.size w w' := by
  unfold isName
  rw [← Lib.size_eq]
  by_cases h1 : 0 < s.size
  · have e1 : decide (0 < s.size) = true := decide_eq_true h1
    by_cases h2 : s.size ≤ 40
    · have e2 : decide (s.size ≤ 40) = true := decide_eq_true h2
      have H := Lib.hid (fun W => Graph_any s W)
      rw [e1, e2]
      generalize (s.data.toList.any fun b => notGraph b.toNat) = r at H
      go_enter Tryz.func57, Tryz.ntmps57
      go_wp2_with fail
      refine (H.out _).mono ?_
      rintro e w1 ⟨rfl, hb⟩
      have B1 := Lib.hid (below_then (w := w) (by repeat (first | exact Below.refl _ _ | with_reducible assumption | apply below_alloc | apply below_drewN | apply below_drew | refine below_set ?_ (by simp; try omega) _ | refine below_then ?_ (by with_reducible assumption))) hb)
      clear hb
      go_wp2_with fail
      go_ret
      exact ⟨by cases r <;> rfl, B1.out⟩
    · have e2 : decide (s.size ≤ 40) = false := decide_eq_false h2
      rw [e1, e2]
      go_enter Tryz.func57, Tryz.ntmps57
      go_wp2_with fail
      go_ret
      exact ⟨rfl, (by repeat (first | exact Below.refl _ _ | with_reducible assumption | apply below_alloc | apply below_drewN | apply below_drew | refine below_set ?_ (by simp; try omega) _ | refine below_then ?_ (by with_reducible assumption)))⟩
  · have e1 : decide (0 < s.size) = false := decide_eq_false h1
    rw [e1]
    go_enter Tryz.func57, Tryz.ntmps57
    go_wp2_with fail
    go_ret
    exact ⟨rfl, (by repeat (first | exact Below.refl _ _ | with_reducible assumption | apply below_alloc | apply below_drewN | apply below_drew | refine below_set ?_ (by simp; try omega) _ | refine below_then ?_ (by with_reducible assumption)))⟩

/-- The closure of zone. -/
def zoneP (feature kind : Int) (z : Zon) : Bool := z.feature == feature && z.kind == kind
theorem zone_pred (z : Zon) (fe ki : Int) (b1 b2 : Nat) (w : World) (h1 : w.cell? ⟨b1, 0, none⟩ = some (.int .i64 fe)) (h2 : w.cell? ⟨b2, 0, none⟩ = some (.int .i64 ki)) :
    Calls Tryz.prog 56 #[.agg #[.int .i64 z.kind, .int .i64 z.feature, .int .i64 z.lower, .int .i64 z.upper, .bool z.bonus], .pointer (some ⟨b1, 0, none⟩), .pointer (some ⟨b2, 0, none⟩)] w fun e w' => e = .returned (.bool (zoneP fe ki z)) ∧ Below w.heap.size w w' := by
  have hlt : b1 < w.heap.size := World.block_lt_of_cell? w _ h1
  have hne : ¬ b1 = w.heap.size := Nat.ne_of_lt hlt
  have hlt2 : b2 < w.heap.size := World.block_lt_of_cell? w _ h2
  have hne2 : ¬ b2 = w.heap.size := Nat.ne_of_lt hlt2
  unfold zoneP
  by_cases g : z.feature = fe
  · have e1 : (z.feature == fe) = true := by simpa using g
    go_enter Tryz.func56, Tryz.ntmps56
    go_wp2_with fail
    go_ret
    exact ⟨by first | rfl | (rw [e1]; rfl), (by repeat (first | exact Below.refl _ _ | with_reducible assumption | apply below_alloc | apply below_drewN | apply below_drew | refine below_set ?_ (by simp; try omega) _ | refine below_then ?_ (by with_reducible assumption)))⟩
  · have e1 : (z.feature == fe) = false := by simpa using g
    go_enter Tryz.func56, Tryz.ntmps56
    go_wp2_with fail
    go_ret
    exact ⟨by first | rfl | (rw [e1]; rfl), (by repeat (first | exact Below.refl _ _ | with_reducible assumption | apply below_alloc | apply below_drewN | apply below_drew | refine below_set ?_ (by simp; try omega) _ | refine below_then ?_ (by with_reducible assumption)))⟩
/-- The closure of checkZone. -/
def dupP (y z : Zon) : Bool := z.kind == y.kind && z.feature == y.feature
theorem dup_pred (y z : Zon) (b : Nat) (w : World) (h1 : w.cell? ⟨b, 0, none⟩ = some (.int .i64 y.kind)) (h2 : w.cell? ⟨b, 1, none⟩ = some (.int .i64 y.feature)) :
    Calls Tryz.prog 62 #[.agg #[.int .i64 z.kind, .int .i64 z.feature, .int .i64 z.lower, .int .i64 z.upper, .bool z.bonus], .pointer (some ⟨b, 0, none⟩)] w fun e w' => e = .returned (.bool (dupP y z)) ∧ Below w.heap.size w w' := by
  have hlt : b < w.heap.size := World.block_lt_of_cell? w _ h1
  have hne : ¬ b = w.heap.size := Nat.ne_of_lt hlt
  unfold dupP
  by_cases g : z.kind = y.kind
  · have e1 : (z.kind == y.kind) = true := by simpa using g
    go_enter Tryz.func62, Tryz.ntmps62
    go_wp2_with fail
    go_ret
    exact ⟨by first | rfl | (rw [e1]; rfl), (by repeat (first | exact Below.refl _ _ | with_reducible assumption | apply below_alloc | apply below_drewN | apply below_drew | refine below_set ?_ (by simp; try omega) _ | refine below_then ?_ (by with_reducible assumption)))⟩
  · have e1 : (z.kind == y.kind) = false := by simpa using g
    go_enter Tryz.func62, Tryz.ntmps62
    go_wp2_with fail
    go_ret
    exact ⟨by first | rfl | (rw [e1]; rfl), (by repeat (first | exact Below.refl _ _ | with_reducible assumption | apply below_alloc | apply below_drewN | apply below_drew | refine below_set ?_ (by simp; try omega) _ | refine below_then ?_ (by with_reducible assumption)))⟩
theorem Index_zone (base : Nat) (b1 b2 : Nat) (A : Option Addr) (n c : Nat) (fs : List Zon) (p : Zon → Bool) (w : World) (h : IsZs base 30 w A n c fs) (hn : n ≤ 1000000)
    (hp : ∀ f W, Below w.heap.size w W → Calls Tryz.prog 56 #[.agg #[.int .i64 f.kind, .int .i64 f.feature, .int .i64 f.lower, .int .i64 f.upper, .bool f.bonus], .pointer (some ⟨b1, 0, none⟩), .pointer (some ⟨b2, 0, none⟩)] W fun e w' => e = .returned (.bool (p f)) ∧ Below W.heap.size W w') :
    Calls Tryz.prog 55 #[.slice A n c, .func (.func 56) #[] #[.pointer (some ⟨b1, 0, none⟩), .pointer (some ⟨b2, 0, none⟩)]] w fun e w' => e = .returned (.int .i64 (idxI p fs)) ∧ Below w.heap.size w w' := by
  have HP := Lib.hid hp
  have hlen := Lib.hid h.len
  clear hp
  go_enter Tryz.func55, Tryz.ntmps55
  go_wp2_with fail
  go_loopw [8] (fun q wr => ∃ (i : Nat), i ≤ n ∧ q = .int .i64 (i : Int) ∧ Hid ((fs.take i).any p = false) ∧ Below w.heap.size w wr) (fun q _ => n - (intOf q).toNat)
  case atStart => exact ⟨0, Nat.zero_le _, rfl, Lib.hid rfl, (by repeat (first | exact Below.refl _ _ | with_reducible assumption | apply below_alloc | apply below_drewN | apply below_drew | refine below_set ?_ (by simp; try omega) _ | refine below_then ?_ (by with_reducible assumption)))⟩
  case round =>
    obtain ⟨i, hi, rfl, ha, hb⟩ := hrel
    have Hb := Lib.hid hb
    by_cases hlt : i < n
    · obtain ⟨ad, ea, x0, x1, x2, x3, x4⟩ := IsZs.cells (h.below hb) i hlt
      subst ea
      have H1 := Lib.hid (HP.out (fs.getD i zd) wr hb)
      have Hs := Lib.hid (any_take_succ p fs zd i (by rw [hlen.out]; exact hlt))
      have Hf := Lib.hid (idxI_found p fs zd i (by rw [hlen.out]; exact hlt) ha.out)
      clear hb HP
      generalize fs.getD i zd = f at x0 x1 x2 x3 x4 H1 Hs Hf
      go_wp2_with fail
      refine H1.out.mono ?_
      rintro e w1 ⟨rfl, hb⟩
      have B1 := Lib.hid (below_then Hb.out hb)
      clear hb
      cases hpf : p f
      · go_wp2_with fail
        go_roundw
        case rel => exact ⟨i + 1, by omega, by go_num, Lib.hid (by rw [Hs.out, ha.out, hpf]; rfl), B1.out⟩
        case measure => simp [intOf]; omega
      · go_wp2_with fail
        go_ret
        exact ⟨by rw [Hf.out hpf]; rfl, B1.out⟩
    · obtain rfl : i = n := by omega
      have e1 := idxI_none p fs (by have := ha.out; rwa [← hlen.out, List.take_length] at this)
      clear hb HP
      go_wp2_with fail
      go_ret
      exact ⟨by rw [e1]; rfl, Hb.out⟩

theorem Index_dup (base : Nat) (b1 : Nat) (A : Option Addr) (n c : Nat) (fs : List Zon) (p : Zon → Bool) (w : World) (h : IsZs base 30 w A n c fs) (hn : n ≤ 1000000)
    (hp : ∀ f W, Below w.heap.size w W → Calls Tryz.prog 62 #[.agg #[.int .i64 f.kind, .int .i64 f.feature, .int .i64 f.lower, .int .i64 f.upper, .bool f.bonus], .pointer (some ⟨b1, 0, none⟩)] W fun e w' => e = .returned (.bool (p f)) ∧ Below W.heap.size W w') :
    Calls Tryz.prog 55 #[.slice A n c, .func (.func 62) #[] #[.pointer (some ⟨b1, 0, none⟩)]] w fun e w' => e = .returned (.int .i64 (idxI p fs)) ∧ Below w.heap.size w w' := by
  have HP := Lib.hid hp
  have hlen := Lib.hid h.len
  clear hp
  go_enter Tryz.func55, Tryz.ntmps55
  go_wp2_with fail
  go_loopw [8] (fun q wr => ∃ (i : Nat), i ≤ n ∧ q = .int .i64 (i : Int) ∧ Hid ((fs.take i).any p = false) ∧ Below w.heap.size w wr) (fun q _ => n - (intOf q).toNat)
  case atStart => exact ⟨0, Nat.zero_le _, rfl, Lib.hid rfl, (by repeat (first | exact Below.refl _ _ | with_reducible assumption | apply below_alloc | apply below_drewN | apply below_drew | refine below_set ?_ (by simp; try omega) _ | refine below_then ?_ (by with_reducible assumption)))⟩
  case round =>
    obtain ⟨i, hi, rfl, ha, hb⟩ := hrel
    have Hb := Lib.hid hb
    by_cases hlt : i < n
    · obtain ⟨ad, ea, x0, x1, x2, x3, x4⟩ := IsZs.cells (h.below hb) i hlt
      subst ea
      have H1 := Lib.hid (HP.out (fs.getD i zd) wr hb)
      have Hs := Lib.hid (any_take_succ p fs zd i (by rw [hlen.out]; exact hlt))
      have Hf := Lib.hid (idxI_found p fs zd i (by rw [hlen.out]; exact hlt) ha.out)
      clear hb HP
      generalize fs.getD i zd = f at x0 x1 x2 x3 x4 H1 Hs Hf
      go_wp2_with fail
      refine H1.out.mono ?_
      rintro e w1 ⟨rfl, hb⟩
      have B1 := Lib.hid (below_then Hb.out hb)
      clear hb
      cases hpf : p f
      · go_wp2_with fail
        go_roundw
        case rel => exact ⟨i + 1, by omega, by go_num, Lib.hid (by rw [Hs.out, ha.out, hpf]; rfl), B1.out⟩
        case measure => simp [intOf]; omega
      · go_wp2_with fail
        go_ret
        exact ⟨by rw [Hf.out hpf]; rfl, B1.out⟩
    · obtain rfl : i = n := by omega
      have e1 := idxI_none p fs (by have := ha.out; rwa [← hlen.out, List.take_length] at this)
      clear hb HP
      go_wp2_with fail
      go_ret
      exact ⟨by rw [e1]; rfl, Hb.out⟩

theorem ContainsDup_any (base b1 : Nat) (A : Option Addr) (n c : Nat) (fs : List Zon) (p : Zon → Bool) (w : World) (h : IsZs base 30 w A n c fs) (hn : n ≤ 1000000)
    (hp : ∀ f W, Below w.heap.size w W → Calls Tryz.prog 62 #[.agg #[.int .i64 f.kind, .int .i64 f.feature, .int .i64 f.lower, .int .i64 f.upper, .bool f.bonus], .pointer (some ⟨b1, 0, none⟩)] W fun e w' => e = .returned (.bool (p f)) ∧ Below W.heap.size W w') :
    Calls Tryz.prog 61 #[.slice A n c, .func (.func 62) #[] #[.pointer (some ⟨b1, 0, none⟩)]] w fun e w' => e = .returned (.bool (fs.any p)) ∧ Below w.heap.size w w' := by
  have H := Lib.hid (fun W (hW : Below w.heap.size w W) => Index_dup base b1 A n c fs p W (h.below hW) hn (fun f W' hW' => hp f W' (below_then hW hW')))
  have e1 : decide (0 ≤ idxI p fs) = fs.any p := by
    unfold idxI
    cases fs.any p <;> simp
  clear hp h
  generalize idxI p fs = r at H e1
  go_enter Tryz.func61, Tryz.ntmps61
  go_wp2_with fail
  refine (H.out _ (by repeat (first | exact Below.refl _ _ | with_reducible assumption | apply below_alloc | apply below_drewN | apply below_drew | refine below_set ?_ (by simp; try omega) _ | refine below_then ?_ (by with_reducible assumption)))).mono ?_
  rintro e w1 ⟨rfl, hb⟩
  have B1 := Lib.hid (below_then (w := w) (by repeat (first | exact Below.refl _ _ | with_reducible assumption | apply below_alloc | apply below_drewN | apply below_drew | refine below_set ?_ (by simp; try omega) _ | refine below_then ?_ (by with_reducible assumption))) hb)
  clear hb
  go_wp2_with fail
  go_ret
  exact ⟨by rw [← e1]; rfl, B1.out⟩
end Go.Proofs.YtpifbaiibhaklaaGreatDoor
namespace Go.Proofs.YtpifbaiibhaklaaGreatDoor
open Go.RowKit Big
set_option maxHeartbeats 40000000
set_option linter.unusedVariables false
set_option linter.unusedSimpArgs false

theorem IsRow.take {α : Type} {enc : α → List Value} {k base : Nat} {t : TypeId} {w : World} {A : Option Addr} {n c : Nat} {l : List α} (h : IsRow enc k base t w A n c l) (hk : ∀ a, (enc a).length = k) (i : Nat) (hi : i ≤ n) : IsRow enc k base t w A i c (l.take i) := by
  refine ⟨by rw [List.length_take, h.len]; omega, Nat.le_trans hi h.cap, ?_⟩
  have : flat enc (l.take i) = (flat enc l).take (i * k) := by
    have e : flat enc l = flat enc (l.take i) ++ flat enc (l.drop i) := by
      conv => lhs; rw [← List.take_append_drop i l]
      exact List.flatMap_append
    rw [e, List.take_append_of_le_length (by rw [flat_length enc k hk, List.length_take, h.len, Nat.min_eq_left hi]; exact Nat.le_refl _)]
    rw [List.take_of_length_le (l := flat enc (l.take i)) (by rw [flat_length enc k hk, List.length_take, h.len, Nat.min_eq_left hi]; exact Nat.le_refl _)]
  rw [this]
  exact h.reads.take _
theorem cellsAt {base : Nat} {t : TypeId} {w : World} {ad : Addr} {n c : Nat} {l : List Feat} (h : IsFs base t w (some ad) n c l) (i : Nat) (hi : i < n) :
    w.cell? (ad.add (i * 6)) = some (.string (l.getD i fd).name) ∧ w.cell? ⟨(ad.add (i * 6)).block, (ad.add (i * 6)).off + 1, none⟩ = some (.int .i64 (l.getD i fd).kind) ∧ w.cell? ⟨(ad.add (i * 6)).block, (ad.add (i * 6)).off + 2, none⟩ = some (.int .i64 (l.getD i fd).axis) ∧
    w.cell? ⟨(ad.add (i * 6)).block, (ad.add (i * 6)).off + 3, none⟩ = some (.int .i64 (l.getD i fd).datum) ∧ w.cell? ⟨(ad.add (i * 6)).block, (ad.add (i * 6)).off + 4, none⟩ = some (.int .i64 (l.getD i fd).at_) ∧ w.cell? ⟨(ad.add (i * 6)).block, (ad.add (i * 6)).off + 5, none⟩ = some (.int .i64 (l.getD i fd).wide) := by
  obtain ⟨ad', e, hc⟩ := IsFs.cells h i hi
  injection e with e
  subst e
  exact hc
def hasDot (l : List UInt8) : Bool := decide (0 ≤ Lib.indexByte l 46)
def featErr1 (f : Feat) (dup : Bool) (ax : Int) (i : Nat) : Int :=
  if isName f.name.data.toList = false then 11
  else if 30 < f.name.size then 11
  else if hasDot f.name.data.toList = true then 11
  else if dup = true then 9
  else if f.kind ≠ 1 ∧ f.kind ≠ 2 then 12
  else if f.axis < 0 then 2
  else if 2 < f.axis then 2
  else if f.datum < -1 then 2
  else if (i : Int) ≤ f.datum then 2
  else if 0 ≤ f.datum ∧ ax ≠ f.axis then 17
  else if farB f.at_ = true then 2
  else if farB f.wide = true then 2
  else if f.kind = 2 ∧ f.wide < 1 then 2
  else if f.kind = 1 ∧ f.wide ≠ 0 then 3
  else 0
/-- The error of a feature. -/
def featErr (fs : List Feat) (i : Nat) : Int := featErr1 (fs.getD i fd) ((fs.take i).any (fun g => g.name.toList == (fs.getD i fd).name.toList)) (fs.getD (fs.getD i fd).datum.toNat fd).axis i

theorem fe_0 (name : ByteArray) (kind axis datum at_ wide : Int) (dup : Bool) (ax : Int) (i : Nat) (e1 : isName name.data.toList = false) : featErr1 ⟨name, kind, axis, datum, at_, wide⟩ dup ax i = 11 := by
  simp only [featErr1, e1] <;> (repeat' split) <;> first | rfl | omega | simp_all
theorem fe_1 (name : ByteArray) (kind axis datum at_ wide : Int) (dup : Bool) (ax : Int) (i : Nat) (e1 : isName name.data.toList = true) (h2 : 30 < name.size) : featErr1 ⟨name, kind, axis, datum, at_, wide⟩ dup ax i = 11 := by
  simp only [featErr1, e1] <;> (repeat' split) <;> first | rfl | omega | simp_all
theorem fe_2 (name : ByteArray) (kind axis datum at_ wide : Int) (dup : Bool) (ax : Int) (i : Nat) (e1 : isName name.data.toList = true) (h2 : ¬ 30 < name.size) (e2 : hasDot name.data.toList = false) (a1 : axis < 0) : featErr1 ⟨name, 1, axis, datum, at_, wide⟩ false ax i = 2 := by
  simp only [featErr1, e1, e2] <;> (repeat' split) <;> first | rfl | omega | simp_all
theorem fe_3 (name : ByteArray) (kind axis datum at_ wide : Int) (dup : Bool) (ax : Int) (i : Nat) (e1 : isName name.data.toList = true) (h2 : ¬ 30 < name.size) (e2 : hasDot name.data.toList = false) (a1 : ¬ axis < 0) (a2 : 2 < axis) : featErr1 ⟨name, 1, axis, datum, at_, wide⟩ false ax i = 2 := by
  simp only [featErr1, e1, e2] <;> (repeat' split) <;> first | rfl | omega | simp_all
theorem fe_4 (name : ByteArray) (kind axis datum at_ wide : Int) (dup : Bool) (ax : Int) (i : Nat) (e1 : isName name.data.toList = true) (h2 : ¬ 30 < name.size) (e2 : hasDot name.data.toList = false) (a1 : ¬ axis < 0) (a2 : ¬ 2 < axis) (a3 : datum < -1) : featErr1 ⟨name, 1, axis, datum, at_, wide⟩ false ax i = 2 := by
  simp only [featErr1, e1, e2] <;> (repeat' split) <;> first | rfl | omega | simp_all
theorem fe_5 (name : ByteArray) (kind axis datum at_ wide : Int) (dup : Bool) (ax : Int) (i : Nat) (e1 : isName name.data.toList = true) (h2 : ¬ 30 < name.size) (e2 : hasDot name.data.toList = false) (a1 : ¬ axis < 0) (a2 : ¬ 2 < axis) (a3 : ¬ datum < -1) (a4 : (i : Int) ≤ datum) : featErr1 ⟨name, 1, axis, datum, at_, wide⟩ false ax i = 2 := by
  simp only [featErr1, e1, e2] <;> (repeat' split) <;> first | rfl | omega | simp_all
theorem fe_6 (name : ByteArray) (kind axis datum at_ wide : Int) (dup : Bool) (ax : Int) (i : Nat) (e1 : isName name.data.toList = true) (h2 : ¬ 30 < name.size) (e2 : hasDot name.data.toList = false) (a1 : ¬ axis < 0) (a2 : ¬ 2 < axis) (a3 : ¬ datum < -1) (a4 : ¬ (i : Int) ≤ datum) (a5 : 0 ≤ datum) (g : ax = axis) (e3 : farB at_ = false) (e4 : farB wide = false) (b1 : wide = 0) : featErr1 ⟨name, 1, axis, datum, at_, wide⟩ false ax i = 0 := by
  simp only [featErr1, e1, e2, e3, e4] <;> (repeat' split) <;> first | rfl | omega | simp_all
theorem fe_7 (name : ByteArray) (kind axis datum at_ wide : Int) (dup : Bool) (ax : Int) (i : Nat) (e1 : isName name.data.toList = true) (h2 : ¬ 30 < name.size) (e2 : hasDot name.data.toList = false) (a1 : ¬ axis < 0) (a2 : ¬ 2 < axis) (a3 : ¬ datum < -1) (a4 : ¬ (i : Int) ≤ datum) (a5 : 0 ≤ datum) (g : ax = axis) (e3 : farB at_ = false) (e4 : farB wide = false) (b1 : ¬ wide = 0) : featErr1 ⟨name, 1, axis, datum, at_, wide⟩ false ax i = 3 := by
  simp only [featErr1, e1, e2, e3, e4] <;> (repeat' split) <;> first | rfl | omega | simp_all
theorem fe_8 (name : ByteArray) (kind axis datum at_ wide : Int) (dup : Bool) (ax : Int) (i : Nat) (e1 : isName name.data.toList = true) (h2 : ¬ 30 < name.size) (e2 : hasDot name.data.toList = false) (a1 : ¬ axis < 0) (a2 : ¬ 2 < axis) (a3 : ¬ datum < -1) (a4 : ¬ (i : Int) ≤ datum) (a5 : 0 ≤ datum) (g : ax = axis) (e3 : farB at_ = false) (e4 : farB wide = true) : featErr1 ⟨name, 1, axis, datum, at_, wide⟩ false ax i = 2 := by
  simp only [featErr1, e1, e2, e3, e4] <;> (repeat' split) <;> first | rfl | omega | simp_all
theorem fe_9 (name : ByteArray) (kind axis datum at_ wide : Int) (dup : Bool) (ax : Int) (i : Nat) (e1 : isName name.data.toList = true) (h2 : ¬ 30 < name.size) (e2 : hasDot name.data.toList = false) (a1 : ¬ axis < 0) (a2 : ¬ 2 < axis) (a3 : ¬ datum < -1) (a4 : ¬ (i : Int) ≤ datum) (a5 : 0 ≤ datum) (g : ax = axis) (e3 : farB at_ = true) : featErr1 ⟨name, 1, axis, datum, at_, wide⟩ false ax i = 2 := by
  simp only [featErr1, e1, e2, e3] <;> (repeat' split) <;> first | rfl | omega | simp_all
theorem fe_10 (name : ByteArray) (kind axis datum at_ wide : Int) (dup : Bool) (ax : Int) (i : Nat) (e1 : isName name.data.toList = true) (h2 : ¬ 30 < name.size) (e2 : hasDot name.data.toList = false) (a1 : ¬ axis < 0) (a2 : ¬ 2 < axis) (a3 : ¬ datum < -1) (a4 : ¬ (i : Int) ≤ datum) (a5 : 0 ≤ datum) (g : ¬ ax = axis) : featErr1 ⟨name, 1, axis, datum, at_, wide⟩ false ax i = 17 := by
  simp only [featErr1, e1, e2] <;> (repeat' split) <;> first | rfl | omega | simp_all
theorem fe_11 (name : ByteArray) (kind axis datum at_ wide : Int) (dup : Bool) (ax : Int) (i : Nat) (e1 : isName name.data.toList = true) (h2 : ¬ 30 < name.size) (e2 : hasDot name.data.toList = false) (a1 : ¬ axis < 0) (a2 : ¬ 2 < axis) (a3 : ¬ datum < -1) (a4 : ¬ (i : Int) ≤ datum) (a5 : ¬ 0 ≤ datum) (e3 : farB at_ = false) (e4 : farB wide = false) (b1 : wide = 0) : featErr1 ⟨name, 1, axis, datum, at_, wide⟩ false ax i = 0 := by
  simp only [featErr1, e1, e2, e3, e4] <;> (repeat' split) <;> first | rfl | omega | simp_all
theorem fe_12 (name : ByteArray) (kind axis datum at_ wide : Int) (dup : Bool) (ax : Int) (i : Nat) (e1 : isName name.data.toList = true) (h2 : ¬ 30 < name.size) (e2 : hasDot name.data.toList = false) (a1 : ¬ axis < 0) (a2 : ¬ 2 < axis) (a3 : ¬ datum < -1) (a4 : ¬ (i : Int) ≤ datum) (a5 : ¬ 0 ≤ datum) (e3 : farB at_ = false) (e4 : farB wide = false) (b1 : ¬ wide = 0) : featErr1 ⟨name, 1, axis, datum, at_, wide⟩ false ax i = 3 := by
  simp only [featErr1, e1, e2, e3, e4] <;> (repeat' split) <;> first | rfl | omega | simp_all
theorem fe_13 (name : ByteArray) (kind axis datum at_ wide : Int) (dup : Bool) (ax : Int) (i : Nat) (e1 : isName name.data.toList = true) (h2 : ¬ 30 < name.size) (e2 : hasDot name.data.toList = false) (a1 : ¬ axis < 0) (a2 : ¬ 2 < axis) (a3 : ¬ datum < -1) (a4 : ¬ (i : Int) ≤ datum) (a5 : ¬ 0 ≤ datum) (e3 : farB at_ = false) (e4 : farB wide = true) : featErr1 ⟨name, 1, axis, datum, at_, wide⟩ false ax i = 2 := by
  simp only [featErr1, e1, e2, e3, e4] <;> (repeat' split) <;> first | rfl | omega | simp_all
theorem fe_14 (name : ByteArray) (kind axis datum at_ wide : Int) (dup : Bool) (ax : Int) (i : Nat) (e1 : isName name.data.toList = true) (h2 : ¬ 30 < name.size) (e2 : hasDot name.data.toList = false) (a1 : ¬ axis < 0) (a2 : ¬ 2 < axis) (a3 : ¬ datum < -1) (a4 : ¬ (i : Int) ≤ datum) (a5 : ¬ 0 ≤ datum) (e3 : farB at_ = true) : featErr1 ⟨name, 1, axis, datum, at_, wide⟩ false ax i = 2 := by
  simp only [featErr1, e1, e2, e3] <;> (repeat' split) <;> first | rfl | omega | simp_all
theorem fe_15 (name : ByteArray) (kind axis datum at_ wide : Int) (dup : Bool) (ax : Int) (i : Nat) (e1 : isName name.data.toList = true) (h2 : ¬ 30 < name.size) (e2 : hasDot name.data.toList = false) (a1 : axis < 0) : featErr1 ⟨name, 2, axis, datum, at_, wide⟩ false ax i = 2 := by
  simp only [featErr1, e1, e2] <;> (repeat' split) <;> first | rfl | omega | simp_all
theorem fe_16 (name : ByteArray) (kind axis datum at_ wide : Int) (dup : Bool) (ax : Int) (i : Nat) (e1 : isName name.data.toList = true) (h2 : ¬ 30 < name.size) (e2 : hasDot name.data.toList = false) (a1 : ¬ axis < 0) (a2 : 2 < axis) : featErr1 ⟨name, 2, axis, datum, at_, wide⟩ false ax i = 2 := by
  simp only [featErr1, e1, e2] <;> (repeat' split) <;> first | rfl | omega | simp_all
theorem fe_17 (name : ByteArray) (kind axis datum at_ wide : Int) (dup : Bool) (ax : Int) (i : Nat) (e1 : isName name.data.toList = true) (h2 : ¬ 30 < name.size) (e2 : hasDot name.data.toList = false) (a1 : ¬ axis < 0) (a2 : ¬ 2 < axis) (a3 : datum < -1) : featErr1 ⟨name, 2, axis, datum, at_, wide⟩ false ax i = 2 := by
  simp only [featErr1, e1, e2] <;> (repeat' split) <;> first | rfl | omega | simp_all
theorem fe_18 (name : ByteArray) (kind axis datum at_ wide : Int) (dup : Bool) (ax : Int) (i : Nat) (e1 : isName name.data.toList = true) (h2 : ¬ 30 < name.size) (e2 : hasDot name.data.toList = false) (a1 : ¬ axis < 0) (a2 : ¬ 2 < axis) (a3 : ¬ datum < -1) (a4 : (i : Int) ≤ datum) : featErr1 ⟨name, 2, axis, datum, at_, wide⟩ false ax i = 2 := by
  simp only [featErr1, e1, e2] <;> (repeat' split) <;> first | rfl | omega | simp_all
theorem fe_19 (name : ByteArray) (kind axis datum at_ wide : Int) (dup : Bool) (ax : Int) (i : Nat) (e1 : isName name.data.toList = true) (h2 : ¬ 30 < name.size) (e2 : hasDot name.data.toList = false) (a1 : ¬ axis < 0) (a2 : ¬ 2 < axis) (a3 : ¬ datum < -1) (a4 : ¬ (i : Int) ≤ datum) (a5 : 0 ≤ datum) (g : ax = axis) (e3 : farB at_ = false) (e4 : farB wide = false) (b1 : wide < 1) : featErr1 ⟨name, 2, axis, datum, at_, wide⟩ false ax i = 2 := by
  simp only [featErr1, e1, e2, e3, e4] <;> (repeat' split) <;> first | rfl | omega | simp_all
theorem fe_20 (name : ByteArray) (kind axis datum at_ wide : Int) (dup : Bool) (ax : Int) (i : Nat) (e1 : isName name.data.toList = true) (h2 : ¬ 30 < name.size) (e2 : hasDot name.data.toList = false) (a1 : ¬ axis < 0) (a2 : ¬ 2 < axis) (a3 : ¬ datum < -1) (a4 : ¬ (i : Int) ≤ datum) (a5 : 0 ≤ datum) (g : ax = axis) (e3 : farB at_ = false) (e4 : farB wide = false) (b1 : ¬ wide < 1) : featErr1 ⟨name, 2, axis, datum, at_, wide⟩ false ax i = 0 := by
  simp only [featErr1, e1, e2, e3, e4] <;> (repeat' split) <;> first | rfl | omega | simp_all
theorem fe_21 (name : ByteArray) (kind axis datum at_ wide : Int) (dup : Bool) (ax : Int) (i : Nat) (e1 : isName name.data.toList = true) (h2 : ¬ 30 < name.size) (e2 : hasDot name.data.toList = false) (a1 : ¬ axis < 0) (a2 : ¬ 2 < axis) (a3 : ¬ datum < -1) (a4 : ¬ (i : Int) ≤ datum) (a5 : 0 ≤ datum) (g : ax = axis) (e3 : farB at_ = false) (e4 : farB wide = true) : featErr1 ⟨name, 2, axis, datum, at_, wide⟩ false ax i = 2 := by
  simp only [featErr1, e1, e2, e3, e4] <;> (repeat' split) <;> first | rfl | omega | simp_all
theorem fe_22 (name : ByteArray) (kind axis datum at_ wide : Int) (dup : Bool) (ax : Int) (i : Nat) (e1 : isName name.data.toList = true) (h2 : ¬ 30 < name.size) (e2 : hasDot name.data.toList = false) (a1 : ¬ axis < 0) (a2 : ¬ 2 < axis) (a3 : ¬ datum < -1) (a4 : ¬ (i : Int) ≤ datum) (a5 : 0 ≤ datum) (g : ax = axis) (e3 : farB at_ = true) : featErr1 ⟨name, 2, axis, datum, at_, wide⟩ false ax i = 2 := by
  simp only [featErr1, e1, e2, e3] <;> (repeat' split) <;> first | rfl | omega | simp_all
theorem fe_23 (name : ByteArray) (kind axis datum at_ wide : Int) (dup : Bool) (ax : Int) (i : Nat) (e1 : isName name.data.toList = true) (h2 : ¬ 30 < name.size) (e2 : hasDot name.data.toList = false) (a1 : ¬ axis < 0) (a2 : ¬ 2 < axis) (a3 : ¬ datum < -1) (a4 : ¬ (i : Int) ≤ datum) (a5 : 0 ≤ datum) (g : ¬ ax = axis) : featErr1 ⟨name, 2, axis, datum, at_, wide⟩ false ax i = 17 := by
  simp only [featErr1, e1, e2] <;> (repeat' split) <;> first | rfl | omega | simp_all
theorem fe_24 (name : ByteArray) (kind axis datum at_ wide : Int) (dup : Bool) (ax : Int) (i : Nat) (e1 : isName name.data.toList = true) (h2 : ¬ 30 < name.size) (e2 : hasDot name.data.toList = false) (a1 : ¬ axis < 0) (a2 : ¬ 2 < axis) (a3 : ¬ datum < -1) (a4 : ¬ (i : Int) ≤ datum) (a5 : ¬ 0 ≤ datum) (e3 : farB at_ = false) (e4 : farB wide = false) (b1 : wide < 1) : featErr1 ⟨name, 2, axis, datum, at_, wide⟩ false ax i = 2 := by
  simp only [featErr1, e1, e2, e3, e4] <;> (repeat' split) <;> first | rfl | omega | simp_all
theorem fe_25 (name : ByteArray) (kind axis datum at_ wide : Int) (dup : Bool) (ax : Int) (i : Nat) (e1 : isName name.data.toList = true) (h2 : ¬ 30 < name.size) (e2 : hasDot name.data.toList = false) (a1 : ¬ axis < 0) (a2 : ¬ 2 < axis) (a3 : ¬ datum < -1) (a4 : ¬ (i : Int) ≤ datum) (a5 : ¬ 0 ≤ datum) (e3 : farB at_ = false) (e4 : farB wide = false) (b1 : ¬ wide < 1) : featErr1 ⟨name, 2, axis, datum, at_, wide⟩ false ax i = 0 := by
  simp only [featErr1, e1, e2, e3, e4] <;> (repeat' split) <;> first | rfl | omega | simp_all
theorem fe_26 (name : ByteArray) (kind axis datum at_ wide : Int) (dup : Bool) (ax : Int) (i : Nat) (e1 : isName name.data.toList = true) (h2 : ¬ 30 < name.size) (e2 : hasDot name.data.toList = false) (a1 : ¬ axis < 0) (a2 : ¬ 2 < axis) (a3 : ¬ datum < -1) (a4 : ¬ (i : Int) ≤ datum) (a5 : ¬ 0 ≤ datum) (e3 : farB at_ = false) (e4 : farB wide = true) : featErr1 ⟨name, 2, axis, datum, at_, wide⟩ false ax i = 2 := by
  simp only [featErr1, e1, e2, e3, e4] <;> (repeat' split) <;> first | rfl | omega | simp_all
theorem fe_27 (name : ByteArray) (kind axis datum at_ wide : Int) (dup : Bool) (ax : Int) (i : Nat) (e1 : isName name.data.toList = true) (h2 : ¬ 30 < name.size) (e2 : hasDot name.data.toList = false) (a1 : ¬ axis < 0) (a2 : ¬ 2 < axis) (a3 : ¬ datum < -1) (a4 : ¬ (i : Int) ≤ datum) (a5 : ¬ 0 ≤ datum) (e3 : farB at_ = true) : featErr1 ⟨name, 2, axis, datum, at_, wide⟩ false ax i = 2 := by
  simp only [featErr1, e1, e2, e3] <;> (repeat' split) <;> first | rfl | omega | simp_all
theorem fe_28 (name : ByteArray) (kind axis datum at_ wide : Int) (dup : Bool) (ax : Int) (i : Nat) (e1 : isName name.data.toList = true) (h2 : ¬ 30 < name.size) (e2 : hasDot name.data.toList = false) (k1 : ¬ kind = 1) (k2 : ¬ kind = 2) : featErr1 ⟨name, kind, axis, datum, at_, wide⟩ false ax i = 12 := by
  simp only [featErr1, e1, e2] <;> (repeat' split) <;> first | rfl | omega | simp_all
theorem fe_29 (name : ByteArray) (kind axis datum at_ wide : Int) (dup : Bool) (ax : Int) (i : Nat) (e1 : isName name.data.toList = true) (h2 : ¬ 30 < name.size) (e2 : hasDot name.data.toList = false) : featErr1 ⟨name, kind, axis, datum, at_, wide⟩ true ax i = 9 := by
  simp only [featErr1, e1, e2] <;> (repeat' split) <;> first | rfl | omega | simp_all
theorem fe_30 (name : ByteArray) (kind axis datum at_ wide : Int) (dup : Bool) (ax : Int) (i : Nat) (e1 : isName name.data.toList = true) (h2 : ¬ 30 < name.size) (e2 : hasDot name.data.toList = true) : featErr1 ⟨name, kind, axis, datum, at_, wide⟩ dup ax i = 11 := by
  simp only [featErr1, e1, e2] <;> (repeat' split) <;> first | rfl | omega | simp_all

set_option maxRecDepth 100000 in
theorem checkFeature_any (base : Nat) (A Bz : Option Addr) (n c m d : Nat) (fs : List Feat) (i : Nat) (w : World) (h : IsFs base 28 w A n c fs) (hi : i < n) (hn : n ≤ 1000000) :
    Calls Tryz.prog 35 #[.agg #[.slice A n c, .slice Bz m d], .int .i64 (i : Int)] w fun e w' => e = .returned (.int .i64 (featErr fs i)) ∧ Below w.heap.size w w' := by
  obtain ⟨ad, ea, c0, c1, c2, c3, c4, c5⟩ := IsFs.cells h i hi
  subst ea
  have hcap := h.cap
  have hic : i ≤ c := by omega
  have i0 : (0 : Int) ≤ (i : Int) := by omega
  have i1 : (i : Int) < (n : Int) := by omega
  have i2 : (i : Int) ≤ (c : Int) := by omega
  unfold featErr
  generalize hax : (fs.getD (fs.getD i fd).datum.toNat fd).axis = ax
  have H3 := Lib.hid (fun W (hW : Below w.heap.size w W) b (hb : W.cell? ⟨b, 0, none⟩ = some (.string (fs.getD i fd).name)) => ContainsF_any base b (some ad) i c (fs.take i) (fun g => g.name.toList == (fs.getD i fd).name.toList) W ((h.below hW).take encF_len i (by omega)) (by omega) (fun g W' hW' => same_name g _ b W' (cell_below hW' hb)))
  generalize (fs.take i).any (fun g => g.name.toList == (fs.getD i fd).name.toList) = dup at H3
  generalize fs.getD i fd = f at *
  obtain ⟨name, kind, axis, datum, at_, wide⟩ := f
  dsimp only at c0 c1 c2 c3 c4 c5 H3 hax
  have H1 := Lib.hid (fun W => IsName_any name W)
  have H2 := Lib.hid (fun W => Tryz.strings_Contains_one name 46 W)
  rw [show decide (0 ≤ Lib.indexByte name.data.toList 46) = hasDot name.data.toList from rfl] at H2
  have H5 := Lib.hid (fun W => far_any at_ W)
  have H6 := Lib.hid (fun W => far_any wide W)
  have hlt : (ad.add (i * 6)).block < w.heap.size := World.block_lt_of_cell? w _ c0
  have hne : ¬ (ad.add (i * 6)).block = w.heap.size := Nat.ne_of_lt hlt
  generalize e1 : isName name.data.toList = r1 at H1
  generalize e2 : hasDot name.data.toList = r2 at H2
  generalize e3 : farB at_ = f1 at H5
  generalize e4 : farB wide = f2 at H6
  go_enter Tryz.func35, Tryz.ntmps35
  go_wp2_with fail
  refine (H1.out _).mono ?_
  rintro e w1 ⟨rfl, hb⟩
  have p0 := keptc hb (w.heap.size) 0 (.slice (some ad) n c) (by first | with_reducible assumption | (simp [go_sem]; done)); have p1 := keptc hb (w.heap.size) 1 (.slice Bz m d) (by first | with_reducible assumption | (simp [go_sem]; done)); have fp0 := keptF hb (g := w.heap.size) (o := 0) (v := .slice (some ad) n c) (by first | with_reducible assumption | (simp [go_sem]; done)) (by first | with_reducible assumption | (simp [go_sem]; done)); have fp1 := keptF hb (g := w.heap.size) (o := 1) (v := .slice Bz m d) (by first | with_reducible assumption | (simp [go_sem]; done)) (by first | with_reducible assumption | (simp [go_sem]; done))
  have q0 := keptc hb (w.heap.size + 1) 0 (.string name) (by first | with_reducible assumption | (simp [go_sem]; done)); have q1 := keptc hb (w.heap.size + 1) 1 (.int .i64 kind) (by first | with_reducible assumption | (simp [go_sem]; done)); have q2 := keptc hb (w.heap.size + 1) 2 (.int .i64 axis) (by first | with_reducible assumption | (simp [go_sem]; done)); have q3 := keptc hb (w.heap.size + 1) 3 (.int .i64 datum) (by first | with_reducible assumption | (simp [go_sem]; done)); have q4 := keptc hb (w.heap.size + 1) 4 (.int .i64 at_) (by first | with_reducible assumption | (simp [go_sem]; done)); have q5 := keptc hb (w.heap.size + 1) 5 (.int .i64 wide) (by first | with_reducible assumption | (simp [go_sem]; done)); have fq0 := keptF hb (g := w.heap.size + 1) (o := 0) (v := .string name) (by first | with_reducible assumption | (simp [go_sem]; done)) (by first | with_reducible assumption | (simp [go_sem]; done)); have fq1 := keptF hb (g := w.heap.size + 1) (o := 1) (v := .int .i64 kind) (by first | with_reducible assumption | (simp [go_sem]; done)) (by first | with_reducible assumption | (simp [go_sem]; done)); have fq2 := keptF hb (g := w.heap.size + 1) (o := 2) (v := .int .i64 axis) (by first | with_reducible assumption | (simp [go_sem]; done)) (by first | with_reducible assumption | (simp [go_sem]; done)); have fq3 := keptF hb (g := w.heap.size + 1) (o := 3) (v := .int .i64 datum) (by first | with_reducible assumption | (simp [go_sem]; done)) (by first | with_reducible assumption | (simp [go_sem]; done)); have fq4 := keptF hb (g := w.heap.size + 1) (o := 4) (v := .int .i64 at_) (by first | with_reducible assumption | (simp [go_sem]; done)) (by first | with_reducible assumption | (simp [go_sem]; done)); have fq5 := keptF hb (g := w.heap.size + 1) (o := 5) (v := .int .i64 wide) (by first | with_reducible assumption | (simp [go_sem]; done)) (by first | with_reducible assumption | (simp [go_sem]; done))
  have B1 := Lib.hid (below_then (w := w) (by repeat (first | exact Below.refl _ _ | with_reducible assumption | apply below_alloc | apply below_drewN | apply below_drew | refine below_set ?_ (by simp; try omega) _ | refine below_then ?_ (by with_reducible assumption))) hb)
  clear hb
  cases r1
  · skip
    have hv : featErr1 ⟨name, kind, axis, datum, at_, wide⟩ dup ax i = 11 := fe_0 _ _ _ _ _ _ _ _ _ e1
    go_wp2_with fail
    go_ret
    exact ⟨by first | rfl | (rw [hv]; rfl), by have b := B1.out; exact (by repeat (first | exact Below.refl _ _ | with_reducible assumption | apply below_alloc | apply below_drewN | apply below_drew | refine below_set ?_ (by simp; try omega) _ | refine below_then ?_ (by with_reducible assumption)))⟩
  · skip
    by_cases h2 : 30 < name.size
    · have h2d : decide (30 < name.size) = true := decide_eq_true h2
      have hv : featErr1 ⟨name, kind, axis, datum, at_, wide⟩ dup ax i = 11 := fe_1 _ _ _ _ _ _ _ _ _ e1 (by omega)
      go_wp2_with fail
      go_ret
      exact ⟨by first | rfl | (rw [hv]; rfl), by have b := B1.out; exact (by repeat (first | exact Below.refl _ _ | with_reducible assumption | apply below_alloc | apply below_drewN | apply below_drew | refine below_set ?_ (by simp; try omega) _ | refine below_then ?_ (by with_reducible assumption)))⟩
    · have h2d : decide (30 < name.size) = false := decide_eq_false h2
      go_wp2_with fail
      refine (H2.out _).mono ?_
      rintro e w2 ⟨rfl, rfl⟩
      cases r2
      · skip
        go_wp2_with fail
        refine (H3.out _ B1.out _ q0).mono ?_
        rintro e w3 ⟨rfl, hb⟩
        have x0 := keptc hb (w.heap.size) 0 (.slice (some ad) n c) (by first | with_reducible assumption | (simp [go_sem]; done)); have x1 := keptc hb (w.heap.size) 1 (.slice Bz m d) (by first | with_reducible assumption | (simp [go_sem]; done)); have fx0 := keptF hb (g := w.heap.size) (o := 0) (v := .slice (some ad) n c) (by first | with_reducible assumption | (simp [go_sem]; done)) (by first | with_reducible assumption | (simp [go_sem]; done)); have fx1 := keptF hb (g := w.heap.size) (o := 1) (v := .slice Bz m d) (by first | with_reducible assumption | (simp [go_sem]; done)) (by first | with_reducible assumption | (simp [go_sem]; done))
        have y0 := keptc hb (w.heap.size + 1) 0 (.string name) (by first | with_reducible assumption | (simp [go_sem]; done)); have y1 := keptc hb (w.heap.size + 1) 1 (.int .i64 kind) (by first | with_reducible assumption | (simp [go_sem]; done)); have y2 := keptc hb (w.heap.size + 1) 2 (.int .i64 axis) (by first | with_reducible assumption | (simp [go_sem]; done)); have y3 := keptc hb (w.heap.size + 1) 3 (.int .i64 datum) (by first | with_reducible assumption | (simp [go_sem]; done)); have y4 := keptc hb (w.heap.size + 1) 4 (.int .i64 at_) (by first | with_reducible assumption | (simp [go_sem]; done)); have y5 := keptc hb (w.heap.size + 1) 5 (.int .i64 wide) (by first | with_reducible assumption | (simp [go_sem]; done)); have fy0 := keptF hb (g := w.heap.size + 1) (o := 0) (v := .string name) (by first | with_reducible assumption | (simp [go_sem]; done)) (by first | with_reducible assumption | (simp [go_sem]; done)); have fy1 := keptF hb (g := w.heap.size + 1) (o := 1) (v := .int .i64 kind) (by first | with_reducible assumption | (simp [go_sem]; done)) (by first | with_reducible assumption | (simp [go_sem]; done)); have fy2 := keptF hb (g := w.heap.size + 1) (o := 2) (v := .int .i64 axis) (by first | with_reducible assumption | (simp [go_sem]; done)) (by first | with_reducible assumption | (simp [go_sem]; done)); have fy3 := keptF hb (g := w.heap.size + 1) (o := 3) (v := .int .i64 datum) (by first | with_reducible assumption | (simp [go_sem]; done)) (by first | with_reducible assumption | (simp [go_sem]; done)); have fy4 := keptF hb (g := w.heap.size + 1) (o := 4) (v := .int .i64 at_) (by first | with_reducible assumption | (simp [go_sem]; done)) (by first | with_reducible assumption | (simp [go_sem]; done)); have fy5 := keptF hb (g := w.heap.size + 1) (o := 5) (v := .int .i64 wide) (by first | with_reducible assumption | (simp [go_sem]; done)) (by first | with_reducible assumption | (simp [go_sem]; done))
        have B3 := Lib.hid (below_then B1.out hb)
        clear hb p0 p1 q0 q1 q2 q3 q4 q5 fp0 fp1 fq0 fq1 fq2 fq3 fq4 fq5 c0 c1 c2 c3 c4 c5 H1 H2 H3
        cases dup
        · skip
          by_cases k1 : kind = 1
          · subst k1
            by_cases a1 : axis < 0
            · have a1d : decide (axis < 0) = true := decide_eq_true a1
              have hv : featErr1 ⟨name, 1, axis, datum, at_, wide⟩ false ax i = 2 := fe_2 _ 0 _ _ _ _ false _ _ e1 (by omega) e2 (by omega)
              go_wp2_with fail
              go_ret
              exact ⟨by first | rfl | (rw [hv]; rfl), by have b := B3.out; exact (by repeat (first | exact Below.refl _ _ | with_reducible assumption | apply below_alloc | apply below_drewN | apply below_drew | refine below_set ?_ (by simp; try omega) _ | refine below_then ?_ (by with_reducible assumption)))⟩
            · have a1d : decide (axis < 0) = false := decide_eq_false a1
              by_cases a2 : 2 < axis
              · have a2d : decide (2 < axis) = true := decide_eq_true a2
                have hv : featErr1 ⟨name, 1, axis, datum, at_, wide⟩ false ax i = 2 := fe_3 _ 0 _ _ _ _ false _ _ e1 (by omega) e2 (by omega) (by omega)
                go_wp2_with fail
                go_ret
                exact ⟨by first | rfl | (rw [hv]; rfl), by have b := B3.out; exact (by repeat (first | exact Below.refl _ _ | with_reducible assumption | apply below_alloc | apply below_drewN | apply below_drew | refine below_set ?_ (by simp; try omega) _ | refine below_then ?_ (by with_reducible assumption)))⟩
              · have a2d : decide (2 < axis) = false := decide_eq_false a2
                by_cases a3 : datum < -1
                · have a3d : decide (datum < -1) = true := decide_eq_true a3
                  have hv : featErr1 ⟨name, 1, axis, datum, at_, wide⟩ false ax i = 2 := fe_4 _ 0 _ _ _ _ false _ _ e1 (by omega) e2 (by omega) (by omega) (by omega)
                  go_wp2_with fail
                  go_ret
                  exact ⟨by first | rfl | (rw [hv]; rfl), by have b := B3.out; exact (by repeat (first | exact Below.refl _ _ | with_reducible assumption | apply below_alloc | apply below_drewN | apply below_drew | refine below_set ?_ (by simp; try omega) _ | refine below_then ?_ (by with_reducible assumption)))⟩
                · have a3d : decide (datum < -1) = false := decide_eq_false a3
                  by_cases a4 : (i : Int) ≤ datum
                  · have a4d : decide ((i : Int) ≤ datum) = true := decide_eq_true a4
                    have hv : featErr1 ⟨name, 1, axis, datum, at_, wide⟩ false ax i = 2 := fe_5 _ 0 _ _ _ _ false _ _ e1 (by omega) e2 (by omega) (by omega) (by omega) (by omega)
                    go_wp2_with fail
                    go_ret
                    exact ⟨by first | rfl | (rw [hv]; rfl), by have b := B3.out; exact (by repeat (first | exact Below.refl _ _ | with_reducible assumption | apply below_alloc | apply below_drewN | apply below_drew | refine below_set ?_ (by simp; try omega) _ | refine below_then ?_ (by with_reducible assumption)))⟩
                  · have a4d : decide ((i : Int) ≤ datum) = false := decide_eq_false a4
                    by_cases a5 : 0 ≤ datum
                    · have a5d : decide (0 ≤ datum) = true := decide_eq_true a5
                      obtain ⟨kk, rfl⟩ := Int.eq_ofNat_of_zero_le a5
                      have kk1 : kk < n := by omega
                      have kk2 : (0 : Int) ≤ (kk : Int) := by omega
                      have kk3 : (kk : Int) < (n : Int) := by omega
                      have C3 := (cellsAt (h.below B3.out) kk kk1).2.2.1
                      rw [show ((kk : Nat) : Int).toNat = kk from rfl] at hax
                      rw [hax] at C3
                      by_cases g : ax = axis
                      · have gd : (ax != axis) = false := by simpa using g
                        go_wp2_with fail
                        go_quiet (fail)
                        go_wp2_with fail
                        refine (H5.out _).mono ?_
                        rintro e w4 ⟨rfl, rfl⟩
                        cases f1
                        · skip
                          go_wp2_with fail
                          refine (H6.out _).mono ?_
                          rintro e w5 ⟨rfl, rfl⟩
                          cases f2
                          · skip
                            by_cases b1 : wide = 0
                            · have b1d : (wide != 0) = false := by simpa using b1
                              have hv : featErr1 ⟨name, 1, axis, (kk : Int), at_, wide⟩ false ax i = 0 := fe_6 _ 0 _ _ _ _ false _ _ e1 (by omega) e2 (by omega) (by omega) (by omega) (by omega) (by omega) (by omega) e3 e4 (by omega)
                              go_wp2_with fail
                              go_ret
                              exact ⟨by first | rfl | (rw [hv]; rfl), by have b := B3.out; exact (by repeat (first | exact Below.refl _ _ | with_reducible assumption | apply below_alloc | apply below_drewN | apply below_drew | refine below_set ?_ (by simp; try omega) _ | refine below_then ?_ (by with_reducible assumption)))⟩
                            · have b1d : (wide != 0) = true := by simpa using b1
                              have hv : featErr1 ⟨name, 1, axis, (kk : Int), at_, wide⟩ false ax i = 3 := fe_7 _ 0 _ _ _ _ false _ _ e1 (by omega) e2 (by omega) (by omega) (by omega) (by omega) (by omega) (by omega) e3 e4 (by omega)
                              go_wp2_with fail
                              go_ret
                              exact ⟨by first | rfl | (rw [hv]; rfl), by have b := B3.out; exact (by repeat (first | exact Below.refl _ _ | with_reducible assumption | apply below_alloc | apply below_drewN | apply below_drew | refine below_set ?_ (by simp; try omega) _ | refine below_then ?_ (by with_reducible assumption)))⟩
                          · skip
                            have hv : featErr1 ⟨name, 1, axis, (kk : Int), at_, wide⟩ false ax i = 2 := fe_8 _ 0 _ _ _ _ false _ _ e1 (by omega) e2 (by omega) (by omega) (by omega) (by omega) (by omega) (by omega) e3 e4
                            go_wp2_with fail
                            go_ret
                            exact ⟨by first | rfl | (rw [hv]; rfl), by have b := B3.out; exact (by repeat (first | exact Below.refl _ _ | with_reducible assumption | apply below_alloc | apply below_drewN | apply below_drew | refine below_set ?_ (by simp; try omega) _ | refine below_then ?_ (by with_reducible assumption)))⟩
                        · skip
                          have hv : featErr1 ⟨name, 1, axis, (kk : Int), at_, wide⟩ false ax i = 2 := fe_9 _ 0 _ _ _ _ false _ _ e1 (by omega) e2 (by omega) (by omega) (by omega) (by omega) (by omega) (by omega) e3
                          go_wp2_with fail
                          go_ret
                          exact ⟨by first | rfl | (rw [hv]; rfl), by have b := B3.out; exact (by repeat (first | exact Below.refl _ _ | with_reducible assumption | apply below_alloc | apply below_drewN | apply below_drew | refine below_set ?_ (by simp; try omega) _ | refine below_then ?_ (by with_reducible assumption)))⟩
                      · have gd : (ax != axis) = true := by simpa using g
                        have hv : featErr1 ⟨name, 1, axis, (kk : Int), at_, wide⟩ false ax i = 17 := fe_10 _ 0 _ _ _ _ false _ _ e1 (by omega) e2 (by omega) (by omega) (by omega) (by omega) (by omega) (by omega)
                        go_wp2_with fail
                        go_quiet (fail)
                        go_wp2_with fail
                        go_ret
                        exact ⟨by first | rfl | (rw [hv]; rfl), by have b := B3.out; exact (by repeat (first | exact Below.refl _ _ | with_reducible assumption | apply below_alloc | apply below_drewN | apply below_drew | refine below_set ?_ (by simp; try omega) _ | refine below_then ?_ (by with_reducible assumption)))⟩
                    · have a5d : decide (0 ≤ datum) = false := decide_eq_false a5
                      go_wp2_with fail
                      go_quiet (fail)
                      go_wp2_with fail
                      refine (H5.out _).mono ?_
                      rintro e w4 ⟨rfl, rfl⟩
                      cases f1
                      · skip
                        go_wp2_with fail
                        refine (H6.out _).mono ?_
                        rintro e w5 ⟨rfl, rfl⟩
                        cases f2
                        · skip
                          by_cases b1 : wide = 0
                          · have b1d : (wide != 0) = false := by simpa using b1
                            have hv : featErr1 ⟨name, 1, axis, datum, at_, wide⟩ false ax i = 0 := fe_11 _ 0 _ _ _ _ false _ _ e1 (by omega) e2 (by omega) (by omega) (by omega) (by omega) (by omega) e3 e4 (by omega)
                            go_wp2_with fail
                            go_ret
                            exact ⟨by first | rfl | (rw [hv]; rfl), by have b := B3.out; exact (by repeat (first | exact Below.refl _ _ | with_reducible assumption | apply below_alloc | apply below_drewN | apply below_drew | refine below_set ?_ (by simp; try omega) _ | refine below_then ?_ (by with_reducible assumption)))⟩
                          · have b1d : (wide != 0) = true := by simpa using b1
                            have hv : featErr1 ⟨name, 1, axis, datum, at_, wide⟩ false ax i = 3 := fe_12 _ 0 _ _ _ _ false _ _ e1 (by omega) e2 (by omega) (by omega) (by omega) (by omega) (by omega) e3 e4 (by omega)
                            go_wp2_with fail
                            go_ret
                            exact ⟨by first | rfl | (rw [hv]; rfl), by have b := B3.out; exact (by repeat (first | exact Below.refl _ _ | with_reducible assumption | apply below_alloc | apply below_drewN | apply below_drew | refine below_set ?_ (by simp; try omega) _ | refine below_then ?_ (by with_reducible assumption)))⟩
                        · skip
                          have hv : featErr1 ⟨name, 1, axis, datum, at_, wide⟩ false ax i = 2 := fe_13 _ 0 _ _ _ _ false _ _ e1 (by omega) e2 (by omega) (by omega) (by omega) (by omega) (by omega) e3 e4
                          go_wp2_with fail
                          go_ret
                          exact ⟨by first | rfl | (rw [hv]; rfl), by have b := B3.out; exact (by repeat (first | exact Below.refl _ _ | with_reducible assumption | apply below_alloc | apply below_drewN | apply below_drew | refine below_set ?_ (by simp; try omega) _ | refine below_then ?_ (by with_reducible assumption)))⟩
                      · skip
                        have hv : featErr1 ⟨name, 1, axis, datum, at_, wide⟩ false ax i = 2 := fe_14 _ 0 _ _ _ _ false _ _ e1 (by omega) e2 (by omega) (by omega) (by omega) (by omega) (by omega) e3
                        go_wp2_with fail
                        go_ret
                        exact ⟨by first | rfl | (rw [hv]; rfl), by have b := B3.out; exact (by repeat (first | exact Below.refl _ _ | with_reducible assumption | apply below_alloc | apply below_drewN | apply below_drew | refine below_set ?_ (by simp; try omega) _ | refine below_then ?_ (by with_reducible assumption)))⟩
          · by_cases k2 : kind = 2
            · subst k2
              by_cases a1 : axis < 0
              · have a1d : decide (axis < 0) = true := decide_eq_true a1
                have hv : featErr1 ⟨name, 2, axis, datum, at_, wide⟩ false ax i = 2 := fe_15 _ 0 _ _ _ _ false _ _ e1 (by omega) e2 (by omega)
                go_wp2_with fail
                go_ret
                exact ⟨by first | rfl | (rw [hv]; rfl), by have b := B3.out; exact (by repeat (first | exact Below.refl _ _ | with_reducible assumption | apply below_alloc | apply below_drewN | apply below_drew | refine below_set ?_ (by simp; try omega) _ | refine below_then ?_ (by with_reducible assumption)))⟩
              · have a1d : decide (axis < 0) = false := decide_eq_false a1
                by_cases a2 : 2 < axis
                · have a2d : decide (2 < axis) = true := decide_eq_true a2
                  have hv : featErr1 ⟨name, 2, axis, datum, at_, wide⟩ false ax i = 2 := fe_16 _ 0 _ _ _ _ false _ _ e1 (by omega) e2 (by omega) (by omega)
                  go_wp2_with fail
                  go_ret
                  exact ⟨by first | rfl | (rw [hv]; rfl), by have b := B3.out; exact (by repeat (first | exact Below.refl _ _ | with_reducible assumption | apply below_alloc | apply below_drewN | apply below_drew | refine below_set ?_ (by simp; try omega) _ | refine below_then ?_ (by with_reducible assumption)))⟩
                · have a2d : decide (2 < axis) = false := decide_eq_false a2
                  by_cases a3 : datum < -1
                  · have a3d : decide (datum < -1) = true := decide_eq_true a3
                    have hv : featErr1 ⟨name, 2, axis, datum, at_, wide⟩ false ax i = 2 := fe_17 _ 0 _ _ _ _ false _ _ e1 (by omega) e2 (by omega) (by omega) (by omega)
                    go_wp2_with fail
                    go_ret
                    exact ⟨by first | rfl | (rw [hv]; rfl), by have b := B3.out; exact (by repeat (first | exact Below.refl _ _ | with_reducible assumption | apply below_alloc | apply below_drewN | apply below_drew | refine below_set ?_ (by simp; try omega) _ | refine below_then ?_ (by with_reducible assumption)))⟩
                  · have a3d : decide (datum < -1) = false := decide_eq_false a3
                    by_cases a4 : (i : Int) ≤ datum
                    · have a4d : decide ((i : Int) ≤ datum) = true := decide_eq_true a4
                      have hv : featErr1 ⟨name, 2, axis, datum, at_, wide⟩ false ax i = 2 := fe_18 _ 0 _ _ _ _ false _ _ e1 (by omega) e2 (by omega) (by omega) (by omega) (by omega)
                      go_wp2_with fail
                      go_ret
                      exact ⟨by first | rfl | (rw [hv]; rfl), by have b := B3.out; exact (by repeat (first | exact Below.refl _ _ | with_reducible assumption | apply below_alloc | apply below_drewN | apply below_drew | refine below_set ?_ (by simp; try omega) _ | refine below_then ?_ (by with_reducible assumption)))⟩
                    · have a4d : decide ((i : Int) ≤ datum) = false := decide_eq_false a4
                      by_cases a5 : 0 ≤ datum
                      · have a5d : decide (0 ≤ datum) = true := decide_eq_true a5
                        obtain ⟨kk, rfl⟩ := Int.eq_ofNat_of_zero_le a5
                        have kk1 : kk < n := by omega
                        have kk2 : (0 : Int) ≤ (kk : Int) := by omega
                        have kk3 : (kk : Int) < (n : Int) := by omega
                        have C3 := (cellsAt (h.below B3.out) kk kk1).2.2.1
                        rw [show ((kk : Nat) : Int).toNat = kk from rfl] at hax
                        rw [hax] at C3
                        by_cases g : ax = axis
                        · have gd : (ax != axis) = false := by simpa using g
                          go_wp2_with fail
                          go_quiet (fail)
                          go_wp2_with fail
                          refine (H5.out _).mono ?_
                          rintro e w4 ⟨rfl, rfl⟩
                          cases f1
                          · skip
                            go_wp2_with fail
                            refine (H6.out _).mono ?_
                            rintro e w5 ⟨rfl, rfl⟩
                            cases f2
                            · skip
                              by_cases b1 : wide < 1
                              · have b1d : decide (wide < 1) = true := decide_eq_true b1
                                have hv : featErr1 ⟨name, 2, axis, (kk : Int), at_, wide⟩ false ax i = 2 := fe_19 _ 0 _ _ _ _ false _ _ e1 (by omega) e2 (by omega) (by omega) (by omega) (by omega) (by omega) (by omega) e3 e4 (by omega)
                                go_wp2_with fail
                                go_ret
                                exact ⟨by first | rfl | (rw [hv]; rfl), by have b := B3.out; exact (by repeat (first | exact Below.refl _ _ | with_reducible assumption | apply below_alloc | apply below_drewN | apply below_drew | refine below_set ?_ (by simp; try omega) _ | refine below_then ?_ (by with_reducible assumption)))⟩
                              · have b1d : decide (wide < 1) = false := decide_eq_false b1
                                have hv : featErr1 ⟨name, 2, axis, (kk : Int), at_, wide⟩ false ax i = 0 := fe_20 _ 0 _ _ _ _ false _ _ e1 (by omega) e2 (by omega) (by omega) (by omega) (by omega) (by omega) (by omega) e3 e4 (by omega)
                                go_wp2_with fail
                                go_ret
                                exact ⟨by first | rfl | (rw [hv]; rfl), by have b := B3.out; exact (by repeat (first | exact Below.refl _ _ | with_reducible assumption | apply below_alloc | apply below_drewN | apply below_drew | refine below_set ?_ (by simp; try omega) _ | refine below_then ?_ (by with_reducible assumption)))⟩
                            · skip
                              have hv : featErr1 ⟨name, 2, axis, (kk : Int), at_, wide⟩ false ax i = 2 := fe_21 _ 0 _ _ _ _ false _ _ e1 (by omega) e2 (by omega) (by omega) (by omega) (by omega) (by omega) (by omega) e3 e4
                              go_wp2_with fail
                              go_ret
                              exact ⟨by first | rfl | (rw [hv]; rfl), by have b := B3.out; exact (by repeat (first | exact Below.refl _ _ | with_reducible assumption | apply below_alloc | apply below_drewN | apply below_drew | refine below_set ?_ (by simp; try omega) _ | refine below_then ?_ (by with_reducible assumption)))⟩
                          · skip
                            have hv : featErr1 ⟨name, 2, axis, (kk : Int), at_, wide⟩ false ax i = 2 := fe_22 _ 0 _ _ _ _ false _ _ e1 (by omega) e2 (by omega) (by omega) (by omega) (by omega) (by omega) (by omega) e3
                            go_wp2_with fail
                            go_ret
                            exact ⟨by first | rfl | (rw [hv]; rfl), by have b := B3.out; exact (by repeat (first | exact Below.refl _ _ | with_reducible assumption | apply below_alloc | apply below_drewN | apply below_drew | refine below_set ?_ (by simp; try omega) _ | refine below_then ?_ (by with_reducible assumption)))⟩
                        · have gd : (ax != axis) = true := by simpa using g
                          have hv : featErr1 ⟨name, 2, axis, (kk : Int), at_, wide⟩ false ax i = 17 := fe_23 _ 0 _ _ _ _ false _ _ e1 (by omega) e2 (by omega) (by omega) (by omega) (by omega) (by omega) (by omega)
                          go_wp2_with fail
                          go_quiet (fail)
                          go_wp2_with fail
                          go_ret
                          exact ⟨by first | rfl | (rw [hv]; rfl), by have b := B3.out; exact (by repeat (first | exact Below.refl _ _ | with_reducible assumption | apply below_alloc | apply below_drewN | apply below_drew | refine below_set ?_ (by simp; try omega) _ | refine below_then ?_ (by with_reducible assumption)))⟩
                      · have a5d : decide (0 ≤ datum) = false := decide_eq_false a5
                        go_wp2_with fail
                        go_quiet (fail)
                        go_wp2_with fail
                        refine (H5.out _).mono ?_
                        rintro e w4 ⟨rfl, rfl⟩
                        cases f1
                        · skip
                          go_wp2_with fail
                          refine (H6.out _).mono ?_
                          rintro e w5 ⟨rfl, rfl⟩
                          cases f2
                          · skip
                            by_cases b1 : wide < 1
                            · have b1d : decide (wide < 1) = true := decide_eq_true b1
                              have hv : featErr1 ⟨name, 2, axis, datum, at_, wide⟩ false ax i = 2 := fe_24 _ 0 _ _ _ _ false _ _ e1 (by omega) e2 (by omega) (by omega) (by omega) (by omega) (by omega) e3 e4 (by omega)
                              go_wp2_with fail
                              go_ret
                              exact ⟨by first | rfl | (rw [hv]; rfl), by have b := B3.out; exact (by repeat (first | exact Below.refl _ _ | with_reducible assumption | apply below_alloc | apply below_drewN | apply below_drew | refine below_set ?_ (by simp; try omega) _ | refine below_then ?_ (by with_reducible assumption)))⟩
                            · have b1d : decide (wide < 1) = false := decide_eq_false b1
                              have hv : featErr1 ⟨name, 2, axis, datum, at_, wide⟩ false ax i = 0 := fe_25 _ 0 _ _ _ _ false _ _ e1 (by omega) e2 (by omega) (by omega) (by omega) (by omega) (by omega) e3 e4 (by omega)
                              go_wp2_with fail
                              go_ret
                              exact ⟨by first | rfl | (rw [hv]; rfl), by have b := B3.out; exact (by repeat (first | exact Below.refl _ _ | with_reducible assumption | apply below_alloc | apply below_drewN | apply below_drew | refine below_set ?_ (by simp; try omega) _ | refine below_then ?_ (by with_reducible assumption)))⟩
                          · skip
                            have hv : featErr1 ⟨name, 2, axis, datum, at_, wide⟩ false ax i = 2 := fe_26 _ 0 _ _ _ _ false _ _ e1 (by omega) e2 (by omega) (by omega) (by omega) (by omega) (by omega) e3 e4
                            go_wp2_with fail
                            go_ret
                            exact ⟨by first | rfl | (rw [hv]; rfl), by have b := B3.out; exact (by repeat (first | exact Below.refl _ _ | with_reducible assumption | apply below_alloc | apply below_drewN | apply below_drew | refine below_set ?_ (by simp; try omega) _ | refine below_then ?_ (by with_reducible assumption)))⟩
                        · skip
                          have hv : featErr1 ⟨name, 2, axis, datum, at_, wide⟩ false ax i = 2 := fe_27 _ 0 _ _ _ _ false _ _ e1 (by omega) e2 (by omega) (by omega) (by omega) (by omega) (by omega) e3
                          go_wp2_with fail
                          go_ret
                          exact ⟨by first | rfl | (rw [hv]; rfl), by have b := B3.out; exact (by repeat (first | exact Below.refl _ _ | with_reducible assumption | apply below_alloc | apply below_drewN | apply below_drew | refine below_set ?_ (by simp; try omega) _ | refine below_then ?_ (by with_reducible assumption)))⟩
            · have k1d : (kind == 1) = false := by simpa using k1
              have k2d : (kind == 2) = false := by simpa using k2
              have k3d : (kind != 1) = true := by simpa using k1
              have k4d : (kind != 2) = true := by simpa using k2
              have hv : featErr1 ⟨name, kind, axis, datum, at_, wide⟩ false ax i = 12 := fe_28 _ _ _ _ _ _ false _ _ e1 (by omega) e2 (by omega) (by omega)
              go_wp2_with fail
              go_ret
              exact ⟨by first | rfl | (rw [hv]; rfl), by have b := B3.out; exact (by repeat (first | exact Below.refl _ _ | with_reducible assumption | apply below_alloc | apply below_drewN | apply below_drew | refine below_set ?_ (by simp; try omega) _ | refine below_then ?_ (by with_reducible assumption)))⟩
        · skip
          have hv : featErr1 ⟨name, kind, axis, datum, at_, wide⟩ true ax i = 9 := fe_29 _ _ _ _ _ _ false _ _ e1 (by omega) e2
          go_wp2_with fail
          go_ret
          exact ⟨by first | rfl | (rw [hv]; rfl), by have b := B3.out; exact (by repeat (first | exact Below.refl _ _ | with_reducible assumption | apply below_alloc | apply below_drewN | apply below_drew | refine below_set ?_ (by simp; try omega) _ | refine below_then ?_ (by with_reducible assumption)))⟩
      · skip
        have hv : featErr1 ⟨name, kind, axis, datum, at_, wide⟩ dup ax i = 11 := fe_30 _ _ _ _ _ _ _ _ _ e1 (by omega) e2
        go_wp2_with fail
        go_ret
        exact ⟨by first | rfl | (rw [hv]; rfl), by have b := B1.out; exact (by repeat (first | exact Below.refl _ _ | with_reducible assumption | apply below_alloc | apply below_drewN | apply below_drew | refine below_set ?_ (by simp; try omega) _ | refine below_then ?_ (by with_reducible assumption)))⟩
end Go.Proofs.YtpifbaiibhaklaaGreatDoor
namespace Go.Proofs.YtpifbaiibhaklaaGreatDoor
open Go.RowKit Big
set_option maxHeartbeats 40000000
set_option linter.unusedVariables false
set_option linter.unusedSimpArgs false

def zoneErr1 (z : Zon) (n : Nat) (slot dup : Bool) : Int :=
  if z.kind < 1 then 12
  else if 3 < z.kind then 12
  else if z.feature < 0 then 10
  else if (n : Int) ≤ z.feature then 10
  else if (z.kind = 2 ∧ slot = false) ∨ (z.kind = 3 ∧ slot = true) ∨ (z.bonus = true ∧ (z.kind ≠ 1 ∨ slot = false)) then 3
  else if farB z.lower = true then 2
  else if farB z.upper = true then 2
  else if z.upper < z.lower then 8
  else if dup = true then 9
  else 0
/-- The error of a zone. -/
def zoneErr (fs : List Feat) (zs : List Zon) (i : Nat) : Int := zoneErr1 (zs.getD i zd) fs.length ((fs.getD (zs.getD i zd).feature.toNat fd).kind == 2) ((zs.take i).any (dupP (zs.getD i zd)))
theorem zcellsAt {base : Nat} {t : TypeId} {w : World} {ad : Addr} {n c : Nat} {l : List Zon} (h : IsZs base t w (some ad) n c l) (i : Nat) (hi : i < n) :
    w.cell? (ad.add (i * 5)) = some (.int .i64 (l.getD i zd).kind) ∧ w.cell? ⟨(ad.add (i * 5)).block, (ad.add (i * 5)).off + 1, none⟩ = some (.int .i64 (l.getD i zd).feature) ∧ w.cell? ⟨(ad.add (i * 5)).block, (ad.add (i * 5)).off + 2, none⟩ = some (.int .i64 (l.getD i zd).lower) ∧
    w.cell? ⟨(ad.add (i * 5)).block, (ad.add (i * 5)).off + 3, none⟩ = some (.int .i64 (l.getD i zd).upper) ∧ w.cell? ⟨(ad.add (i * 5)).block, (ad.add (i * 5)).off + 4, none⟩ = some (.bool (l.getD i zd).bonus) := by
  obtain ⟨ad', e, hc⟩ := IsZs.cells h i hi
  injection e with e
  subst e
  exact hc
theorem ze_0 (kind feature lower upper : Int) (bonus slot dup : Bool) (n : Nat) (a1 : kind < 1) : zoneErr1 ⟨kind, feature, lower, upper, bonus⟩ n slot dup = 12 := by
  simp only [zoneErr1] <;> (repeat' split) <;> first | rfl | omega | simp_all
theorem ze_1 (kind feature lower upper : Int) (bonus slot dup : Bool) (n : Nat) (a1 : ¬ kind < 1) (a2 : 3 < kind) : zoneErr1 ⟨kind, feature, lower, upper, bonus⟩ n slot dup = 12 := by
  simp only [zoneErr1] <;> (repeat' split) <;> first | rfl | omega | simp_all
theorem ze_2 (kind feature lower upper : Int) (bonus slot dup : Bool) (n : Nat) (a1 : ¬ kind < 1) (a2 : ¬ 3 < kind) (a3 : feature < 0) : zoneErr1 ⟨kind, feature, lower, upper, bonus⟩ n slot dup = 10 := by
  simp only [zoneErr1] <;> (repeat' split) <;> first | rfl | omega | simp_all
theorem ze_3 (kind feature lower upper : Int) (bonus slot dup : Bool) (n : Nat) (a1 : ¬ kind < 1) (a2 : ¬ 3 < kind) (a3 : ¬ feature < 0) (a4 : (n : Int) ≤ feature) : zoneErr1 ⟨kind, feature, lower, upper, bonus⟩ n slot dup = 10 := by
  simp only [zoneErr1] <;> (repeat' split) <;> first | rfl | omega | simp_all
theorem ze_4 (kind feature lower upper : Int) (bonus slot dup : Bool) (n : Nat) (a1 : ¬ 1 < 1) (a2 : ¬ 3 < 1) (a3 : ¬ feature < 0) (a4 : ¬ (n : Int) ≤ feature) (e3 : farB lower = false) (e4 : farB upper = false) (b1 : upper < lower) : zoneErr1 ⟨1, feature, lower, upper, false⟩ n false dup = 8 := by
  simp only [zoneErr1, e3, e4] <;> (repeat' split) <;> first | rfl | omega | simp_all
theorem ze_5 (kind feature lower upper : Int) (bonus slot dup : Bool) (n : Nat) (a1 : ¬ 1 < 1) (a2 : ¬ 3 < 1) (a3 : ¬ feature < 0) (a4 : ¬ (n : Int) ≤ feature) (e3 : farB lower = false) (e4 : farB upper = false) (b1 : ¬ upper < lower) : zoneErr1 ⟨1, feature, lower, upper, false⟩ n false false = 0 := by
  simp only [zoneErr1, e3, e4] <;> (repeat' split) <;> first | rfl | omega | simp_all
theorem ze_6 (kind feature lower upper : Int) (bonus slot dup : Bool) (n : Nat) (a1 : ¬ 1 < 1) (a2 : ¬ 3 < 1) (a3 : ¬ feature < 0) (a4 : ¬ (n : Int) ≤ feature) (e3 : farB lower = false) (e4 : farB upper = false) (b1 : ¬ upper < lower) : zoneErr1 ⟨1, feature, lower, upper, false⟩ n false true = 9 := by
  simp only [zoneErr1, e3, e4] <;> (repeat' split) <;> first | rfl | omega | simp_all
theorem ze_7 (kind feature lower upper : Int) (bonus slot dup : Bool) (n : Nat) (a1 : ¬ 1 < 1) (a2 : ¬ 3 < 1) (a3 : ¬ feature < 0) (a4 : ¬ (n : Int) ≤ feature) (e3 : farB lower = false) (e4 : farB upper = true) : zoneErr1 ⟨1, feature, lower, upper, false⟩ n false dup = 2 := by
  simp only [zoneErr1, e3, e4] <;> (repeat' split) <;> first | rfl | omega | simp_all
theorem ze_8 (kind feature lower upper : Int) (bonus slot dup : Bool) (n : Nat) (a1 : ¬ 1 < 1) (a2 : ¬ 3 < 1) (a3 : ¬ feature < 0) (a4 : ¬ (n : Int) ≤ feature) (e3 : farB lower = true) : zoneErr1 ⟨1, feature, lower, upper, false⟩ n false dup = 2 := by
  simp only [zoneErr1, e3] <;> (repeat' split) <;> first | rfl | omega | simp_all
theorem ze_9 (kind feature lower upper : Int) (bonus slot dup : Bool) (n : Nat) (a1 : ¬ 1 < 1) (a2 : ¬ 3 < 1) (a3 : ¬ feature < 0) (a4 : ¬ (n : Int) ≤ feature) : zoneErr1 ⟨1, feature, lower, upper, true⟩ n false dup = 3 := by
  simp only [zoneErr1] <;> (repeat' split) <;> first | rfl | omega | simp_all
theorem ze_10 (kind feature lower upper : Int) (bonus slot dup : Bool) (n : Nat) (a1 : ¬ 1 < 1) (a2 : ¬ 3 < 1) (a3 : ¬ feature < 0) (a4 : ¬ (n : Int) ≤ feature) (e3 : farB lower = false) (e4 : farB upper = false) (b1 : upper < lower) : zoneErr1 ⟨1, feature, lower, upper, false⟩ n true dup = 8 := by
  simp only [zoneErr1, e3, e4] <;> (repeat' split) <;> first | rfl | omega | simp_all
theorem ze_11 (kind feature lower upper : Int) (bonus slot dup : Bool) (n : Nat) (a1 : ¬ 1 < 1) (a2 : ¬ 3 < 1) (a3 : ¬ feature < 0) (a4 : ¬ (n : Int) ≤ feature) (e3 : farB lower = false) (e4 : farB upper = false) (b1 : ¬ upper < lower) : zoneErr1 ⟨1, feature, lower, upper, false⟩ n true false = 0 := by
  simp only [zoneErr1, e3, e4] <;> (repeat' split) <;> first | rfl | omega | simp_all
theorem ze_12 (kind feature lower upper : Int) (bonus slot dup : Bool) (n : Nat) (a1 : ¬ 1 < 1) (a2 : ¬ 3 < 1) (a3 : ¬ feature < 0) (a4 : ¬ (n : Int) ≤ feature) (e3 : farB lower = false) (e4 : farB upper = false) (b1 : ¬ upper < lower) : zoneErr1 ⟨1, feature, lower, upper, false⟩ n true true = 9 := by
  simp only [zoneErr1, e3, e4] <;> (repeat' split) <;> first | rfl | omega | simp_all
theorem ze_13 (kind feature lower upper : Int) (bonus slot dup : Bool) (n : Nat) (a1 : ¬ 1 < 1) (a2 : ¬ 3 < 1) (a3 : ¬ feature < 0) (a4 : ¬ (n : Int) ≤ feature) (e3 : farB lower = false) (e4 : farB upper = true) : zoneErr1 ⟨1, feature, lower, upper, false⟩ n true dup = 2 := by
  simp only [zoneErr1, e3, e4] <;> (repeat' split) <;> first | rfl | omega | simp_all
theorem ze_14 (kind feature lower upper : Int) (bonus slot dup : Bool) (n : Nat) (a1 : ¬ 1 < 1) (a2 : ¬ 3 < 1) (a3 : ¬ feature < 0) (a4 : ¬ (n : Int) ≤ feature) (e3 : farB lower = true) : zoneErr1 ⟨1, feature, lower, upper, false⟩ n true dup = 2 := by
  simp only [zoneErr1, e3] <;> (repeat' split) <;> first | rfl | omega | simp_all
theorem ze_15 (kind feature lower upper : Int) (bonus slot dup : Bool) (n : Nat) (a1 : ¬ 1 < 1) (a2 : ¬ 3 < 1) (a3 : ¬ feature < 0) (a4 : ¬ (n : Int) ≤ feature) (e3 : farB lower = false) (e4 : farB upper = false) (b1 : upper < lower) : zoneErr1 ⟨1, feature, lower, upper, true⟩ n true dup = 8 := by
  simp only [zoneErr1, e3, e4] <;> (repeat' split) <;> first | rfl | omega | simp_all
theorem ze_16 (kind feature lower upper : Int) (bonus slot dup : Bool) (n : Nat) (a1 : ¬ 1 < 1) (a2 : ¬ 3 < 1) (a3 : ¬ feature < 0) (a4 : ¬ (n : Int) ≤ feature) (e3 : farB lower = false) (e4 : farB upper = false) (b1 : ¬ upper < lower) : zoneErr1 ⟨1, feature, lower, upper, true⟩ n true false = 0 := by
  simp only [zoneErr1, e3, e4] <;> (repeat' split) <;> first | rfl | omega | simp_all
theorem ze_17 (kind feature lower upper : Int) (bonus slot dup : Bool) (n : Nat) (a1 : ¬ 1 < 1) (a2 : ¬ 3 < 1) (a3 : ¬ feature < 0) (a4 : ¬ (n : Int) ≤ feature) (e3 : farB lower = false) (e4 : farB upper = false) (b1 : ¬ upper < lower) : zoneErr1 ⟨1, feature, lower, upper, true⟩ n true true = 9 := by
  simp only [zoneErr1, e3, e4] <;> (repeat' split) <;> first | rfl | omega | simp_all
theorem ze_18 (kind feature lower upper : Int) (bonus slot dup : Bool) (n : Nat) (a1 : ¬ 1 < 1) (a2 : ¬ 3 < 1) (a3 : ¬ feature < 0) (a4 : ¬ (n : Int) ≤ feature) (e3 : farB lower = false) (e4 : farB upper = true) : zoneErr1 ⟨1, feature, lower, upper, true⟩ n true dup = 2 := by
  simp only [zoneErr1, e3, e4] <;> (repeat' split) <;> first | rfl | omega | simp_all
theorem ze_19 (kind feature lower upper : Int) (bonus slot dup : Bool) (n : Nat) (a1 : ¬ 1 < 1) (a2 : ¬ 3 < 1) (a3 : ¬ feature < 0) (a4 : ¬ (n : Int) ≤ feature) (e3 : farB lower = true) : zoneErr1 ⟨1, feature, lower, upper, true⟩ n true dup = 2 := by
  simp only [zoneErr1, e3] <;> (repeat' split) <;> first | rfl | omega | simp_all
theorem ze_20 (kind feature lower upper : Int) (bonus slot dup : Bool) (n : Nat) (a1 : ¬ 2 < 1) (a2 : ¬ 3 < 2) (a3 : ¬ feature < 0) (a4 : ¬ (n : Int) ≤ feature) : zoneErr1 ⟨2, feature, lower, upper, false⟩ n false dup = 3 := by
  simp only [zoneErr1] <;> (repeat' split) <;> first | rfl | omega | simp_all
theorem ze_21 (kind feature lower upper : Int) (bonus slot dup : Bool) (n : Nat) (a1 : ¬ 2 < 1) (a2 : ¬ 3 < 2) (a3 : ¬ feature < 0) (a4 : ¬ (n : Int) ≤ feature) : zoneErr1 ⟨2, feature, lower, upper, true⟩ n false dup = 3 := by
  simp only [zoneErr1] <;> (repeat' split) <;> first | rfl | omega | simp_all
theorem ze_22 (kind feature lower upper : Int) (bonus slot dup : Bool) (n : Nat) (a1 : ¬ 2 < 1) (a2 : ¬ 3 < 2) (a3 : ¬ feature < 0) (a4 : ¬ (n : Int) ≤ feature) (e3 : farB lower = false) (e4 : farB upper = false) (b1 : upper < lower) : zoneErr1 ⟨2, feature, lower, upper, false⟩ n true dup = 8 := by
  simp only [zoneErr1, e3, e4] <;> (repeat' split) <;> first | rfl | omega | simp_all
theorem ze_23 (kind feature lower upper : Int) (bonus slot dup : Bool) (n : Nat) (a1 : ¬ 2 < 1) (a2 : ¬ 3 < 2) (a3 : ¬ feature < 0) (a4 : ¬ (n : Int) ≤ feature) (e3 : farB lower = false) (e4 : farB upper = false) (b1 : ¬ upper < lower) : zoneErr1 ⟨2, feature, lower, upper, false⟩ n true false = 0 := by
  simp only [zoneErr1, e3, e4] <;> (repeat' split) <;> first | rfl | omega | simp_all
theorem ze_24 (kind feature lower upper : Int) (bonus slot dup : Bool) (n : Nat) (a1 : ¬ 2 < 1) (a2 : ¬ 3 < 2) (a3 : ¬ feature < 0) (a4 : ¬ (n : Int) ≤ feature) (e3 : farB lower = false) (e4 : farB upper = false) (b1 : ¬ upper < lower) : zoneErr1 ⟨2, feature, lower, upper, false⟩ n true true = 9 := by
  simp only [zoneErr1, e3, e4] <;> (repeat' split) <;> first | rfl | omega | simp_all
theorem ze_25 (kind feature lower upper : Int) (bonus slot dup : Bool) (n : Nat) (a1 : ¬ 2 < 1) (a2 : ¬ 3 < 2) (a3 : ¬ feature < 0) (a4 : ¬ (n : Int) ≤ feature) (e3 : farB lower = false) (e4 : farB upper = true) : zoneErr1 ⟨2, feature, lower, upper, false⟩ n true dup = 2 := by
  simp only [zoneErr1, e3, e4] <;> (repeat' split) <;> first | rfl | omega | simp_all
theorem ze_26 (kind feature lower upper : Int) (bonus slot dup : Bool) (n : Nat) (a1 : ¬ 2 < 1) (a2 : ¬ 3 < 2) (a3 : ¬ feature < 0) (a4 : ¬ (n : Int) ≤ feature) (e3 : farB lower = true) : zoneErr1 ⟨2, feature, lower, upper, false⟩ n true dup = 2 := by
  simp only [zoneErr1, e3] <;> (repeat' split) <;> first | rfl | omega | simp_all
theorem ze_27 (kind feature lower upper : Int) (bonus slot dup : Bool) (n : Nat) (a1 : ¬ 2 < 1) (a2 : ¬ 3 < 2) (a3 : ¬ feature < 0) (a4 : ¬ (n : Int) ≤ feature) : zoneErr1 ⟨2, feature, lower, upper, true⟩ n true dup = 3 := by
  simp only [zoneErr1] <;> (repeat' split) <;> first | rfl | omega | simp_all
theorem ze_28 (kind feature lower upper : Int) (bonus slot dup : Bool) (n : Nat) (a1 : ¬ 3 < 1) (a2 : ¬ 3 < 3) (a3 : ¬ feature < 0) (a4 : ¬ (n : Int) ≤ feature) (e3 : farB lower = false) (e4 : farB upper = false) (b1 : upper < lower) : zoneErr1 ⟨3, feature, lower, upper, false⟩ n false dup = 8 := by
  simp only [zoneErr1, e3, e4] <;> (repeat' split) <;> first | rfl | omega | simp_all
theorem ze_29 (kind feature lower upper : Int) (bonus slot dup : Bool) (n : Nat) (a1 : ¬ 3 < 1) (a2 : ¬ 3 < 3) (a3 : ¬ feature < 0) (a4 : ¬ (n : Int) ≤ feature) (e3 : farB lower = false) (e4 : farB upper = false) (b1 : ¬ upper < lower) : zoneErr1 ⟨3, feature, lower, upper, false⟩ n false false = 0 := by
  simp only [zoneErr1, e3, e4] <;> (repeat' split) <;> first | rfl | omega | simp_all
theorem ze_30 (kind feature lower upper : Int) (bonus slot dup : Bool) (n : Nat) (a1 : ¬ 3 < 1) (a2 : ¬ 3 < 3) (a3 : ¬ feature < 0) (a4 : ¬ (n : Int) ≤ feature) (e3 : farB lower = false) (e4 : farB upper = false) (b1 : ¬ upper < lower) : zoneErr1 ⟨3, feature, lower, upper, false⟩ n false true = 9 := by
  simp only [zoneErr1, e3, e4] <;> (repeat' split) <;> first | rfl | omega | simp_all
theorem ze_31 (kind feature lower upper : Int) (bonus slot dup : Bool) (n : Nat) (a1 : ¬ 3 < 1) (a2 : ¬ 3 < 3) (a3 : ¬ feature < 0) (a4 : ¬ (n : Int) ≤ feature) (e3 : farB lower = false) (e4 : farB upper = true) : zoneErr1 ⟨3, feature, lower, upper, false⟩ n false dup = 2 := by
  simp only [zoneErr1, e3, e4] <;> (repeat' split) <;> first | rfl | omega | simp_all
theorem ze_32 (kind feature lower upper : Int) (bonus slot dup : Bool) (n : Nat) (a1 : ¬ 3 < 1) (a2 : ¬ 3 < 3) (a3 : ¬ feature < 0) (a4 : ¬ (n : Int) ≤ feature) (e3 : farB lower = true) : zoneErr1 ⟨3, feature, lower, upper, false⟩ n false dup = 2 := by
  simp only [zoneErr1, e3] <;> (repeat' split) <;> first | rfl | omega | simp_all
theorem ze_33 (kind feature lower upper : Int) (bonus slot dup : Bool) (n : Nat) (a1 : ¬ 3 < 1) (a2 : ¬ 3 < 3) (a3 : ¬ feature < 0) (a4 : ¬ (n : Int) ≤ feature) : zoneErr1 ⟨3, feature, lower, upper, true⟩ n false dup = 3 := by
  simp only [zoneErr1] <;> (repeat' split) <;> first | rfl | omega | simp_all
theorem ze_34 (kind feature lower upper : Int) (bonus slot dup : Bool) (n : Nat) (a1 : ¬ 3 < 1) (a2 : ¬ 3 < 3) (a3 : ¬ feature < 0) (a4 : ¬ (n : Int) ≤ feature) : zoneErr1 ⟨3, feature, lower, upper, false⟩ n true dup = 3 := by
  simp only [zoneErr1] <;> (repeat' split) <;> first | rfl | omega | simp_all
theorem ze_35 (kind feature lower upper : Int) (bonus slot dup : Bool) (n : Nat) (a1 : ¬ 3 < 1) (a2 : ¬ 3 < 3) (a3 : ¬ feature < 0) (a4 : ¬ (n : Int) ≤ feature) : zoneErr1 ⟨3, feature, lower, upper, true⟩ n true dup = 3 := by
  simp only [zoneErr1] <;> (repeat' split) <;> first | rfl | omega | simp_all

set_option maxRecDepth 100000 in
theorem checkZone_any (base : Nat) (A Bz : Option Addr) (n c m d : Nat) (fs : List Feat) (zs : List Zon) (i : Nat) (w : World) (hf : IsFs base 28 w A n c fs) (h : IsZs base 30 w Bz m d zs) (hi : i < m) (hn : n ≤ 1000000) (hm : m ≤ 1000000) :
    Calls Tryz.prog 36 #[.agg #[.slice A n c, .slice Bz m d], .int .i64 (i : Int)] w fun e w' => e = .returned (.int .i64 (zoneErr fs zs i)) ∧ Below w.heap.size w w' := by
  obtain ⟨ad, ea, c0, c1, c2, c3, c4⟩ := IsZs.cells h i hi
  subst ea
  have hcap := h.cap
  have hic : i ≤ d := by omega
  have i0 : (0 : Int) ≤ (i : Int) := by omega
  have i1 : (i : Int) < (m : Int) := by omega
  have i2 : (i : Int) ≤ (d : Int) := by omega
  unfold zoneErr
  rw [hf.len]
  generalize hsl : ((fs.getD (zs.getD i zd).feature.toNat fd).kind == 2) = slot
  have H3 := Lib.hid (fun W (hW : Below w.heap.size w W) b (hb : W.cell? ⟨b, 0, none⟩ = some (.int .i64 (zs.getD i zd).kind)) (hb2 : W.cell? ⟨b, 1, none⟩ = some (.int .i64 (zs.getD i zd).feature)) => ContainsDup_any base b (some ad) i d (zs.take i) (dupP (zs.getD i zd)) W ((h.below hW).take encZ_len i (by omega)) (by omega) (fun g W' hW' => dup_pred (zs.getD i zd) g b W' (cell_below hW' hb) (cell_below hW' hb2)))
  generalize (zs.take i).any (dupP (zs.getD i zd)) = dup at H3
  generalize zs.getD i zd = f at *
  obtain ⟨kind, feature, lower, upper, bonus⟩ := f
  dsimp only at c0 c1 c2 c3 c4 H3 hsl
  have H5 := Lib.hid (fun W => far_any lower W)
  have H6 := Lib.hid (fun W => far_any upper W)
  have hlt : (ad.add (i * 5)).block < w.heap.size := World.block_lt_of_cell? w _ c0
  have hne : ¬ (ad.add (i * 5)).block = w.heap.size := Nat.ne_of_lt hlt
  generalize e3 : farB lower = f1 at H5
  generalize e4 : farB upper = f2 at H6
  by_cases a1 : kind < 1
  · have a1d : decide (kind < 1) = true := decide_eq_true a1
    have hv : zoneErr1 ⟨kind, feature, lower, upper, bonus⟩ n slot dup = 12 := ze_0 _ _ _ _ _ _ _ _ (by omega)
    go_enter Tryz.func36, Tryz.ntmps36
    go_wp2_with fail
    go_ret
    exact ⟨by first | rfl | (rw [hv]; rfl), by exact (by repeat (first | exact Below.refl _ _ | with_reducible assumption | apply below_alloc | apply below_drewN | apply below_drew | refine below_set ?_ (by simp; try omega) _ | refine below_then ?_ (by with_reducible assumption)))⟩
  · have a1d : decide (kind < 1) = false := decide_eq_false a1
    by_cases a2 : 3 < kind
    · have a2d : decide (3 < kind) = true := decide_eq_true a2
      have hv : zoneErr1 ⟨kind, feature, lower, upper, bonus⟩ n slot dup = 12 := ze_1 _ _ _ _ _ _ _ _ (by omega) (by omega)
      go_enter Tryz.func36, Tryz.ntmps36
      go_wp2_with fail
      go_ret
      exact ⟨by first | rfl | (rw [hv]; rfl), by exact (by repeat (first | exact Below.refl _ _ | with_reducible assumption | apply below_alloc | apply below_drewN | apply below_drew | refine below_set ?_ (by simp; try omega) _ | refine below_then ?_ (by with_reducible assumption)))⟩
    · have a2d : decide (3 < kind) = false := decide_eq_false a2
      by_cases a3 : feature < 0
      · have a3d : decide (feature < 0) = true := decide_eq_true a3
        have hv : zoneErr1 ⟨kind, feature, lower, upper, bonus⟩ n slot dup = 10 := ze_2 _ _ _ _ _ _ _ _ (by omega) (by omega) (by omega)
        go_enter Tryz.func36, Tryz.ntmps36
        go_wp2_with fail
        go_ret
        exact ⟨by first | rfl | (rw [hv]; rfl), by exact (by repeat (first | exact Below.refl _ _ | with_reducible assumption | apply below_alloc | apply below_drewN | apply below_drew | refine below_set ?_ (by simp; try omega) _ | refine below_then ?_ (by with_reducible assumption)))⟩
      · have a3d : decide (feature < 0) = false := decide_eq_false a3
        by_cases a4 : (n : Int) ≤ feature
        · have a4d : decide ((n : Int) ≤ feature) = true := decide_eq_true a4
          have hv : zoneErr1 ⟨kind, feature, lower, upper, bonus⟩ n slot dup = 10 := ze_3 _ _ _ _ _ _ _ _ (by omega) (by omega) (by omega) (by omega)
          go_enter Tryz.func36, Tryz.ntmps36
          go_wp2_with fail
          go_ret
          exact ⟨by first | rfl | (rw [hv]; rfl), by exact (by repeat (first | exact Below.refl _ _ | with_reducible assumption | apply below_alloc | apply below_drewN | apply below_drew | refine below_set ?_ (by simp; try omega) _ | refine below_then ?_ (by with_reducible assumption)))⟩
        · have a4d : decide ((n : Int) ≤ feature) = false := decide_eq_false a4
          obtain ⟨kk, rfl⟩ := Int.eq_ofNat_of_zero_le (show 0 ≤ feature by omega)
          have kk1 : kk < n := by omega
          have kk2 : (0 : Int) ≤ (kk : Int) := by omega
          have kk3 : (kk : Int) < (n : Int) := by omega
          obtain ⟨af, ea, -, y1, -⟩ := IsFs.cells hf kk kk1
          subst ea
          rw [show ((kk : Nat) : Int).toNat = kk from rfl] at hsl
          have flt : (af.add (kk * 6)).block < w.heap.size := by have := World.block_lt_of_cell? w _ y1; exact this
          have fne : ¬ (af.add (kk * 6)).block = w.heap.size := Nat.ne_of_lt flt
          have fne2 : ¬ (af.add (kk * 6)).block = w.heap.size + 1 := by omega
          generalize (fs.getD kk fd).kind = kf at hsl y1
          have kcase : kind = 1 ∨ kind = 2 ∨ kind = 3 := by omega
          rcases kcase with rfl | rfl | rfl
          · cases slot
            · cases bonus
              · skip
                go_enter Tryz.func36, Tryz.ntmps36
                go_wp2_with fail
                refine (H5.out _).mono ?_
                rintro e w4 ⟨rfl, rfl⟩
                cases f1
                · skip
                  go_wp2_with fail
                  refine (H6.out _).mono ?_
                  rintro e w5 ⟨rfl, rfl⟩
                  cases f2
                  · skip
                    by_cases b1 : upper < lower
                    · have b1d : decide (upper < lower) = true := decide_eq_true b1
                      have hv : zoneErr1 ⟨1, (kk : Int), lower, upper, false⟩ n false dup = 8 := ze_4 0 _ _ _ false false _ _ (by omega) (by omega) (by omega) (by omega) e3 e4 (by omega)
                      go_wp2_with fail
                      go_ret
                      exact ⟨by first | rfl | (rw [hv]; rfl), by exact (by repeat (first | exact Below.refl _ _ | with_reducible assumption | apply below_alloc | apply below_drewN | apply below_drew | refine below_set ?_ (by simp; try omega) _ | refine below_then ?_ (by with_reducible assumption)))⟩
                    · have b1d : decide (upper < lower) = false := decide_eq_false b1
                      go_wp2_with fail
                      refine (H3.out _ (by repeat (first | exact Below.refl _ _ | with_reducible assumption | apply below_alloc | apply below_drewN | apply below_drew | refine below_set ?_ (by simp; try omega) _ | refine below_then ?_ (by with_reducible assumption))) _ (by simp [go_sem]) (by simp [go_sem])).mono ?_
                      rintro e w3 ⟨rfl, hb⟩
                      have B3 := Lib.hid (below_then (w := w) (by repeat (first | exact Below.refl _ _ | with_reducible assumption | apply below_alloc | apply below_drewN | apply below_drew | refine below_set ?_ (by simp; try omega) _ | refine below_then ?_ (by with_reducible assumption))) hb)
                      clear hb
                      cases dup
                      · skip
                        have hv : zoneErr1 ⟨1, (kk : Int), lower, upper, false⟩ n false false = 0 := ze_5 0 _ _ _ false false false _ (by omega) (by omega) (by omega) (by omega) e3 e4 (by omega)
                        go_wp2_with fail
                        go_ret
                        exact ⟨by first | rfl | (rw [hv]; rfl), by have b := B3.out; exact (by repeat (first | exact Below.refl _ _ | with_reducible assumption | apply below_alloc | apply below_drewN | apply below_drew | refine below_set ?_ (by simp; try omega) _ | refine below_then ?_ (by with_reducible assumption)))⟩
                      · skip
                        have hv : zoneErr1 ⟨1, (kk : Int), lower, upper, false⟩ n false true = 9 := ze_6 0 _ _ _ false false false _ (by omega) (by omega) (by omega) (by omega) e3 e4 (by omega)
                        go_wp2_with fail
                        go_ret
                        exact ⟨by first | rfl | (rw [hv]; rfl), by have b := B3.out; exact (by repeat (first | exact Below.refl _ _ | with_reducible assumption | apply below_alloc | apply below_drewN | apply below_drew | refine below_set ?_ (by simp; try omega) _ | refine below_then ?_ (by with_reducible assumption)))⟩
                  · skip
                    have hv : zoneErr1 ⟨1, (kk : Int), lower, upper, false⟩ n false dup = 2 := ze_7 0 _ _ _ false false _ _ (by omega) (by omega) (by omega) (by omega) e3 e4
                    go_wp2_with fail
                    go_ret
                    exact ⟨by first | rfl | (rw [hv]; rfl), by exact (by repeat (first | exact Below.refl _ _ | with_reducible assumption | apply below_alloc | apply below_drewN | apply below_drew | refine below_set ?_ (by simp; try omega) _ | refine below_then ?_ (by with_reducible assumption)))⟩
                · skip
                  have hv : zoneErr1 ⟨1, (kk : Int), lower, upper, false⟩ n false dup = 2 := ze_8 0 _ _ _ false false _ _ (by omega) (by omega) (by omega) (by omega) e3
                  go_wp2_with fail
                  go_ret
                  exact ⟨by first | rfl | (rw [hv]; rfl), by exact (by repeat (first | exact Below.refl _ _ | with_reducible assumption | apply below_alloc | apply below_drewN | apply below_drew | refine below_set ?_ (by simp; try omega) _ | refine below_then ?_ (by with_reducible assumption)))⟩
              · skip
                have hv : zoneErr1 ⟨1, (kk : Int), lower, upper, true⟩ n false dup = 3 := ze_9 0 _ _ _ false false _ _ (by omega) (by omega) (by omega) (by omega)
                go_enter Tryz.func36, Tryz.ntmps36
                go_wp2_with fail
                go_ret
                exact ⟨by first | rfl | (rw [hv]; rfl), by exact (by repeat (first | exact Below.refl _ _ | with_reducible assumption | apply below_alloc | apply below_drewN | apply below_drew | refine below_set ?_ (by simp; try omega) _ | refine below_then ?_ (by with_reducible assumption)))⟩
            · cases bonus
              · skip
                go_enter Tryz.func36, Tryz.ntmps36
                go_wp2_with fail
                refine (H5.out _).mono ?_
                rintro e w4 ⟨rfl, rfl⟩
                cases f1
                · skip
                  go_wp2_with fail
                  refine (H6.out _).mono ?_
                  rintro e w5 ⟨rfl, rfl⟩
                  cases f2
                  · skip
                    by_cases b1 : upper < lower
                    · have b1d : decide (upper < lower) = true := decide_eq_true b1
                      have hv : zoneErr1 ⟨1, (kk : Int), lower, upper, false⟩ n true dup = 8 := ze_10 0 _ _ _ false false _ _ (by omega) (by omega) (by omega) (by omega) e3 e4 (by omega)
                      go_wp2_with fail
                      go_ret
                      exact ⟨by first | rfl | (rw [hv]; rfl), by exact (by repeat (first | exact Below.refl _ _ | with_reducible assumption | apply below_alloc | apply below_drewN | apply below_drew | refine below_set ?_ (by simp; try omega) _ | refine below_then ?_ (by with_reducible assumption)))⟩
                    · have b1d : decide (upper < lower) = false := decide_eq_false b1
                      go_wp2_with fail
                      refine (H3.out _ (by repeat (first | exact Below.refl _ _ | with_reducible assumption | apply below_alloc | apply below_drewN | apply below_drew | refine below_set ?_ (by simp; try omega) _ | refine below_then ?_ (by with_reducible assumption))) _ (by simp [go_sem]) (by simp [go_sem])).mono ?_
                      rintro e w3 ⟨rfl, hb⟩
                      have B3 := Lib.hid (below_then (w := w) (by repeat (first | exact Below.refl _ _ | with_reducible assumption | apply below_alloc | apply below_drewN | apply below_drew | refine below_set ?_ (by simp; try omega) _ | refine below_then ?_ (by with_reducible assumption))) hb)
                      clear hb
                      cases dup
                      · skip
                        have hv : zoneErr1 ⟨1, (kk : Int), lower, upper, false⟩ n true false = 0 := ze_11 0 _ _ _ false false false _ (by omega) (by omega) (by omega) (by omega) e3 e4 (by omega)
                        go_wp2_with fail
                        go_ret
                        exact ⟨by first | rfl | (rw [hv]; rfl), by have b := B3.out; exact (by repeat (first | exact Below.refl _ _ | with_reducible assumption | apply below_alloc | apply below_drewN | apply below_drew | refine below_set ?_ (by simp; try omega) _ | refine below_then ?_ (by with_reducible assumption)))⟩
                      · skip
                        have hv : zoneErr1 ⟨1, (kk : Int), lower, upper, false⟩ n true true = 9 := ze_12 0 _ _ _ false false false _ (by omega) (by omega) (by omega) (by omega) e3 e4 (by omega)
                        go_wp2_with fail
                        go_ret
                        exact ⟨by first | rfl | (rw [hv]; rfl), by have b := B3.out; exact (by repeat (first | exact Below.refl _ _ | with_reducible assumption | apply below_alloc | apply below_drewN | apply below_drew | refine below_set ?_ (by simp; try omega) _ | refine below_then ?_ (by with_reducible assumption)))⟩
                  · skip
                    have hv : zoneErr1 ⟨1, (kk : Int), lower, upper, false⟩ n true dup = 2 := ze_13 0 _ _ _ false false _ _ (by omega) (by omega) (by omega) (by omega) e3 e4
                    go_wp2_with fail
                    go_ret
                    exact ⟨by first | rfl | (rw [hv]; rfl), by exact (by repeat (first | exact Below.refl _ _ | with_reducible assumption | apply below_alloc | apply below_drewN | apply below_drew | refine below_set ?_ (by simp; try omega) _ | refine below_then ?_ (by with_reducible assumption)))⟩
                · skip
                  have hv : zoneErr1 ⟨1, (kk : Int), lower, upper, false⟩ n true dup = 2 := ze_14 0 _ _ _ false false _ _ (by omega) (by omega) (by omega) (by omega) e3
                  go_wp2_with fail
                  go_ret
                  exact ⟨by first | rfl | (rw [hv]; rfl), by exact (by repeat (first | exact Below.refl _ _ | with_reducible assumption | apply below_alloc | apply below_drewN | apply below_drew | refine below_set ?_ (by simp; try omega) _ | refine below_then ?_ (by with_reducible assumption)))⟩
              · skip
                go_enter Tryz.func36, Tryz.ntmps36
                go_wp2_with fail
                refine (H5.out _).mono ?_
                rintro e w4 ⟨rfl, rfl⟩
                cases f1
                · skip
                  go_wp2_with fail
                  refine (H6.out _).mono ?_
                  rintro e w5 ⟨rfl, rfl⟩
                  cases f2
                  · skip
                    by_cases b1 : upper < lower
                    · have b1d : decide (upper < lower) = true := decide_eq_true b1
                      have hv : zoneErr1 ⟨1, (kk : Int), lower, upper, true⟩ n true dup = 8 := ze_15 0 _ _ _ false false _ _ (by omega) (by omega) (by omega) (by omega) e3 e4 (by omega)
                      go_wp2_with fail
                      go_ret
                      exact ⟨by first | rfl | (rw [hv]; rfl), by exact (by repeat (first | exact Below.refl _ _ | with_reducible assumption | apply below_alloc | apply below_drewN | apply below_drew | refine below_set ?_ (by simp; try omega) _ | refine below_then ?_ (by with_reducible assumption)))⟩
                    · have b1d : decide (upper < lower) = false := decide_eq_false b1
                      go_wp2_with fail
                      refine (H3.out _ (by repeat (first | exact Below.refl _ _ | with_reducible assumption | apply below_alloc | apply below_drewN | apply below_drew | refine below_set ?_ (by simp; try omega) _ | refine below_then ?_ (by with_reducible assumption))) _ (by simp [go_sem]) (by simp [go_sem])).mono ?_
                      rintro e w3 ⟨rfl, hb⟩
                      have B3 := Lib.hid (below_then (w := w) (by repeat (first | exact Below.refl _ _ | with_reducible assumption | apply below_alloc | apply below_drewN | apply below_drew | refine below_set ?_ (by simp; try omega) _ | refine below_then ?_ (by with_reducible assumption))) hb)
                      clear hb
                      cases dup
                      · skip
                        have hv : zoneErr1 ⟨1, (kk : Int), lower, upper, true⟩ n true false = 0 := ze_16 0 _ _ _ false false false _ (by omega) (by omega) (by omega) (by omega) e3 e4 (by omega)
                        go_wp2_with fail
                        go_ret
                        exact ⟨by first | rfl | (rw [hv]; rfl), by have b := B3.out; exact (by repeat (first | exact Below.refl _ _ | with_reducible assumption | apply below_alloc | apply below_drewN | apply below_drew | refine below_set ?_ (by simp; try omega) _ | refine below_then ?_ (by with_reducible assumption)))⟩
                      · skip
                        have hv : zoneErr1 ⟨1, (kk : Int), lower, upper, true⟩ n true true = 9 := ze_17 0 _ _ _ false false false _ (by omega) (by omega) (by omega) (by omega) e3 e4 (by omega)
                        go_wp2_with fail
                        go_ret
                        exact ⟨by first | rfl | (rw [hv]; rfl), by have b := B3.out; exact (by repeat (first | exact Below.refl _ _ | with_reducible assumption | apply below_alloc | apply below_drewN | apply below_drew | refine below_set ?_ (by simp; try omega) _ | refine below_then ?_ (by with_reducible assumption)))⟩
                  · skip
                    have hv : zoneErr1 ⟨1, (kk : Int), lower, upper, true⟩ n true dup = 2 := ze_18 0 _ _ _ false false _ _ (by omega) (by omega) (by omega) (by omega) e3 e4
                    go_wp2_with fail
                    go_ret
                    exact ⟨by first | rfl | (rw [hv]; rfl), by exact (by repeat (first | exact Below.refl _ _ | with_reducible assumption | apply below_alloc | apply below_drewN | apply below_drew | refine below_set ?_ (by simp; try omega) _ | refine below_then ?_ (by with_reducible assumption)))⟩
                · skip
                  have hv : zoneErr1 ⟨1, (kk : Int), lower, upper, true⟩ n true dup = 2 := ze_19 0 _ _ _ false false _ _ (by omega) (by omega) (by omega) (by omega) e3
                  go_wp2_with fail
                  go_ret
                  exact ⟨by first | rfl | (rw [hv]; rfl), by exact (by repeat (first | exact Below.refl _ _ | with_reducible assumption | apply below_alloc | apply below_drewN | apply below_drew | refine below_set ?_ (by simp; try omega) _ | refine below_then ?_ (by with_reducible assumption)))⟩
          · cases slot
            · cases bonus
              · skip
                have hv : zoneErr1 ⟨2, (kk : Int), lower, upper, false⟩ n false dup = 3 := ze_20 0 _ _ _ false false _ _ (by omega) (by omega) (by omega) (by omega)
                go_enter Tryz.func36, Tryz.ntmps36
                go_wp2_with fail
                go_ret
                exact ⟨by first | rfl | (rw [hv]; rfl), by exact (by repeat (first | exact Below.refl _ _ | with_reducible assumption | apply below_alloc | apply below_drewN | apply below_drew | refine below_set ?_ (by simp; try omega) _ | refine below_then ?_ (by with_reducible assumption)))⟩
              · skip
                have hv : zoneErr1 ⟨2, (kk : Int), lower, upper, true⟩ n false dup = 3 := ze_21 0 _ _ _ false false _ _ (by omega) (by omega) (by omega) (by omega)
                go_enter Tryz.func36, Tryz.ntmps36
                go_wp2_with fail
                go_ret
                exact ⟨by first | rfl | (rw [hv]; rfl), by exact (by repeat (first | exact Below.refl _ _ | with_reducible assumption | apply below_alloc | apply below_drewN | apply below_drew | refine below_set ?_ (by simp; try omega) _ | refine below_then ?_ (by with_reducible assumption)))⟩
            · cases bonus
              · skip
                go_enter Tryz.func36, Tryz.ntmps36
                go_wp2_with fail
                refine (H5.out _).mono ?_
                rintro e w4 ⟨rfl, rfl⟩
                cases f1
                · skip
                  go_wp2_with fail
                  refine (H6.out _).mono ?_
                  rintro e w5 ⟨rfl, rfl⟩
                  cases f2
                  · skip
                    by_cases b1 : upper < lower
                    · have b1d : decide (upper < lower) = true := decide_eq_true b1
                      have hv : zoneErr1 ⟨2, (kk : Int), lower, upper, false⟩ n true dup = 8 := ze_22 0 _ _ _ false false _ _ (by omega) (by omega) (by omega) (by omega) e3 e4 (by omega)
                      go_wp2_with fail
                      go_ret
                      exact ⟨by first | rfl | (rw [hv]; rfl), by exact (by repeat (first | exact Below.refl _ _ | with_reducible assumption | apply below_alloc | apply below_drewN | apply below_drew | refine below_set ?_ (by simp; try omega) _ | refine below_then ?_ (by with_reducible assumption)))⟩
                    · have b1d : decide (upper < lower) = false := decide_eq_false b1
                      go_wp2_with fail
                      refine (H3.out _ (by repeat (first | exact Below.refl _ _ | with_reducible assumption | apply below_alloc | apply below_drewN | apply below_drew | refine below_set ?_ (by simp; try omega) _ | refine below_then ?_ (by with_reducible assumption))) _ (by simp [go_sem]) (by simp [go_sem])).mono ?_
                      rintro e w3 ⟨rfl, hb⟩
                      have B3 := Lib.hid (below_then (w := w) (by repeat (first | exact Below.refl _ _ | with_reducible assumption | apply below_alloc | apply below_drewN | apply below_drew | refine below_set ?_ (by simp; try omega) _ | refine below_then ?_ (by with_reducible assumption))) hb)
                      clear hb
                      cases dup
                      · skip
                        have hv : zoneErr1 ⟨2, (kk : Int), lower, upper, false⟩ n true false = 0 := ze_23 0 _ _ _ false false false _ (by omega) (by omega) (by omega) (by omega) e3 e4 (by omega)
                        go_wp2_with fail
                        go_ret
                        exact ⟨by first | rfl | (rw [hv]; rfl), by have b := B3.out; exact (by repeat (first | exact Below.refl _ _ | with_reducible assumption | apply below_alloc | apply below_drewN | apply below_drew | refine below_set ?_ (by simp; try omega) _ | refine below_then ?_ (by with_reducible assumption)))⟩
                      · skip
                        have hv : zoneErr1 ⟨2, (kk : Int), lower, upper, false⟩ n true true = 9 := ze_24 0 _ _ _ false false false _ (by omega) (by omega) (by omega) (by omega) e3 e4 (by omega)
                        go_wp2_with fail
                        go_ret
                        exact ⟨by first | rfl | (rw [hv]; rfl), by have b := B3.out; exact (by repeat (first | exact Below.refl _ _ | with_reducible assumption | apply below_alloc | apply below_drewN | apply below_drew | refine below_set ?_ (by simp; try omega) _ | refine below_then ?_ (by with_reducible assumption)))⟩
                  · skip
                    have hv : zoneErr1 ⟨2, (kk : Int), lower, upper, false⟩ n true dup = 2 := ze_25 0 _ _ _ false false _ _ (by omega) (by omega) (by omega) (by omega) e3 e4
                    go_wp2_with fail
                    go_ret
                    exact ⟨by first | rfl | (rw [hv]; rfl), by exact (by repeat (first | exact Below.refl _ _ | with_reducible assumption | apply below_alloc | apply below_drewN | apply below_drew | refine below_set ?_ (by simp; try omega) _ | refine below_then ?_ (by with_reducible assumption)))⟩
                · skip
                  have hv : zoneErr1 ⟨2, (kk : Int), lower, upper, false⟩ n true dup = 2 := ze_26 0 _ _ _ false false _ _ (by omega) (by omega) (by omega) (by omega) e3
                  go_wp2_with fail
                  go_ret
                  exact ⟨by first | rfl | (rw [hv]; rfl), by exact (by repeat (first | exact Below.refl _ _ | with_reducible assumption | apply below_alloc | apply below_drewN | apply below_drew | refine below_set ?_ (by simp; try omega) _ | refine below_then ?_ (by with_reducible assumption)))⟩
              · skip
                have hv : zoneErr1 ⟨2, (kk : Int), lower, upper, true⟩ n true dup = 3 := ze_27 0 _ _ _ false false _ _ (by omega) (by omega) (by omega) (by omega)
                go_enter Tryz.func36, Tryz.ntmps36
                go_wp2_with fail
                go_ret
                exact ⟨by first | rfl | (rw [hv]; rfl), by exact (by repeat (first | exact Below.refl _ _ | with_reducible assumption | apply below_alloc | apply below_drewN | apply below_drew | refine below_set ?_ (by simp; try omega) _ | refine below_then ?_ (by with_reducible assumption)))⟩
          · cases slot
            · cases bonus
              · skip
                go_enter Tryz.func36, Tryz.ntmps36
                go_wp2_with fail
                refine (H5.out _).mono ?_
                rintro e w4 ⟨rfl, rfl⟩
                cases f1
                · skip
                  go_wp2_with fail
                  refine (H6.out _).mono ?_
                  rintro e w5 ⟨rfl, rfl⟩
                  cases f2
                  · skip
                    by_cases b1 : upper < lower
                    · have b1d : decide (upper < lower) = true := decide_eq_true b1
                      have hv : zoneErr1 ⟨3, (kk : Int), lower, upper, false⟩ n false dup = 8 := ze_28 0 _ _ _ false false _ _ (by omega) (by omega) (by omega) (by omega) e3 e4 (by omega)
                      go_wp2_with fail
                      go_ret
                      exact ⟨by first | rfl | (rw [hv]; rfl), by exact (by repeat (first | exact Below.refl _ _ | with_reducible assumption | apply below_alloc | apply below_drewN | apply below_drew | refine below_set ?_ (by simp; try omega) _ | refine below_then ?_ (by with_reducible assumption)))⟩
                    · have b1d : decide (upper < lower) = false := decide_eq_false b1
                      go_wp2_with fail
                      refine (H3.out _ (by repeat (first | exact Below.refl _ _ | with_reducible assumption | apply below_alloc | apply below_drewN | apply below_drew | refine below_set ?_ (by simp; try omega) _ | refine below_then ?_ (by with_reducible assumption))) _ (by simp [go_sem]) (by simp [go_sem])).mono ?_
                      rintro e w3 ⟨rfl, hb⟩
                      have B3 := Lib.hid (below_then (w := w) (by repeat (first | exact Below.refl _ _ | with_reducible assumption | apply below_alloc | apply below_drewN | apply below_drew | refine below_set ?_ (by simp; try omega) _ | refine below_then ?_ (by with_reducible assumption))) hb)
                      clear hb
                      cases dup
                      · skip
                        have hv : zoneErr1 ⟨3, (kk : Int), lower, upper, false⟩ n false false = 0 := ze_29 0 _ _ _ false false false _ (by omega) (by omega) (by omega) (by omega) e3 e4 (by omega)
                        go_wp2_with fail
                        go_ret
                        exact ⟨by first | rfl | (rw [hv]; rfl), by have b := B3.out; exact (by repeat (first | exact Below.refl _ _ | with_reducible assumption | apply below_alloc | apply below_drewN | apply below_drew | refine below_set ?_ (by simp; try omega) _ | refine below_then ?_ (by with_reducible assumption)))⟩
                      · skip
                        have hv : zoneErr1 ⟨3, (kk : Int), lower, upper, false⟩ n false true = 9 := ze_30 0 _ _ _ false false false _ (by omega) (by omega) (by omega) (by omega) e3 e4 (by omega)
                        go_wp2_with fail
                        go_ret
                        exact ⟨by first | rfl | (rw [hv]; rfl), by have b := B3.out; exact (by repeat (first | exact Below.refl _ _ | with_reducible assumption | apply below_alloc | apply below_drewN | apply below_drew | refine below_set ?_ (by simp; try omega) _ | refine below_then ?_ (by with_reducible assumption)))⟩
                  · skip
                    have hv : zoneErr1 ⟨3, (kk : Int), lower, upper, false⟩ n false dup = 2 := ze_31 0 _ _ _ false false _ _ (by omega) (by omega) (by omega) (by omega) e3 e4
                    go_wp2_with fail
                    go_ret
                    exact ⟨by first | rfl | (rw [hv]; rfl), by exact (by repeat (first | exact Below.refl _ _ | with_reducible assumption | apply below_alloc | apply below_drewN | apply below_drew | refine below_set ?_ (by simp; try omega) _ | refine below_then ?_ (by with_reducible assumption)))⟩
                · skip
                  have hv : zoneErr1 ⟨3, (kk : Int), lower, upper, false⟩ n false dup = 2 := ze_32 0 _ _ _ false false _ _ (by omega) (by omega) (by omega) (by omega) e3
                  go_wp2_with fail
                  go_ret
                  exact ⟨by first | rfl | (rw [hv]; rfl), by exact (by repeat (first | exact Below.refl _ _ | with_reducible assumption | apply below_alloc | apply below_drewN | apply below_drew | refine below_set ?_ (by simp; try omega) _ | refine below_then ?_ (by with_reducible assumption)))⟩
              · skip
                have hv : zoneErr1 ⟨3, (kk : Int), lower, upper, true⟩ n false dup = 3 := ze_33 0 _ _ _ false false _ _ (by omega) (by omega) (by omega) (by omega)
                go_enter Tryz.func36, Tryz.ntmps36
                go_wp2_with fail
                go_ret
                exact ⟨by first | rfl | (rw [hv]; rfl), by exact (by repeat (first | exact Below.refl _ _ | with_reducible assumption | apply below_alloc | apply below_drewN | apply below_drew | refine below_set ?_ (by simp; try omega) _ | refine below_then ?_ (by with_reducible assumption)))⟩
            · cases bonus
              · skip
                have hv : zoneErr1 ⟨3, (kk : Int), lower, upper, false⟩ n true dup = 3 := ze_34 0 _ _ _ false false _ _ (by omega) (by omega) (by omega) (by omega)
                go_enter Tryz.func36, Tryz.ntmps36
                go_wp2_with fail
                go_ret
                exact ⟨by first | rfl | (rw [hv]; rfl), by exact (by repeat (first | exact Below.refl _ _ | with_reducible assumption | apply below_alloc | apply below_drewN | apply below_drew | refine below_set ?_ (by simp; try omega) _ | refine below_then ?_ (by with_reducible assumption)))⟩
              · skip
                have hv : zoneErr1 ⟨3, (kk : Int), lower, upper, true⟩ n true dup = 3 := ze_35 0 _ _ _ false false _ _ (by omega) (by omega) (by omega) (by omega)
                go_enter Tryz.func36, Tryz.ntmps36
                go_wp2_with fail
                go_ret
                exact ⟨by first | rfl | (rw [hv]; rfl), by exact (by repeat (first | exact Below.refl _ _ | with_reducible assumption | apply below_alloc | apply below_drewN | apply below_drew | refine below_set ?_ (by simp; try omega) _ | refine below_then ?_ (by with_reducible assumption)))⟩
end Go.Proofs.YtpifbaiibhaklaaGreatDoor
