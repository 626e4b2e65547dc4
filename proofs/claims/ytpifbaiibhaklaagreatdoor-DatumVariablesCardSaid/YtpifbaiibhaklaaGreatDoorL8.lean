/- Package datum: what a zone asks of values; where the variables of a zone stand.
  Package datum: keeps.
  Package datum: Holds, for values that are whole. -/
import Derived.Test.YtpifbaiibhaklaaGreatDoorL2
import Derived.Test.YtpifbaiibhaklaaGreatDoorL5
import Derived.Maps.Own
import Derived.Deep.RegionLaw
import Derived.Orders
import Derived.RegionTactic
import Derived.Deep.DeepCutAuto
namespace Go.Proofs.YtpifbaiibhaklaaGreatDoor
open Go.RowKit Big Go.ChangeMaps
set_option maxHeartbeats 4000000
set_option linter.unusedVariables false
set_option linter.unusedSimpArgs false

theorem varsTo_at {s : Sch} {n fe : Nat} {v : Vr} (h : fe < n) (hv : v ∈ varsAt s fe) : v ∈ varsTo s n := by
  induction n with
  | zero => omega
  | succ n ih =>
    unfold varsTo
    rw [List.mem_append]
    by_cases e : fe = n
    · subst e
      exact .inr hv
    · exact .inl (ih (by omega))
theorem index_of_mem {s : Sch} {fe : Nat} {ki : Int} (h : (⟨fe, ki⟩ : Vr) ∈ varsOf s) : ∃ a : Nat, indexOf s fe ki = a ∧ a < (varsOf s).length := by
  unfold indexOf
  rcases idxI_cases (isV fe ki) (varsOf s) vd with ⟨h0, _, _⟩ | ⟨i, hl, hi, _⟩
  · exfalso
    have := List.any_eq_false.1 h0 _ h
    simp [isV] at this
  · exact ⟨i, hi, hl⟩
theorem find_some_of {zs : List Zon} {j : Nat} (hj : j < zs.length) (fe ki : Int) (h1 : (zs.getD j zd).feature = fe) (h2 : (zs.getD j zd).kind = ki) : (zoneOf zs fe ki).isSome = true := by
  unfold zoneOf
  rw [List.find?_isSome]
  refine ⟨zs[j], List.getElem_mem hj, ?_⟩
  rw [show zs.getD j zd = zs[j] by simp [List.getD_eq_getElem?_getD, List.getElem?_eq_getElem hj]] at h1 h2
  unfold zoneP
  simp [h1, h2]
theorem Fine.index {s : Sch} (h : Fine s) (j : Nat) (hj : j < s.zs.length) : ∃ a : Nat, indexOf s (s.zs.getD j zd).feature (s.zs.getD j zd).kind = a ∧ a < (varsOf s).length := by
  have hz := h.zoneOk j hj
  have hfs := find_some_of hj (s.zs.getD j zd).feature (s.zs.getD j zd).kind rfl rfl
  obtain ⟨k1, k3, f0, fn, form, _⟩ := hz
  obtain ⟨fe, hfe⟩ := Int.eq_ofNat_of_zero_le f0
  rw [hfe] at fn hfs form ⊢
  simp only [Int.toNat_natCast] at form
  refine index_of_mem (varsTo_at (n := s.fs.length) (fe := fe) (by omega) ?_)
  unfold varsAt
  generalize (s.zs.getD j zd).kind = ki at *
  have : ki = 1 ∨ ki = 2 ∨ ki = 3 := by omega
  rcases this with rfl | rfl | rfl
  · simp
  · have : (s.fs.getD fe fd).kind = 2 := by
      cases hk : ((s.fs.getD fe fd).kind == 2) with
      | true => simpa using hk
      | false => exact absurd (.inl ⟨rfl, hk⟩) form
    rw [if_pos this]
    simp
  · rw [if_pos hfs]
    simp
theorem Fine.index2 {s : Sch} (h : Fine s) (j : Nat) (hj : j < s.zs.length) (hb : (s.zs.getD j zd).bonus = true) : ∃ a : Nat, indexOf s (s.zs.getD j zd).feature 2 = a ∧ a < (varsOf s).length := by
  have hz := h.zoneOk j hj
  obtain ⟨k1, k3, f0, fn, form, _⟩ := hz
  obtain ⟨fe, hfe⟩ := Int.eq_ofNat_of_zero_le f0
  rw [hfe] at fn form ⊢
  simp only [Int.toNat_natCast] at form
  refine index_of_mem (varsTo_at (n := s.fs.length) (fe := fe) (by omega) ?_)
  unfold varsAt
  have : (s.fs.getD fe fd).kind = 2 := by
    cases hk : ((s.fs.getD fe fd).kind == 2) with
    | true => simpa using hk
    | false => exact absurd (.inr (.inr ⟨hb, .inr hk⟩)) form
  rw [if_pos this]
  simp
/-- Do values keep a zone? -/
def devOf (s : Sch) (z : Zon) (qs : List Rat) : Rat := qs.getD (indexOf s z.feature z.kind).toNat 0 - ((nominalOf s.fs z.feature.toNat z.kind : Int) : Rat)
def moreOf (s : Sch) (z : Zon) (qs : List Rat) : Rat :=
  if z.bonus = true then qs.getD (indexOf s z.feature 2).toNat 0 - (((s.fs.getD z.feature.toNat fd).wide + ((zoneOf s.zs z.feature 2).getD zd).lower : Int) : Rat) else 0
def keeps1 (lo up : Int) (d e : Rat) : Bool := decide ((lo : Rat) - e ≤ d) && decide (d ≤ (up : Rat) + e)
def keepsB (s : Sch) (z : Zon) (qs : List Rat) : Bool := keeps1 z.lower z.upper (devOf s z qs) (moreOf s z qs)
theorem rcellsAt {base : Nat} {w : World} {A : Option Addr} {n : Nat} {qs : List Rat} (h : IsRats base w A n qs) (i : Nat) (hi : i < n) : ∃ (ad : Addr) (m : MR), A = some ad ∧ IsRat base w m (qs.getD i 0) ∧
    w.cell? (ad.add (i * 4)) = some (.bool m.a.p) ∧ w.cell? ⟨(ad.add (i * 4)).block, (ad.add (i * 4)).off + 1, none⟩ = some (.slice m.a.A m.a.n m.a.c) ∧
    w.cell? ⟨(ad.add (i * 4)).block, (ad.add (i * 4)).off + 2, none⟩ = some (.bool m.b.p) ∧ w.cell? ⟨(ad.add (i * 4)).block, (ad.add (i * 4)).off + 3, none⟩ = some (.slice m.b.A m.b.n m.b.c) := by
  obtain ⟨ms, h1, h2, h3, h4⟩ := h
  have hl : i < ms.length := by omega
  rcases h3 with h0 | ⟨ad, ea, _, hc⟩
  · have := rowR_length ms
    rw [h0] at this
    simp at this
    omega
  · have hm : ms.getD i zMR = ms[i] := by simp [List.getD_eq_getElem?_getD, List.getElem?_eq_getElem hl]
    refine ⟨ad, ms[i], ea, hm ▸ h4 i hi, hc (i * 4 + 0) _ (by rw [rowR_at' ms i 0 hl (by decide)]; rfl), ?_, ?_, ?_⟩
    · rw [← add_mid ad (i * 4) 1 (by decide)]; exact hc _ _ (by rw [rowR_at' ms i 1 hl (by decide)]; rfl)
    · rw [← add_mid ad (i * 4) 2 (by decide)]; exact hc _ _ (by rw [rowR_at' ms i 2 hl (by decide)]; rfl)
    · rw [← add_mid ad (i * 4) 3 (by decide)]; exact hc _ _ (by rw [rowR_at' ms i 3 hl (by decide)]; rfl)
theorem whole_add {a b : Rat} (ha : a.den = 1) (hb : b.den = 1) : (a + b).den = 1 ∧ (a + b).num = a.num + b.num ∧ limR (a + b) ≤ max (limR a) (limR b) + 1 := by
  obtain ⟨h1, h2⟩ := add_whole ha hb
  refine ⟨h2, h1, ?_⟩
  have h3 := lim_add a.num b.num
  unfold limR
  rw [h1, h2, ha, hb]
  omega
theorem whole_neg {a : Rat} (ha : a.den = 1) : (-a).den = 1 ∧ (-a).num = -a.num ∧ limR (-a) = limR a := by
  refine ⟨by rw [Rat.neg_den]; exact ha, Rat.neg_num _, ?_⟩
  unfold limR
  rw [Rat.neg_num, Rat.neg_den, lim_neg]
theorem whole_sub {a b : Rat} (ha : a.den = 1) (hb : b.den = 1) : (a - b).den = 1 ∧ (a - b).num = a.num - b.num ∧ limR (a - b) ≤ max (limR a) (limR b) + 1 := by
  have h := whole_neg hb
  have h2 := whole_add ha h.1
  rw [h.2.1, h.2.2] at h2
  rw [Rat.sub_eq_add_neg]
  exact h2
theorem whole_le {a b : Rat} (ha : a.den = 1) (hb : b.den = 1) : a ≤ b ↔ a.num ≤ b.num := by
  rw [rat_whole ha, rat_whole hb]
  simp
  exact Rat.intCast_le_intCast
end Go.Proofs.YtpifbaiibhaklaaGreatDoor
namespace Go.Proofs.YtpifbaiibhaklaaGreatDoor
open Go.RowKit Big Go.ChangeMaps
set_option maxHeartbeats 40000000
set_option linter.unusedVariables false
set_option linter.unusedSimpArgs false

def Z4 : Obj := .cells #[.bool false, .slice none 0 0, .bool false, .slice none 0 0] 90
structure Fr4 (w : World) (g : Nat) : Prop where
  c0 : w.cell? ⟨g, 0, none⟩ = some (.bool false)
  c1 : w.cell? ⟨g, 1, none⟩ = some (.slice none 0 0)
  c2 : w.cell? ⟨g, 2, none⟩ = some (.bool false)
  c3 : w.cell? ⟨g, 3, none⟩ = some (.slice none 0 0)
  f0 : w.frozen? ⟨g, 0, none⟩ = false
  f1 : w.frozen? ⟨g, 1, none⟩ = false
  f2 : w.frozen? ⟨g, 2, none⟩ = false
  f3 : w.frozen? ⟨g, 3, none⟩ = false
  t : typ w g = some 90
theorem Fr4.keep {w w' : World} {g : Nat} (h : Fr4 w g) (hb : Below w.heap.size w w') : Fr4 w' g :=
  ⟨cell_below hb h.c0, cell_below hb h.c1, cell_below hb h.c2, cell_below hb h.c3, keptF hb h.c0 h.f0, keptF hb h.c1 h.f1, keptF hb h.c2 h.f2, keptF hb h.c3 h.f3, keptT hb h.c0 h.t⟩
theorem Fr4.new (w : World) : Fr4 (w.alloc (.cells #[.bool false, .slice none 0 0, .bool false, .slice none 0 0] 90)) w.heap.size := by
  constructor
  iterate 8 simp [go_sem]
  simp [typ_alloc, otyp_cells]
theorem Fr4.made {w w' : World} (hb : Below (w.alloc (.cells #[.bool false, .slice none 0 0, .bool false, .slice none 0 0] 90)).heap.size (w.alloc (.cells #[.bool false, .slice none 0 0, .bool false, .slice none 0 0] 90)) w') : Fr4 w' w.heap.size := (Fr4.new w).keep hb
theorem Fr4.made' {w w' : World} (hb : Below (w.alloc (.cells #[.bool false, .slice none 0 0, .bool false, .slice none 0 0] 90)).drew.heap.size (w.alloc (.cells #[.bool false, .slice none 0 0, .bool false, .slice none 0 0] 90)).drew w') : Fr4 w' w.heap.size := Fr4.keep (w := (w.alloc (.cells #[.bool false, .slice none 0 0, .bool false, .slice none 0 0] 90)).drew) ⟨(Fr4.new w).c0, (Fr4.new w).c1, (Fr4.new w).c2, (Fr4.new w).c3, (Fr4.new w).f0, (Fr4.new w).f1, (Fr4.new w).f2, (Fr4.new w).f3, (Fr4.new w).t⟩ hb
set_option maxRecDepth 100000 in
theorem keeps_w (base : Nat) (A Bz V : Option Addr) (n c m d k cv : Nat) (s : Sch) (j : Nat) (qs : List Rat) (w : World) (hg : Good w) (hB : base ≤ w.heap.size) (hf : IsFs base 28 w A n c s.fs) (hz : IsZs base 30 w Bz m d s.zs) (hfine : Fine s) (hj : j < m)
    (hv : IsRats base w V k qs) (hkc : k ≤ cv) (hk : (varsOf s).length = k) (hq : ∀ i, i < k → (qs.getD i 0).den = 1 ∧ limR (qs.getD i 0) ≤ 1000000) :
    Calls Tryz.prog 53 #[.agg #[.slice A n c, .slice Bz m d], .agg #[.int .i64 (s.zs.getD j zd).kind, .int .i64 (s.zs.getD j zd).feature, .int .i64 (s.zs.getD j zd).lower, .int .i64 (s.zs.getD j zd).upper, .bool (s.zs.getD j zd).bonus], .slice V k cv] w
      fun e w' => e = .returned (.bool (keepsB s (s.zs.getD j zd) qs)) ∧ Below w.heap.size w w' := by
  have hn : n ≤ 16 := by have := hfine.nf; rw [hf.len] at this; exact this
  have hm : m ≤ 32 := by have := hfine.nz; rw [hz.len] at this; exact this
  have hzo := hfine.zoneOk j (by rw [hz.len]; exact hj)
  have hix := hfine.index j (by rw [hz.len]; exact hj)
  have hix2 := hfine.index2 j (by rw [hz.len]; exact hj)
  have HI := Lib.hid (fun (fe ki : Int) W (hW : Below w.heap.size w W) => index_any base A Bz n c m d s fe ki W (hf.below hW) (hz.below hW) (by omega) (by omega))
  have HZ := Lib.hid (fun (fe ki : Int) W (hW : Below w.heap.size w W) => zone_any base A Bz n c m d s.zs fe ki W (hz.below hW) (by omega))
  have HN := Lib.hid (fun (i : Nat) (ki : Int) (hi : i < n) W (hW : Below w.heap.size w W) => nominal_any base A Bz n c m d s.fs i ki W (hf.below hW) hi)
  have HF := Lib.hid (fun (i : Nat) (hi : i < n) => IsFs.cells hf i hi)
  have HV := Lib.hid (fun (i : Nat) (hi : i < k) => rcellsAt hv i hi)
  have hlen := hf.len
  unfold keepsB devOf moreOf
  rw [hlen] at hzo
  generalize s.zs.getD j zd = z at *
  obtain ⟨zk, zf, lo, up, bo⟩ := z
  obtain ⟨k1, k3, f0, fn, form, blo, bup, ord⟩ := hzo
  dsimp only at k1 k3 f0 fn form blo bup ord hix hix2 ⊢
  obtain ⟨fe, rfl⟩ := Int.eq_ofNat_of_zero_le f0
  obtain ⟨a, ha, hak⟩ := hix
  rw [hk] at hak
  have hfe : fe < n := by omega
  simp only [Int.toNat_natCast]
  have HI1 := Lib.hid (fun W (hW : Below w.heap.size w W) => HI.out fe zk W hW)
  rw [ha] at HI1 ⊢
  simp only [Int.toNat_natCast]
  obtain ⟨more, hmore⟩ : ∃ more : Rat, more = (if bo = true then qs.getD (indexOf s (fe : Int) 2).toNat 0 - (((s.fs.getD fe fd).wide + ((zoneOf s.zs (fe : Int) 2).getD zd).lower : Int) : Rat) else 0) := ⟨_, rfl⟩
  rw [← hmore]
  have hmore' := Lib.hid hmore
  clear hmore
  have hmore := hmore'
  clear hmore'
  have HN1 := Lib.hid (fun W (hW : Below w.heap.size w W) => HN.out fe zk hfe W hW)
  have hnom : -268435456 ≤ nominalOf s.fs fe zk ∧ nominalOf s.fs fe zk ≤ 268435456 := by
    have h := hfine.featOk fe (by rw [hlen]; exact hfe)
    have h1 := h.at_
    have h2 := h.wide
    unfold nominalOf
    split
    · exact h1
    · split
      · exact h2
      · exact ⟨by decide, by decide⟩
  generalize nominalOf s.fs fe zk = nm at HN1 hnom ⊢
  obtain ⟨av, m1, ev, hm1, y0, y1, y2, y3⟩ := HV.out a hak
  obtain ⟨q1, q2⟩ := hq a hak
  generalize qs.getD a 0 = x at hm1 q1 q2 ⊢
  subst ev
  have HR := Lib.hid (fun (z : Int) (h1 : -9223372036854775808 ≤ z) (h2 : z ≤ 9223372036854775807) W (hW : Below w.heap.size w W) => rFrom_any base z W (Nat.le_trans hB hW.size) h1 h2)
  have hlim : ∀ z : Int, -9223372036854775808 ≤ z → z ≤ 9223372036854775807 → limR (z : Rat) ≤ 2 ∧ (z : Rat).den = 1 := fun z h1 h2 => by
    unfold limR
    rw [Rat.num_intCast, Rat.den_intCast]
    have h9 : lim ((1 : Nat) : Int) = 1 := lim_one
    have := lim_small (z := z) (by omega)
    omega
  have HRn := Lib.hid (fun W (hW : Below w.heap.size w W) => HR.out nm (by omega) (by omega) W hW)
  have HS := Lib.hid (fun W (hW : Below w.heap.size w W) (m k : MR) (a b : Rat) (h1 : IsRat base W m a) (h2 : IsRat base W k b) h3 h4 h5 h6 => rSub_w base m k a b W (Nat.le_trans hB hW.size) h1 h2 h3 h4 h5 h6)
  have hln := hlim nm (by omega) (by omega)
  have hmw : more.den = 1 ∧ limR more ≤ 2000000 := by
    have hm0 := hmore.out
    cases bo
    · rw [if_neg (by decide)] at hm0
      rw [hm0]
      exact ⟨rfl, by unfold limR; rw [show ((0 : Rat).num) = 0 from rfl, lim_zero, show (((0 : Rat).den : Nat) : Int) = 1 from rfl, lim_one]; decide⟩
    · rw [if_pos rfl] at hm0
      obtain ⟨b, hb1, hb2⟩ := hix2 rfl
      rw [hk] at hb2
      rw [hb1, Int.toNat_natCast] at hm0
      have h := hfine.featOk fe (by rw [hlen]; exact hfe)
      have h1 := h.wide
      have h2 := hfine.bounds (fe : Int) 2
      obtain ⟨e1, e2⟩ := hq b hb2
      have e3 := hlim ((s.fs.getD fe fd).wide + ((zoneOf s.zs (fe : Int) 2).getD zd).lower) (by omega) (by omega)
      obtain ⟨e4, _, e5⟩ := whole_sub e1 e3.2
      rw [hm0]
      exact ⟨e4, by omega⟩
  have hlo := hlim lo (by omega) (by omega)
  have hup := hlim up (by omega) (by omega)
  obtain ⟨hd1, hd2, hd3⟩ := whole_sub q1 hln.2
  obtain ⟨hs1, hs2, hs3⟩ := whole_sub hlo.2 hmw.1
  obtain ⟨hp1, hp2, hp3⟩ := whole_add hup.2 hmw.1
  have hml := hmw.2
  have hle1 := whole_le hs1 hd1
  have hle2 := whole_le hd1 hp1
  unfold keeps1
  have hdl : limR (x - (nm : Rat)) ≤ 1000002 := by omega
  obtain ⟨dv, hdv⟩ : ∃ dv : Rat, dv = x - (nm : Rat) := ⟨_, rfl⟩
  obtain ⟨sl, hsl⟩ : ∃ sl : Rat, sl = (lo : Rat) - more := ⟨_, rfl⟩
  obtain ⟨pl, hpl⟩ : ∃ pl : Rat, pl = (up : Rat) + more := ⟨_, rfl⟩
  rw [← hdv] at hd1 hd2 hd3 hle1 hle2 hdl
  rw [← hsl] at hs1 hs2 hs3 hle1
  rw [← hpl] at hp1 hp2 hp3 hle2
  have hgoal : (decide ((lo : Rat) - more ≤ x - (nm : Rat)) && decide (x - (nm : Rat) ≤ (up : Rat) + more)) = (decide (sl ≤ dv) && decide (dv ≤ pl)) := by rw [hdv, hsl, hpl]
  rw [hgoal]
  have hdv' := Lib.hid hdv
  clear hdv
  have hdv := hdv'
  clear hdv'
  have hsl' := Lib.hid hsl
  clear hsl
  have hsl := hsl'
  clear hsl'
  have hpl' := Lib.hid hpl
  clear hpl
  have hpl := hpl'
  clear hpl'
  obtain ⟨c1v, hc1v⟩ : ∃ z, z = cmpI dv.num sl.num := ⟨_, rfl⟩
  obtain ⟨c2v, hc2v⟩ : ∃ z, z = cmpI dv.num pl.num := ⟨_, rfl⟩
  have hg1 : decide (sl ≤ dv) = decide (0 ≤ c1v) := by
    rw [decide_eq_decide, hle1, hc1v]
    unfold cmpI
    split
    · omega
    · split <;> omega
  have hg2 : decide (dv ≤ pl) = decide (c2v ≤ 0) := by
    rw [decide_eq_decide, hle2, hc2v]
    unfold cmpI
    split
    · omega
    · split <;> omega
  rw [hg1, hg2]
  clear hg1 hg2 hle1 hle2 hd2 hs2 hp2 hgoal
  have hc1v' := Lib.hid hc1v
  clear hc1v
  have hc1v := hc1v'
  clear hc1v'
  have hc2v' := Lib.hid hc2v
  clear hc2v
  have hc2v := hc2v'
  clear hc2v'
  have hmw := Lib.hid hmw
  have HRl := Lib.hid (fun W (hW : Below w.heap.size w W) => HR.out lo (by omega) (by omega) W hW)
  have HRu := Lib.hid (fun W (hW : Below w.heap.size w W) => HR.out up (by omega) (by omega) W hW)
  have HC1 := Lib.hid (fun W (hW : Below w.heap.size w W) (m k : MR) (h1 : IsRat base W m dv) (h2 : IsRat base W k sl) => (show Calls Tryz.prog 54 #[.agg #[.bool m.a.p, .slice m.a.A m.a.n m.a.c, .bool m.b.p, .slice m.b.A m.b.n m.b.c], .agg #[.bool k.a.p, .slice k.a.A k.a.n k.a.c, .bool k.b.p, .slice k.b.A k.b.n k.b.c]] W (fun e w' => e = .returned (.int .i64 c1v) ∧ Below W.heap.size W w') from by rw [hc1v.out]; exact rCompare_w base m k dv sl W (Nat.le_trans hB hW.size) h1 h2 (by omega) (by omega) hd1 hs1))
  have HC2 := Lib.hid (fun W (hW : Below w.heap.size w W) (m k : MR) (h1 : IsRat base W m dv) (h2 : IsRat base W k pl) => (show Calls Tryz.prog 54 #[.agg #[.bool m.a.p, .slice m.a.A m.a.n m.a.c, .bool m.b.p, .slice m.b.A m.b.n m.b.c], .agg #[.bool k.a.p, .slice k.a.A k.a.n k.a.c, .bool k.b.p, .slice k.b.A k.b.n k.b.c]] W (fun e w' => e = .returned (.int .i64 c2v) ∧ Below W.heap.size W w') from by rw [hc2v.out]; exact rCompare_w base m k dv pl W (Nat.le_trans hB hW.size) h1 h2 (by omega) (by omega) hd1 hp1))
  have HA := Lib.hid (fun W (hW : Below w.heap.size w W) (m k : MR) (a b : Rat) (h1 : IsRat base W m a) (h2 : IsRat base W k b) h3 h4 h5 h6 => rAdd_w base m k a b W (Nat.le_trans hB hW.size) h1 h2 h3 h4 h5 h6)
  have hltv : (av.add (a * 4)).block < w.heap.size := World.block_lt_of_cell? w _ y0
  have i0 : (0 : Int) ≤ (a : Int) := by omega
  have i1 : (a : Int) < (k : Int) := by omega
  clear hf hz hv
  go_enter Tryz.func53, Tryz.ntmps53
  obtain ⟨W1, e1⟩ : ∃ W1 : World, W1 = ((w.alloc (.cells #[.slice A n c, .slice Bz m d] 26)).alloc (.cells #[.int .i64 zk, .int .i64 (fe : Int), .int .i64 lo, .int .i64 up, .bool bo] 30)).alloc (.cells #[.int .i64 (fe : Int), .int .i64 zk] 78) := ⟨_, rfl⟩
  go_wp2_with fail
  rw [← e1]
  have B1 : Below w.heap.size w W1 := by rw [e1]; exact below_alloc (below_alloc (below_alloc (Below.refl _ _)))
  have c0 : W1.cell? ⟨w.heap.size, 0, none⟩ = some (.slice A n c) := by rw [e1]; simp [go_sem]
  have c1 : W1.cell? ⟨w.heap.size, 1, none⟩ = some (.slice Bz m d) := by rw [e1]; simp [go_sem]
  have z1 : W1.cell? ⟨w.heap.size + 1, 1, none⟩ = some (.int .i64 (fe : Int)) := by rw [e1]; simp [go_sem]
  have z2 : W1.cell? ⟨w.heap.size + 1, 2, none⟩ = some (.int .i64 lo) := by rw [e1]; simp [go_sem]
  have z3 : W1.cell? ⟨w.heap.size + 1, 3, none⟩ = some (.int .i64 up) := by rw [e1]; simp [go_sem]
  have z4 : W1.cell? ⟨w.heap.size + 1, 4, none⟩ = some (.bool bo) := by rw [e1]; simp [go_sem]
  have v0 : W1.cell? ⟨w.heap.size + 1 + 1, 0, none⟩ = some (.int .i64 (fe : Int)) := by rw [e1]; simp [go_sem]
  have v1 : W1.cell? ⟨w.heap.size + 1 + 1, 1, none⟩ = some (.int .i64 zk) := by rw [e1]; simp [go_sem]
  have y0 := cell_below B1 y0
  have y1 := cell_below B1 y1
  have y2 := cell_below B1 y2
  have y3 := cell_below B1 y3
  have hm1 := hm1.below B1
  have hW1 : w.heap.size + 1 + 1 < W1.heap.size := World.block_lt_of_cell? W1 _ v0
  clear e1
  go_cut [8] (fun u8 wx => ∃ (g : Nat) (m5 : MR), u8 = .pointer (some ⟨g, 0, none⟩) ∧ W1.heap.size ≤ g ∧ wx.cell? ⟨g, 0, none⟩ = some (.bool m5.a.p) ∧ wx.cell? ⟨g, 1, none⟩ = some (.slice m5.a.A m5.a.n m5.a.c) ∧ wx.cell? ⟨g, 2, none⟩ = some (.bool m5.b.p) ∧ wx.cell? ⟨g, 3, none⟩ = some (.slice m5.b.A m5.b.n m5.b.c) ∧ Hid (IsRat base wx m5 (x - (nm : Rat))) ∧ Below W1.heap.size W1 wx)
  case first =>
    go_region_held3 (fun w' => w'.cell? ⟨w.heap.size, 0, none⟩ = some (.slice A n c) ∧ w'.cell? ⟨w.heap.size, 1, none⟩ = some (.slice Bz m d) ∧ w'.cell? ⟨w.heap.size + 1 + 1, 0, none⟩ = some (.int .i64 (fe : Int)) ∧ w'.cell? ⟨w.heap.size + 1 + 1, 1, none⟩ = some (.int .i64 zk) ∧
        w'.cell? (av.add (a * 4)) = some (.bool m1.a.p) ∧ w'.cell? ⟨(av.add (a * 4)).block, (av.add (a * 4)).off + 1, none⟩ = some (.slice m1.a.A m1.a.n m1.a.c) ∧ w'.cell? ⟨(av.add (a * 4)).block, (av.add (a * 4)).off + 2, none⟩ = some (.bool m1.b.p) ∧ w'.cell? ⟨(av.add (a * 4)).block, (av.add (a * 4)).off + 3, none⟩ = some (.slice m1.b.A m1.b.n m1.b.c))
      (first
        | (with_reducible refine ⟨cell_set_far (cell_set_far (cell_set_far (cell_set_far (cell_below B5 c0) ?_ _) ?_ _) ?_ _) ?_ _, cell_set_far (cell_set_far (cell_set_far (cell_set_far (cell_below B5 c1) ?_ _) ?_ _) ?_ _) ?_ _, cell_set_far (cell_set_far (cell_set_far (cell_set_far (cell_below B5 v0) ?_ _) ?_ _) ?_ _) ?_ _, cell_set_far (cell_set_far (cell_set_far (cell_set_far (cell_below B5 v1) ?_ _) ?_ _) ?_ _) ?_ _, cell_set_far (cell_set_far (cell_set_far (cell_set_far (cell_below B5 y0) ?_ _) ?_ _) ?_ _) ?_ _, cell_set_far (cell_set_far (cell_set_far (cell_set_far (cell_below B5 y1) ?_ _) ?_ _) ?_ _) ?_ _, cell_set_far (cell_set_far (cell_set_far (cell_set_far (cell_below B5 y2) ?_ _) ?_ _) ?_ _) ?_ _, cell_set_far (cell_set_far (cell_set_far (cell_set_far (cell_below B5 y3) ?_ _) ?_ _) ?_ _) ?_ _⟩ <;> (dsimp only; omega))
        | with_reducible exact ⟨cell_below B5 c0, cell_below B5 c1, cell_below B5 v0, cell_below B5 v1, cell_below B5 y0, cell_below B5 y1, cell_below B5 y2, cell_below B5 y3⟩
        | with_reducible exact ⟨cell_below B4 c0, cell_below B4 c1, cell_below B4 v0, cell_below B4 v1, cell_below B4 y0, cell_below B4 y1, cell_below B4 y2, cell_below B4 y3⟩
        | with_reducible exact ⟨cell_below B3 c0, cell_below B3 c1, cell_below B3 v0, cell_below B3 v1, cell_below B3 y0, cell_below B3 y1, cell_below B3 y2, cell_below B3 y3⟩
        | with_reducible exact ⟨cell_below B2 c0, cell_below B2 c1, cell_below B2 v0, cell_below B2 v1, cell_below B2 y0, cell_below B2 y1, cell_below B2 y2, cell_below B2 y3⟩
        | (with_reducible refine ⟨cell_below ?_ (cell_below B5 c0), cell_below ?_ (cell_below B5 c1), cell_below ?_ (cell_below B5 v0), cell_below ?_ (cell_below B5 v1), cell_below ?_ (cell_below B5 y0), cell_below ?_ (cell_below B5 y1), cell_below ?_ (cell_below B5 y2), cell_below ?_ (cell_below B5 y3)⟩ <;> exact (by repeat (first | exact Below.refl _ _ | apply below_alloc | apply below_drewN | apply below_drew)))
        | (with_reducible refine ⟨cell_below ?_ (cell_below B4 c0), cell_below ?_ (cell_below B4 c1), cell_below ?_ (cell_below B4 v0), cell_below ?_ (cell_below B4 v1), cell_below ?_ (cell_below B4 y0), cell_below ?_ (cell_below B4 y1), cell_below ?_ (cell_below B4 y2), cell_below ?_ (cell_below B4 y3)⟩ <;> exact (by repeat (first | exact Below.refl _ _ | apply below_alloc | apply below_drewN | apply below_drew)))
        | (with_reducible refine ⟨cell_below ?_ (cell_below B3 c0), cell_below ?_ (cell_below B3 c1), cell_below ?_ (cell_below B3 v0), cell_below ?_ (cell_below B3 v1), cell_below ?_ (cell_below B3 y0), cell_below ?_ (cell_below B3 y1), cell_below ?_ (cell_below B3 y2), cell_below ?_ (cell_below B3 y3)⟩ <;> exact (by repeat (first | exact Below.refl _ _ | apply below_alloc | apply below_drewN | apply below_drew)))
        | (with_reducible refine ⟨cell_below ?_ (cell_below B2 c0), cell_below ?_ (cell_below B2 c1), cell_below ?_ (cell_below B2 v0), cell_below ?_ (cell_below B2 v1), cell_below ?_ (cell_below B2 y0), cell_below ?_ (cell_below B2 y1), cell_below ?_ (cell_below B2 y2), cell_below ?_ (cell_below B2 y3)⟩ <;> exact (by repeat (first | exact Below.refl _ _ | apply below_alloc | apply below_drewN | apply below_drew)))
        | (with_reducible refine ⟨cell_below ?_ c0, cell_below ?_ c1, cell_below ?_ v0, cell_below ?_ v1, cell_below ?_ y0, cell_below ?_ y1, cell_below ?_ y2, cell_below ?_ y3⟩ <;> exact (by repeat (first | exact Below.refl _ _ | apply below_alloc | apply below_drewN | apply below_drew)))
        | exact ⟨c0, c1, v0, v1, y0, y1, y2, y3⟩
        | go_keep)
      (first
        | (go_at_call 37; with_reducible refine (HI1.out _ ?hb9).mono ?_; (case hb9 => exact below_then B1 (by repeat (first | exact Below.refl _ _ | apply below_alloc | apply below_drewN | apply below_drew))); rintro e w2 ⟨rfl, hb2⟩; have B2 := below_then (w := W1) (by repeat (first | exact Below.refl _ _ | apply below_alloc | apply below_drewN | apply below_drew)) hb2; (first | (with_reducible have h4 := Fr4.made hb2) | (with_reducible have h4 := Fr4.made' hb2) | skip); have hz2 := B2.size; clear hb2)
        | (go_at_call 31; with_reducible refine (HN1.out _ ?hb9).mono ?_; (case hb9 => exact below_then B1 (below_then B2 (by repeat (first | exact Below.refl _ _ | apply below_alloc | apply below_drewN | apply below_drew)))); rintro e w3 ⟨rfl, hb3⟩; have B3 := below_then B2 (below_then (w := w2) (by repeat (first | exact Below.refl _ _ | apply below_alloc | apply below_drewN | apply below_drew)) hb3); (first | (with_reducible have h4 := Fr4.keep h4 hb3) | (with_reducible have h4 := Fr4.made hb3) | skip); have hz3 := B3.size; clear hb3)
        | (go_at_call 38; with_reducible refine (HRn.out _ ?hb9).mono ?_; (case hb9 => exact below_then B1 (below_then B3 (by repeat (first | exact Below.refl _ _ | apply below_alloc | apply below_drewN | apply below_drew)))); intro e w4 hret; unfold RetRat at hret; obtain ⟨m4, rfl, hq4, hb4⟩ := hret; have B4 := below_then B3 (below_then (w := w3) (by repeat (first | exact Below.refl _ _ | apply below_alloc | apply below_drewN | apply below_drew)) hb4); (first | (with_reducible have h4 := Fr4.keep h4 hb4) | (with_reducible have h4 := Fr4.made hb4) | skip); have hz4 := B4.size; clear hb4)
        | (go_at_call 75; refine (HS.out _ (below_then B1 (below_then B4 (by repeat (first | exact Below.refl _ _ | apply below_alloc | apply below_drewN | apply below_drew)))) m1 m4 x nm (hm1.below (below_then B4 (by repeat (first | exact Below.refl _ _ | apply below_alloc | apply below_drewN | apply below_drew)))) (hq4.below (by repeat (first | exact Below.refl _ _ | apply below_alloc | apply below_drewN | apply below_drew))) (by omega) (by omega) q1 hln.2).mono ?_; intro e w5 hret; unfold RetRat at hret; obtain ⟨m5, rfl, hq5, hb5⟩ := hret; have B5 := below_then B4 (below_then (w := w4) (by repeat (first | exact Below.refl _ _ | apply below_alloc | apply below_drewN | apply below_drew)) hb5); (first | (with_reducible have h4 := Fr4.keep h4 hb5) | (with_reducible have h4 := Fr4.made hb5) | skip); (first | (obtain ⟨a0, a1, a2, a3, fa0, fa1, fa2, fa3, Tr⟩ := h4; have Tr := Lib.hid Tr) | skip); have hz5 := B5.size; clear hb5))
    all_goals
      go_wp2_with fail
      go_meet
      refine ⟨_, m5, rfl, by first | omega | (simp; omega), ?_, ?_, ?_, ?_, Lib.hid (hq5.keeps (by repeat (first | exact Keeps.refl _ _ _ | apply Keeps.alloc | apply Keeps.drewN | apply Keeps.drew | refine Keeps.set ?_ (by simp; try omega) (by first | (simp [T1.out]; done) | (simp [Tr.out]; done)) _))), ?_⟩
      · first | (simp [go_sem]; done) | (simp [go_sem, a0, a1, a2, a3]; done)
      · first | (simp [go_sem]; done) | (simp [go_sem, a0, a1, a2, a3]; done)
      · first | (simp [go_sem]; done) | (simp [go_sem, a0, a1, a2, a3]; done)
      · first | (simp [go_sem]; done) | (simp [go_sem, a0, a1, a2, a3]; done)
      first
        | exact below_alloc B5
        | exact below_set (below_set (below_set (below_set B5 (by dsimp only; omega) _) (by dsimp only; omega) _) (by dsimp only; omega) _) (by dsimp only; omega) _
  case rest =>
    obtain ⟨g, m5, rfl, hgw, g0, g1, g2, g3, hq5, B5⟩ := hcut
    obtain ⟨W6, e6⟩ : ∃ W6 : World, W6 = wc := ⟨_, rfl⟩
    subst e6
    have c0 := cell_below B5 c0
    have c1 := cell_below B5 c1
    have z1 := cell_below B5 z1
    have z2 := cell_below B5 z2
    have z3 := cell_below B5 z3
    have z4 := cell_below B5 z4
    have hgl : g < W6.heap.size := World.block_lt_of_cell? W6 _ g0
    have hWc : w.heap.size + 1 + 1 < W6.heap.size := by omega
    have hWc1 : ¬ w.heap.size = W6.heap.size := by omega
    have hWc2 : ¬ w.heap.size + 1 = W6.heap.size := by omega
    have hWd : w.heap.size < W6.heap.size := by omega
    have hWe : w.heap.size + 1 < W6.heap.size := by omega
    have Bc := Lib.hid (below_then B1 B5)
    have hyv := Lib.hid (fun b (hb : b < k) => HV.out b hb)
    clear B5 B1 y0 y1 y2 y3 v0 v1 hm1 HI1 HN1 HRn
    go_upto_if 32 with fail
    go_cut [] (fun wx => ∃ m9 : MR, wx.cell? ⟨W6.heap.size, 0, none⟩ = some (.bool m9.a.p) ∧ wx.cell? ⟨W6.heap.size, 1, none⟩ = some (.slice m9.a.A m9.a.n m9.a.c) ∧ wx.cell? ⟨W6.heap.size, 2, none⟩ = some (.bool m9.b.p) ∧ wx.cell? ⟨W6.heap.size, 3, none⟩ = some (.slice m9.b.A m9.b.n m9.b.c) ∧ Hid (IsRat base wx m9 more) ∧ Below W6.heap.size W6 wx)
    case first =>
      cases bo
      · have hm0 := hmore.out
        rw [if_neg (by decide)] at hm0
        go_wp2_with fail
        go_meet
        exact ⟨zMR, by simp [go_sem, zMR], by simp [go_sem, zMR], by simp [go_sem, zMR], by simp [go_sem, zMR], Lib.hid (by rw [hm0]; exact IsRat.zero _ _), (by repeat (first | exact Below.refl _ _ | apply below_alloc | apply below_drewN | apply below_drew))⟩
      · have hm0 := hmore.out
        rw [if_pos rfl] at hm0
        obtain ⟨b, hb1, hb2⟩ := hix2 rfl
        rw [hk] at hb2
        rw [hb1, Int.toNat_natCast] at hm0
        obtain ⟨av', mb, ev', hmb, b0, b1, b2, b3⟩ := hyv.out b hb2
        injection ev' with ev'
        subst ev'
        obtain ⟨qb1, qb2⟩ := hq b hb2
        obtain ⟨af, eaf, _, _, _, _, _, y5⟩ := HF.out fe hfe
        subst eaf
        have hwd := (hfine.featOk fe (by rw [hlen]; exact hfe)).wide
        have hbd := hfine.bounds (fe : Int) 2
        have HZ2 := Lib.hid (fun W (hW : Below w.heap.size w W) => HZ.out fe 2 W hW)
        unfold RetZone at HZ2
        have HI2 := Lib.hid (fun W (hW : Below w.heap.size w W) => HI.out fe 2 W hW)
        rw [hb1] at HI2
        generalize (zoneOf s.zs (fe : Int) 2).isSome = yi at HZ2
        generalize (zoneOf s.zs (fe : Int) 2).getD zd = yz at HZ2 hbd hm0
        generalize (s.fs.getD fe fd).wide = wide at y5 hwd hm0
        generalize qs.getD b 0 = xb at hmb qb1 qb2 hm0
        obtain ⟨yk, yf, yl, yu, yb⟩ := yz
        dsimp only at hbd HZ2 hm0
        obtain ⟨hbd1, hbd2, hbd3, hbd4⟩ := hbd
        obtain ⟨hwd1, hwd2⟩ := hwd
        have HRw := Lib.hid (fun W (hW : Below w.heap.size w W) => HR.out (wide + yl) (by omega) (by omega) W hW)
        have hwr : IntKind.i64.wrap (wide + yl) = wide + yl := by rw [IntKind.wrap_i64]; omega
        have hlw := hlim (wide + yl) (by omega) (by omega)
        have ltb : (av.add (b * 4)).block < w.heap.size := World.block_lt_of_cell? w _ b0
        have lty : (af.add (fe * 6)).block < w.heap.size := World.block_lt_of_cell? w ⟨(af.add (fe * 6)).block, (af.add (fe * 6)).off + 5, none⟩ y5
        have j0 : (0 : Int) ≤ (b : Int) := by omega
        have j1 : (b : Int) < (k : Int) := by omega
        have j2 : (0 : Int) ≤ (fe : Int) := by omega
        have j3 : (fe : Int) < (n : Int) := by omega
        have b0 := cell_below Bc.out b0
        have b1 := cell_below Bc.out b1
        have b2 := cell_below Bc.out b2
        have b3 := cell_below Bc.out b3
        have y5 := cell_below Bc.out y5
        have hmb := hmb.below Bc.out
        go_wp2_with fail
        refine (HZ2.out _ (below_alloc Bc.out)).mono ?_
        rintro e w7 ⟨rfl, hb7⟩
        have h4 := Fr4.made hb7
        have B7 := below_then (w := W6) (by repeat (first | exact Below.refl _ _ | apply below_alloc | apply below_drewN | apply below_drew)) hb7
        have c0 := cell_below B7 c0
        have c1 := cell_below B7 c1
        have z1 := cell_below B7 z1
        have b0 := cell_below B7 b0
        have b1 := cell_below B7 b1
        have b2 := cell_below B7 b2
        have b3 := cell_below B7 b3
        have y5 := cell_below B7 y5
        have hmb := hmb.below B7
        have h47 : W6.heap.size < w7.heap.size := World.block_lt_of_cell? w7 _ h4.c0
        clear hb7 HZ2
        obtain ⟨W8, e8⟩ : ∃ W8 : World, W8 = w7.alloc (.cells #[.int .i64 yk, .int .i64 yf, .int .i64 yl, .int .i64 yu, .bool yb] 30) := ⟨_, rfl⟩
        go_wp2_with fail
        rw [← e8]
        have hB8 : Below w7.heap.size w7 W8 := by rw [e8]; exact below_alloc (Below.refl _ _)
        have t2 : W8.cell? ⟨w7.heap.size, 2, none⟩ = some (.int .i64 yl) := by rw [e8]; simp [go_sem]
        have h4 := h4.keep hB8
        have c0 := cell_below hB8 c0
        have c1 := cell_below hB8 c1
        have z1 := cell_below hB8 z1
        have b0 := cell_below hB8 b0
        have b1 := cell_below hB8 b1
        have b2 := cell_below hB8 b2
        have b3 := cell_below hB8 b3
        have y5 := cell_below hB8 y5
        have hmb := hmb.below hB8
        have B78 := below_then B7 hB8
        have Bw8 := Lib.hid (below_then Bc.out B78)
        have B78 := Lib.hid B78
        clear e8 hB8 B7
        go_region_held3 (fun w' => w'.cell? ⟨w.heap.size, 0, none⟩ = some (.slice (some af) n c) ∧ w'.cell? ⟨w.heap.size, 1, none⟩ = some (.slice Bz m d) ∧ w'.cell? ⟨w.heap.size + 1, 1, none⟩ = some (.int .i64 (fe : Int)) ∧ w'.cell? (av.add (b * 4)) = some (.bool mb.a.p) ∧ w'.cell? ⟨(av.add (b * 4)).block, (av.add (b * 4)).off + 1, none⟩ = some (.slice mb.a.A mb.a.n mb.a.c) ∧ w'.cell? ⟨(av.add (b * 4)).block, (av.add (b * 4)).off + 2, none⟩ = some (.bool mb.b.p) ∧ w'.cell? ⟨(av.add (b * 4)).block, (av.add (b * 4)).off + 3, none⟩ = some (.slice mb.b.A mb.b.n mb.b.c) ∧ w'.cell? ⟨(af.add (fe * 6)).block, (af.add (fe * 6)).off + 5, none⟩ = some (.int .i64 wide) ∧ w'.cell? ⟨w7.heap.size, 2, none⟩ = some (.int .i64 yl))
          (first
            | (with_reducible refine ⟨cell_set_far (cell_set_far (cell_set_far (cell_set_far (cell_below B10 c0) ?_ _) ?_ _) ?_ _) ?_ _, cell_set_far (cell_set_far (cell_set_far (cell_set_far (cell_below B10 c1) ?_ _) ?_ _) ?_ _) ?_ _, cell_set_far (cell_set_far (cell_set_far (cell_set_far (cell_below B10 z1) ?_ _) ?_ _) ?_ _) ?_ _, cell_set_far (cell_set_far (cell_set_far (cell_set_far (cell_below B10 b0) ?_ _) ?_ _) ?_ _) ?_ _, cell_set_far (cell_set_far (cell_set_far (cell_set_far (cell_below B10 b1) ?_ _) ?_ _) ?_ _) ?_ _, cell_set_far (cell_set_far (cell_set_far (cell_set_far (cell_below B10 b2) ?_ _) ?_ _) ?_ _) ?_ _, cell_set_far (cell_set_far (cell_set_far (cell_set_far (cell_below B10 b3) ?_ _) ?_ _) ?_ _) ?_ _, cell_set_far (cell_set_far (cell_set_far (cell_set_far (cell_below B10 y5) ?_ _) ?_ _) ?_ _) ?_ _, cell_set_far (cell_set_far (cell_set_far (cell_set_far (cell_below B10 t2) ?_ _) ?_ _) ?_ _) ?_ _⟩ <;> (dsimp only; omega))
            | with_reducible exact ⟨cell_below B10 c0, cell_below B10 c1, cell_below B10 z1, cell_below B10 b0, cell_below B10 b1, cell_below B10 b2, cell_below B10 b3, cell_below B10 y5, cell_below B10 t2⟩
            | with_reducible exact ⟨cell_below B9 c0, cell_below B9 c1, cell_below B9 z1, cell_below B9 b0, cell_below B9 b1, cell_below B9 b2, cell_below B9 b3, cell_below B9 y5, cell_below B9 t2⟩
            | with_reducible exact ⟨cell_below B8 c0, cell_below B8 c1, cell_below B8 z1, cell_below B8 b0, cell_below B8 b1, cell_below B8 b2, cell_below B8 b3, cell_below B8 y5, cell_below B8 t2⟩
            | exact ⟨c0, c1, z1, b0, b1, b2, b3, y5, t2⟩)
          (first
            | (go_at_call 37; with_reducible refine (HI2.out _ ?hb9).mono ?_; (case hb9 => exact below_drew Bw8.out); intro e w9 hret; obtain ⟨rfl, hb9⟩ := hret; have B8 := below_then (w := W8) (by repeat (first | exact Below.refl _ _ | apply below_alloc | apply below_drewN | apply below_drew)) hb9; have h4 := h4.keep B8; clear hb9)
            | (go_at_call 38; with_reducible refine (HRw.out _ ?hb9).mono ?_; (case hb9 => exact below_then Bw8.out B8); intro e w10 hret; unfold RetRat at hret; obtain ⟨m10, rfl, hq10, hb10⟩ := hret; have B9 := below_then B8 hb10; have h4 := h4.keep hb10; clear hb10)
            | (go_at_call 75; refine (HS.out _ (below_then Bw8.out B9) mb m10 xb ((wide + yl : Int) : Rat) (hmb.below B9) hq10 (by omega) (by omega) qb1 hlw.2).mono ?_; intro e w11 hret; unfold RetRat at hret; obtain ⟨m11, rfl, hq11, hb11⟩ := hret; have B10 := below_then B9 hb11; obtain ⟨a0, a1, a2, a3, fa0, fa1, fa2, fa3, Tr⟩ := h4.keep hb11; have Tr := Lib.hid Tr; clear hb11))
        go_wp2_with fail
        go_meet
        exact ⟨m11, by simp [go_sem, a0, a1, a2, a3], by simp [go_sem, a0, a1, a2, a3], by simp [go_sem, a0, a1, a2, a3], by simp [go_sem, a0, a1, a2, a3], Lib.hid (by rw [hm0]; exact hq11.keeps (by repeat (first | exact Keeps.refl _ _ _ | apply Keeps.alloc | apply Keeps.drewN | apply Keeps.drew | refine Keeps.set ?_ (by simp; try omega) (by first | (simp [T1.out]; done) | (simp [Tr.out]; done)) _))), below_set (below_set (below_set (below_set (below_then B78.out B10) (by dsimp only; omega) _) (by dsimp only; omega) _) (by dsimp only; omega) _) (by dsimp only; omega) _⟩
    case rest =>
      obtain ⟨m9, k0, k1, k2, k3, hq9, B9⟩ := hcut
      have z2 := cell_below B9 z2
      have z3 := cell_below B9 z3
      have g0 := cell_below B9 g0
      have g1 := cell_below B9 g1
      have g2 := cell_below B9 g2
      have g3 := cell_below B9 g3
      have hq5 := Lib.hid (show IsRat base wc m5 dv from by rw [hdv.out]; exact hq5.out.below B9)
      have Bw := Lib.hid (below_then Bc.out B9)
      clear B9 hgl hWc hWc1 hWc2 hWd hWe c0 c1 z1
      cases hge : decide (0 ≤ c1v)
      · go_wp2_with fail
        refine wp_region_held_drew (S := fun w' => w'.cell? ⟨g, 0, none⟩ = some (.bool m5.a.p) ∧ w'.cell? ⟨g, 1, none⟩ = some (.slice m5.a.A m5.a.n m5.a.c) ∧ w'.cell? ⟨g, 2, none⟩ = some (.bool m5.b.p) ∧ w'.cell? ⟨g, 3, none⟩ = some (.slice m5.b.A m5.b.n m5.b.c) ∧ w'.cell? ⟨W6.heap.size, 0, none⟩ = some (.bool m9.a.p) ∧ w'.cell? ⟨W6.heap.size, 1, none⟩ = some (.slice m9.a.A m9.a.n m9.a.c) ∧ w'.cell? ⟨W6.heap.size, 2, none⟩ = some (.bool m9.b.p) ∧ w'.cell? ⟨W6.heap.size, 3, none⟩ = some (.slice m9.b.A m9.b.n m9.b.c) ∧ w'.cell? ⟨w.heap.size + 1, 2, none⟩ = some (.int .i64 lo) ∧ w'.cell? ⟨w.heap.size + 1, 3, none⟩ = some (.int .i64 up)) (by kernel_rfl) ⟨g0, g1, g2, g3, k0, k1, k2, k3, z2, z3⟩ (fun hHeld => ?_)
        (refine wpAnyH_take (i := 0) (v := ?_) rfl (by kernel_rfl) (by kernel_rfl) (by kernel_rfl) (fun _ _ _ h => h) (Or.inl ⟨by rfl, ?_⟩) (by assumption) ?_; rotate_left 1; (focus (intro w hSw; (try dsimp only at hSw); (try simp only [List.getElem_toArray, List.getElem_cons_zero, List.getElem_cons_succ]); go_simp; (try with_reducible rfl))); (try simp only [Act.put, List.setIfInBounds_toArray, List.set_cons_zero, List.set_cons_succ, List.getElem_toArray, List.getElem_cons_zero, List.getElem_cons_succ])); (refine wpAnyH_take (i := 1) (v := ?_) rfl (by kernel_rfl) (by kernel_rfl) (by kernel_rfl) (fun _ _ _ h => h) (Or.inl ⟨by rfl, ?_⟩) (by assumption) ?_; rotate_left 1; (focus (intro w hSw; (try dsimp only at hSw); (try simp only [List.getElem_toArray, List.getElem_cons_zero, List.getElem_cons_succ]); go_simp; (try with_reducible rfl))); (try simp only [Act.put, List.setIfInBounds_toArray, List.set_cons_zero, List.set_cons_succ, List.getElem_toArray, List.getElem_cons_zero, List.getElem_cons_succ])); (refine wpAnyH_take (i := 2) (v := ?_) rfl (by kernel_rfl) (by kernel_rfl) (by kernel_rfl) (fun _ _ _ h => h) (Or.inl ⟨by rfl, ?_⟩) (by assumption) ?_; rotate_left 1; (focus (intro w hSw; (try dsimp only at hSw); (try simp only [List.getElem_toArray, List.getElem_cons_zero, List.getElem_cons_succ]); go_simp; (try with_reducible rfl))); (try simp only [Act.put, List.setIfInBounds_toArray, List.set_cons_zero, List.set_cons_succ, List.getElem_toArray, List.getElem_cons_zero, List.getElem_cons_succ])); (refine wpAnyH_take (i := 4) (v := ?_) rfl (by kernel_rfl) (by kernel_rfl) (by kernel_rfl) (fun _ _ _ h => h) (Or.inl ⟨by rfl, ?_⟩) (by assumption) ?_; rotate_left 1; (focus (intro w hSw; (try dsimp only at hSw); (try simp only [List.getElem_toArray, List.getElem_cons_zero, List.getElem_cons_succ]); go_simp; (try with_reducible rfl))); (try simp only [Act.put, List.setIfInBounds_toArray, List.set_cons_zero, List.set_cons_succ, List.getElem_toArray, List.getElem_cons_zero, List.getElem_cons_succ]))
        (refine wpAnyH_ready (rs := [3]) (by kernel_rfl) (by simp) ?_; refine AllReadyH.cons rfl (fun K hK => ?_) AllReadyH.nil; (try simp only [List.getElem_toArray, List.getElem_cons_zero, List.getElem_cons_succ]))
        go_simp
        go_at_call 38; with_reducible refine (HRl.out _ ?hb9).mono ?_; (case hb9 => exact below_drew Bw.out); intro e w10 hret; unfold RetRat at hret; obtain ⟨m10, rfl, hq10, hb10⟩ := hret; have B10 := below_then (w := wc) (by repeat (first | exact Below.refl _ _ | apply below_alloc | apply below_drewN | apply below_drew)) hb10; clear hb10
        go_wp2_with fail
        (refine hK.out _ _ ?_ (fun hHeld => ?_); (focus (exact ⟨cell_below B10 g0, cell_below B10 g1, cell_below B10 g2, cell_below B10 g3, cell_below B10 k0, cell_below B10 k1, cell_below B10 k2, cell_below B10 k3, cell_below B10 z2, cell_below B10 z3⟩)); clear hK K; (try simp only [Act.put, List.setIfInBounds_toArray, List.set_cons_zero, List.set_cons_succ, List.getElem_toArray, List.getElem_cons_zero, List.getElem_cons_succ]))
        (refine wpAnyH_ready (rs := [5]) (by kernel_rfl) (by simp) ?_; refine AllReadyH.cons rfl (fun K hK => ?_) AllReadyH.nil; (try simp only [List.getElem_toArray, List.getElem_cons_zero, List.getElem_cons_succ]))
        go_simp
        go_at_call 75; refine (HS.out _ (below_then Bw.out B10) m10 m9 lo more hq10 (hq9.out.below B10) (by omega) (by omega) hlo.2 hmw.out.1).mono ?_; intro e w11 hret; unfold RetRat at hret; obtain ⟨m11, rfl, hq11, hb11⟩ := hret; have B11 := below_then B10 hb11; clear hb11
        go_wp2_with fail
        (refine hK.out _ _ ?_ (fun hHeld => ?_); (focus (exact ⟨cell_below B11 g0, cell_below B11 g1, cell_below B11 g2, cell_below B11 g3, cell_below B11 k0, cell_below B11 k1, cell_below B11 k2, cell_below B11 k3, cell_below B11 z2, cell_below B11 z3⟩)); clear hK K; (try simp only [Act.put, List.setIfInBounds_toArray, List.set_cons_zero, List.set_cons_succ, List.getElem_toArray, List.getElem_cons_zero, List.getElem_cons_succ]))
        (refine wpAnyH_ready (rs := [6]) (by kernel_rfl) (by simp) ?_; refine AllReadyH.cons rfl (fun K hK => ?_) AllReadyH.nil; (try simp only [List.getElem_toArray, List.getElem_cons_zero, List.getElem_cons_succ]))
        go_simp
        go_at_call 54; with_reducible refine (HC1.out _ (below_then Bw.out B11) m5 m11 ?h1 ?h2).mono ?_; (case h1 => exact hq5.out.below B11); (case h2 => rw [hsl.out]; exact hq11); intro e w12 hret; obtain ⟨rfl, hb12⟩ := hret; have B12 := below_then B11 hb12; clear hb12
        go_wp2_with fail
        (refine hK.out _ _ ?_ (fun hHeld => ?_); (focus (exact ⟨cell_below B12 g0, cell_below B12 g1, cell_below B12 g2, cell_below B12 g3, cell_below B12 k0, cell_below B12 k1, cell_below B12 k2, cell_below B12 k3, cell_below B12 z2, cell_below B12 z3⟩)); clear hK K; (try simp only [Act.put, List.setIfInBounds_toArray, List.set_cons_zero, List.set_cons_succ, List.getElem_toArray, List.getElem_cons_zero, List.getElem_cons_succ]))
        (refine wpAnyH_take (i := 7) (v := ?_) rfl (by kernel_rfl) (by kernel_rfl) (by kernel_rfl) (fun _ _ _ h => h) (Or.inl ⟨by rfl, ?_⟩) (by assumption) ?_; rotate_left 1; (focus (intro w hSw; (try dsimp only at hSw); (try simp only [List.getElem_toArray, List.getElem_cons_zero, List.getElem_cons_succ]); go_simp; (try with_reducible rfl))); (try simp only [Act.put, List.setIfInBounds_toArray, List.set_cons_zero, List.set_cons_succ, List.getElem_toArray, List.getElem_cons_zero, List.getElem_cons_succ])); (refine wpAnyH_take (i := 8) (v := ?_) rfl (by kernel_rfl) (by kernel_rfl) (by kernel_rfl) (fun _ _ _ h => h) (Or.inl ⟨by rfl, ?_⟩) (by assumption) ?_; rotate_left 1; (focus (intro w hSw; (try dsimp only at hSw); (try simp only [List.getElem_toArray, List.getElem_cons_zero, List.getElem_cons_succ]); go_simp; (try with_reducible rfl))); (try simp only [Act.put, List.setIfInBounds_toArray, List.set_cons_zero, List.set_cons_succ, List.getElem_toArray, List.getElem_cons_zero, List.getElem_cons_succ]))
        (refine wpAnyH_take (i := 9) (v := undef) rfl (by kernel_rfl) (by kernel_rfl) (by kernel_rfl) (fun _ _ _ h => h) (Or.inr ⟨by rfl, rfl⟩) (by assumption) ?_; (try simp only [Act.put, List.setIfInBounds_toArray, List.set_cons_zero, List.set_cons_succ, List.getElem_toArray, List.getElem_cons_zero, List.getElem_cons_succ])); (refine wpAnyH_take (i := 10) (v := undef) rfl (by kernel_rfl) (by kernel_rfl) (by kernel_rfl) (fun _ _ _ h => h) (Or.inr ⟨by rfl, rfl⟩) (by assumption) ?_; (try simp only [Act.put, List.setIfInBounds_toArray, List.set_cons_zero, List.set_cons_succ, List.getElem_toArray, List.getElem_cons_zero, List.getElem_cons_succ])); (refine wpAnyH_take (i := 11) (v := undef) rfl (by kernel_rfl) (by kernel_rfl) (by kernel_rfl) (fun _ _ _ h => h) (Or.inr ⟨by rfl, rfl⟩) (by assumption) ?_; (try simp only [Act.put, List.setIfInBounds_toArray, List.set_cons_zero, List.set_cons_succ, List.getElem_toArray, List.getElem_cons_zero, List.getElem_cons_succ])); (refine wpAnyH_take (i := 12) (v := undef) rfl (by kernel_rfl) (by kernel_rfl) (by kernel_rfl) (fun _ _ _ h => h) (Or.inr ⟨by rfl, rfl⟩) (by assumption) ?_; (try simp only [Act.put, List.setIfInBounds_toArray, List.set_cons_zero, List.set_cons_succ, List.getElem_toArray, List.getElem_cons_zero, List.getElem_cons_succ])); (refine wpAnyH_take (i := 13) (v := undef) rfl (by kernel_rfl) (by kernel_rfl) (by kernel_rfl) (fun _ _ _ h => h) (Or.inr ⟨by rfl, rfl⟩) (by assumption) ?_; (try simp only [Act.put, List.setIfInBounds_toArray, List.set_cons_zero, List.set_cons_succ, List.getElem_toArray, List.getElem_cons_zero, List.getElem_cons_succ])); (refine wpAnyH_take (i := 14) (v := undef) rfl (by kernel_rfl) (by kernel_rfl) (by kernel_rfl) (fun _ _ _ h => h) (Or.inr ⟨by rfl, rfl⟩) (by assumption) ?_; (try simp only [Act.put, List.setIfInBounds_toArray, List.set_cons_zero, List.set_cons_succ, List.getElem_toArray, List.getElem_cons_zero, List.getElem_cons_succ])); (refine wpAnyH_take (i := 15) (v := undef) rfl (by kernel_rfl) (by kernel_rfl) (by kernel_rfl) (fun _ _ _ h => h) (Or.inr ⟨by rfl, rfl⟩) (by assumption) ?_; (try simp only [Act.put, List.setIfInBounds_toArray, List.set_cons_zero, List.set_cons_succ, List.getElem_toArray, List.getElem_cons_zero, List.getElem_cons_succ])); (refine wpAnyH_take (i := 16) (v := undef) rfl (by kernel_rfl) (by kernel_rfl) (by kernel_rfl) (fun _ _ _ h => h) (Or.inr ⟨by rfl, rfl⟩) (by assumption) ?_; (try simp only [Act.put, List.setIfInBounds_toArray, List.set_cons_zero, List.set_cons_succ, List.getElem_toArray, List.getElem_cons_zero, List.getElem_cons_succ]))
        (refine wpAnyH_take (i := 17) (v := ?_) rfl (by kernel_rfl) (by kernel_rfl) (by kernel_rfl) (fun _ _ _ h => h) (Or.inl ⟨by rfl, ?_⟩) (by assumption) ?_; rotate_left 1; (focus (intro w hSw; (try dsimp only at hSw); (try simp only [List.getElem_toArray, List.getElem_cons_zero, List.getElem_cons_succ]); go_simp; (try with_reducible rfl))); (try simp only [Act.put, List.setIfInBounds_toArray, List.set_cons_zero, List.set_cons_succ, List.getElem_toArray, List.getElem_cons_zero, List.getElem_cons_succ])); (refine wpAnyH_take (i := 18) (v := ?_) rfl (by kernel_rfl) (by kernel_rfl) (by kernel_rfl) (fun _ _ _ h => h) (Or.inl ⟨by rfl, ?_⟩) (by assumption) ?_; rotate_left 1; (focus (intro w hSw; (try dsimp only at hSw); (try simp only [List.getElem_toArray, List.getElem_cons_zero, List.getElem_cons_succ]); go_simp; (try with_reducible rfl))); (try simp only [Act.put, List.setIfInBounds_toArray, List.set_cons_zero, List.set_cons_succ, List.getElem_toArray, List.getElem_cons_zero, List.getElem_cons_succ]))
        refine wpAnyH_done (by kernel_rfl) ?_ _
        go_wp2_with fail
        go_ret
        exact ⟨by first | rfl | simp [hge], below_then Bw.out B12⟩
      · cases hle : decide (c2v ≤ 0)
        · go_wp2_with fail
          first
            | (go_region_held3 (fun w' => w'.cell? ⟨g, 0, none⟩ = some (.bool m5.a.p) ∧ w'.cell? ⟨g, 1, none⟩ = some (.slice m5.a.A m5.a.n m5.a.c) ∧ w'.cell? ⟨g, 2, none⟩ = some (.bool m5.b.p) ∧ w'.cell? ⟨g, 3, none⟩ = some (.slice m5.b.A m5.b.n m5.b.c) ∧ w'.cell? ⟨W6.heap.size, 0, none⟩ = some (.bool m9.a.p) ∧ w'.cell? ⟨W6.heap.size, 1, none⟩ = some (.slice m9.a.A m9.a.n m9.a.c) ∧ w'.cell? ⟨W6.heap.size, 2, none⟩ = some (.bool m9.b.p) ∧ w'.cell? ⟨W6.heap.size, 3, none⟩ = some (.slice m9.b.A m9.b.n m9.b.c) ∧ w'.cell? ⟨w.heap.size + 1, 2, none⟩ = some (.int .i64 lo) ∧ w'.cell? ⟨w.heap.size + 1, 3, none⟩ = some (.int .i64 up))
          (first
            | with_reducible exact ⟨cell_below B15 g0, cell_below B15 g1, cell_below B15 g2, cell_below B15 g3, cell_below B15 k0, cell_below B15 k1, cell_below B15 k2, cell_below B15 k3, cell_below B15 z2, cell_below B15 z3⟩
            | with_reducible exact ⟨cell_below B14 g0, cell_below B14 g1, cell_below B14 g2, cell_below B14 g3, cell_below B14 k0, cell_below B14 k1, cell_below B14 k2, cell_below B14 k3, cell_below B14 z2, cell_below B14 z3⟩
            | with_reducible exact ⟨cell_below B13 g0, cell_below B13 g1, cell_below B13 g2, cell_below B13 g3, cell_below B13 k0, cell_below B13 k1, cell_below B13 k2, cell_below B13 k3, cell_below B13 z2, cell_below B13 z3⟩
            | with_reducible exact ⟨cell_below B12 g0, cell_below B12 g1, cell_below B12 g2, cell_below B12 g3, cell_below B12 k0, cell_below B12 k1, cell_below B12 k2, cell_below B12 k3, cell_below B12 z2, cell_below B12 z3⟩
            | with_reducible exact ⟨cell_below B11 g0, cell_below B11 g1, cell_below B11 g2, cell_below B11 g3, cell_below B11 k0, cell_below B11 k1, cell_below B11 k2, cell_below B11 k3, cell_below B11 z2, cell_below B11 z3⟩
            | with_reducible exact ⟨cell_below B10 g0, cell_below B10 g1, cell_below B10 g2, cell_below B10 g3, cell_below B10 k0, cell_below B10 k1, cell_below B10 k2, cell_below B10 k3, cell_below B10 z2, cell_below B10 z3⟩
            | exact ⟨g0, g1, g2, g3, k0, k1, k2, k3, z2, z3⟩)
            (first
            | (go_at_call 38; with_reducible refine (HRl.out _ ?hb9).mono ?_; (case hb9 => exact below_drew Bw.out); intro e w10 hret; unfold RetRat at hret; obtain ⟨m10, rfl, hq10, hb10⟩ := hret; have B10 := below_then (w := wc) (by repeat (first | exact Below.refl _ _ | apply below_alloc | apply below_drewN | apply below_drew)) hb10; clear hb10)
            | (go_at_call 75; refine (HS.out _ (below_then Bw.out B10) m10 m9 lo more hq10 (hq9.out.below B10) (by omega) (by omega) hlo.2 hmw.out.1).mono ?_; intro e w11 hret; unfold RetRat at hret; obtain ⟨m11, rfl, hq11, hb11⟩ := hret; have B11 := below_then B10 hb11; clear hb11)
            | (go_at_call 54; with_reducible refine (HC1.out _ (below_then Bw.out B11) m5 m11 ?h1 ?h2).mono ?_; (case h1 => exact hq5.out.below B11); (case h2 => rw [hsl.out]; exact hq11); intro e w12 hret; obtain ⟨rfl, hb12⟩ := hret; have B12 := below_then B11 hb12; clear hb12)
            | (go_at_call 38; with_reducible refine (HRu.out _ ?hb9).mono ?_; (case hb9 => exact below_then Bw.out B12); intro e w13 hret; unfold RetRat at hret; obtain ⟨m13, rfl, hq13, hb13⟩ := hret; have B13 := below_then B12 hb13; clear hb13)
            | (go_at_call 70; refine (HA.out _ (below_then Bw.out B13) m13 m9 up more hq13 (hq9.out.below B13) (by omega) (by omega) hup.2 hmw.out.1).mono ?_; intro e w14 hret; unfold RetRat at hret; obtain ⟨m14, rfl, hq14, hb14⟩ := hret; have B14 := below_then B13 hb14; clear hb14)
            | (go_at_call 54; with_reducible refine (HC2.out _ (below_then Bw.out B14) m5 m14 ?h1 ?h2).mono ?_; (case h1 => exact hq5.out.below B14); (case h2 => rw [hpl.out]; exact hq14); intro e w15 hret; obtain ⟨rfl, hb15⟩ := hret; have B15 := below_then B14 hb15; clear hb15)))
            | fail
          go_wp2_with fail
          go_ret
          exact ⟨by first | rfl | simp [hge, hle], below_then Bw.out B15⟩
        · go_wp2_with fail
          first
            | (go_region_held3 (fun w' => w'.cell? ⟨g, 0, none⟩ = some (.bool m5.a.p) ∧ w'.cell? ⟨g, 1, none⟩ = some (.slice m5.a.A m5.a.n m5.a.c) ∧ w'.cell? ⟨g, 2, none⟩ = some (.bool m5.b.p) ∧ w'.cell? ⟨g, 3, none⟩ = some (.slice m5.b.A m5.b.n m5.b.c) ∧ w'.cell? ⟨W6.heap.size, 0, none⟩ = some (.bool m9.a.p) ∧ w'.cell? ⟨W6.heap.size, 1, none⟩ = some (.slice m9.a.A m9.a.n m9.a.c) ∧ w'.cell? ⟨W6.heap.size, 2, none⟩ = some (.bool m9.b.p) ∧ w'.cell? ⟨W6.heap.size, 3, none⟩ = some (.slice m9.b.A m9.b.n m9.b.c) ∧ w'.cell? ⟨w.heap.size + 1, 2, none⟩ = some (.int .i64 lo) ∧ w'.cell? ⟨w.heap.size + 1, 3, none⟩ = some (.int .i64 up))
          (first
            | with_reducible exact ⟨cell_below B15 g0, cell_below B15 g1, cell_below B15 g2, cell_below B15 g3, cell_below B15 k0, cell_below B15 k1, cell_below B15 k2, cell_below B15 k3, cell_below B15 z2, cell_below B15 z3⟩
            | with_reducible exact ⟨cell_below B14 g0, cell_below B14 g1, cell_below B14 g2, cell_below B14 g3, cell_below B14 k0, cell_below B14 k1, cell_below B14 k2, cell_below B14 k3, cell_below B14 z2, cell_below B14 z3⟩
            | with_reducible exact ⟨cell_below B13 g0, cell_below B13 g1, cell_below B13 g2, cell_below B13 g3, cell_below B13 k0, cell_below B13 k1, cell_below B13 k2, cell_below B13 k3, cell_below B13 z2, cell_below B13 z3⟩
            | with_reducible exact ⟨cell_below B12 g0, cell_below B12 g1, cell_below B12 g2, cell_below B12 g3, cell_below B12 k0, cell_below B12 k1, cell_below B12 k2, cell_below B12 k3, cell_below B12 z2, cell_below B12 z3⟩
            | with_reducible exact ⟨cell_below B11 g0, cell_below B11 g1, cell_below B11 g2, cell_below B11 g3, cell_below B11 k0, cell_below B11 k1, cell_below B11 k2, cell_below B11 k3, cell_below B11 z2, cell_below B11 z3⟩
            | with_reducible exact ⟨cell_below B10 g0, cell_below B10 g1, cell_below B10 g2, cell_below B10 g3, cell_below B10 k0, cell_below B10 k1, cell_below B10 k2, cell_below B10 k3, cell_below B10 z2, cell_below B10 z3⟩
            | exact ⟨g0, g1, g2, g3, k0, k1, k2, k3, z2, z3⟩)
            (first
            | (go_at_call 38; with_reducible refine (HRl.out _ ?hb9).mono ?_; (case hb9 => exact below_drew Bw.out); intro e w10 hret; unfold RetRat at hret; obtain ⟨m10, rfl, hq10, hb10⟩ := hret; have B10 := below_then (w := wc) (by repeat (first | exact Below.refl _ _ | apply below_alloc | apply below_drewN | apply below_drew)) hb10; clear hb10)
            | (go_at_call 75; refine (HS.out _ (below_then Bw.out B10) m10 m9 lo more hq10 (hq9.out.below B10) (by omega) (by omega) hlo.2 hmw.out.1).mono ?_; intro e w11 hret; unfold RetRat at hret; obtain ⟨m11, rfl, hq11, hb11⟩ := hret; have B11 := below_then B10 hb11; clear hb11)
            | (go_at_call 54; with_reducible refine (HC1.out _ (below_then Bw.out B11) m5 m11 ?h1 ?h2).mono ?_; (case h1 => exact hq5.out.below B11); (case h2 => rw [hsl.out]; exact hq11); intro e w12 hret; obtain ⟨rfl, hb12⟩ := hret; have B12 := below_then B11 hb12; clear hb12)
            | (go_at_call 38; with_reducible refine (HRu.out _ ?hb9).mono ?_; (case hb9 => exact below_then Bw.out B12); intro e w13 hret; unfold RetRat at hret; obtain ⟨m13, rfl, hq13, hb13⟩ := hret; have B13 := below_then B12 hb13; clear hb13)
            | (go_at_call 70; refine (HA.out _ (below_then Bw.out B13) m13 m9 up more hq13 (hq9.out.below B13) (by omega) (by omega) hup.2 hmw.out.1).mono ?_; intro e w14 hret; unfold RetRat at hret; obtain ⟨m14, rfl, hq14, hb14⟩ := hret; have B14 := below_then B13 hb14; clear hb14)
            | (go_at_call 54; with_reducible refine (HC2.out _ (below_then Bw.out B14) m5 m14 ?h1 ?h2).mono ?_; (case h1 => exact hq5.out.below B14); (case h2 => rw [hpl.out]; exact hq14); intro e w15 hret; obtain ⟨rfl, hb15⟩ := hret; have B15 := below_then B14 hb15; clear hb15)))
            | fail
          go_wp2_with fail
          go_ret
          exact ⟨by first | rfl | simp [hge, hle], below_then Bw.out B15⟩
end Go.Proofs.YtpifbaiibhaklaaGreatDoor
namespace Go.Proofs.YtpifbaiibhaklaaGreatDoor
open Go.RowKit Big Go.ChangeMaps
set_option maxHeartbeats 40000000
set_option linter.unusedVariables false
set_option linter.unusedSimpArgs false

/-- The first index at which a test fails. -/
def firstBad (f : Nat → Bool) : Nat → Nat → Option Nat
  | _, 0 => none
  | i, k + 1 => if f i = false then some i else firstBad f (i + 1) k
theorem firstBad_step (f : Nat → Bool) (n i : Nat) (hi : i < n) : firstBad f i (n - i) = if f i = false then some i else firstBad f (i + 1) (n - (i + 1)) := by
  rw [show n - i = (n - (i + 1)) + 1 by omega]
  rfl
/-- Is a variable without a zone at its nominal value? -/
def varOk (s : Sch) (qs : List Rat) (i : Nat) : Bool := (zoneOf s.zs (((varsOf s).getD i vd).feature : Int) ((varsOf s).getD i vd).kind).isSome || decide ((qs.getD i 0).num = nominalOf s.fs ((varsOf s).getD i vd).feature ((varsOf s).getD i vd).kind)
def holdsFin (o1 o2 : Option Nat) : Bool × Int × Int :=
  match o1 with
  | some j => (false, (j : Int), 0)
  | none => match o2 with
    | some _ => (false, -1, 0)
    | none => (true, 0, 0)
/-- What Holds answers. -/
def holdsOf (s : Sch) (ts : List (List UInt8)) : Bool × Int × Int :=
  if checkE s ≠ 0 then (false, 0, checkE s)
  else if ts.length ≠ (varsOf s).length then (false, 0, 13)
  else if (readsR 65536 ts).2 ≠ 0 then (false, 0, (readsR 65536 ts).2)
  else holdsFin (firstBad (fun j => keepsB s (s.zs.getD j zd) (readsR 65536 ts).1) 0 s.zs.length) (firstBad (varOk s (readsR 65536 ts).1) 0 (varsOf s).length)
theorem readsR_len {most : Nat} {ls : List (List UInt8)} (h : (readsR most ls).2 = 0) : (readsR most ls).1.length = ls.length := by
  unfold readsR at h ⊢
  cases hf : ls.find? (fun l => (readR most l).2 != 0) with
  | none => simp
  | some l =>
    rw [hf] at h
    have := List.find?_some hf
    simp at this
    exact absurd h this
set_option maxRecDepth 100000 in
theorem Holds_w (base b2 : Nat) (A Bz V : Option Addr) (n c m d k cv : Nat) (s : Sch) (ss : List ByteArray) (w : World) (hg : Good w) (hB : base ≤ w.heap.size) (hf : IsFs base 28 w A n c s.fs) (hz : IsZs base 30 w Bz m d s.zs)
    (hv : IsStrs b2 48 w V k cv ss) (hk : k ≤ 1000000) (hs : ∀ i, i < k → (ss.getD i ⟨#[]⟩).size ≤ 4000000000 ∧ noSlash (ss.getD i ⟨#[]⟩).data.toList)
    (hq : ∀ i, i < k → ((readsR 65536 (ss.map (·.data.toList))).1.getD i 0).den = 1 ∧ limR ((readsR 65536 (ss.map (·.data.toList))).1.getD i 0) ≤ 1000000) :
    Calls Tryz.prog 27 #[.agg #[.slice A n c, .slice Bz m d], .slice V k cv] w
      fun e w' => e = .returned (.tuple #[.bool (holdsOf s (ss.map (·.data.toList))).1, .int .i64 (holdsOf s (ss.map (·.data.toList))).2.1, .int .i64 (holdsOf s (ss.map (·.data.toList))).2.2]) ∧ Below w.heap.size w w' := by
  have H := Lib.hid (fun W (hW : Below w.heap.size w W) => Check_any base A Bz n c m d s W (hf.below hW) (hz.below hW))
  have hlen : (ss.map (·.data.toList)).length = k := by rw [List.length_map, hv.len]
  by_cases hE : checkE s = 0
  · have hfine := fine_of_check hE
    have hn : n ≤ 16 := by have := hfine.nf; rw [hf.len] at this; exact this
    have hm : m ≤ 32 := by have := hfine.nz; rw [hz.len] at this; exact this
    have HV := Lib.hid (fun W (hW : Below w.heap.size w W) => variables_any base A Bz n c m d s W (hf.below hW) (hz.below hW) (by omega) (by omega))
    have HR := Lib.hid (fun W (hW : Below w.heap.size w W) => Reads_w base b2 V k cv ss W (Nat.le_trans hB hW.size) (hg.below hW) hk (hv.below hW) hs)
    have hlf := hf.len
    have hlz := hz.len
    unfold holdsOf
    rw [if_neg (fun h => h hE), hlen, hlz]
    rw [hE] at H
    obtain ⟨nv, hnv⟩ : ∃ nv, nv = (varsOf s).length := ⟨_, rfl⟩
    rw [← hnv]
    have hnl : nv ≤ 48 := by
      have h1 := varsTo_len s s.fs.length
      rw [hnv]
      unfold varsOf
      omega
    have hnv' := Lib.hid hnv
    clear hnv
    by_cases hkn : k = nv
    · subst hkn
      rw [if_neg (fun h => h rfl)]
      have hrl := @readsR_len 65536 (ss.map (·.data.toList))
      rw [hlen] at hrl
      generalize readsR 65536 (ss.map (·.data.toList)) = rr at hq HR hrl ⊢
      obtain ⟨qs, er⟩ := rr
      dsimp only at hq hrl ⊢
      by_cases her : er = 0
      · subst her
        rw [if_neg (fun h => h rfl)]
        obtain ⟨o1, ho1⟩ : ∃ o, o = firstBad (fun j => keepsB s (s.zs.getD j zd) qs) 0 m := ⟨_, rfl⟩
        obtain ⟨o2, ho2⟩ : ∃ o, o = firstBad (varOk s qs) 0 k := ⟨_, rfl⟩
        rw [← ho1, ← ho2]
        have ho1 := Lib.hid ho1
        have ho2 := Lib.hid ho2
        obtain ⟨r1, r2, r3, hres⟩ : ∃ (r1 : Bool) (r2 r3 : Int), holdsFin o1 o2 = (r1, r2, r3) := ⟨_, _, _, rfl⟩
        rw [hres]
        have hres := Lib.hid hres
        have S1 := Lib.hid (fun i (hi : i < m) => firstBad_step (fun j => keepsB s (s.zs.getD j zd) qs) m i hi)
        have S2 := Lib.hid (fun i (hi : i < k) => firstBad_step (varOk s qs) k i hi)
        have HK := Lib.hid (fun j (hj : j < m) W (hW : Below w.heap.size w W) (V' : Option Addr) (cv' : Nat) (hv' : IsRats base W V' k qs) (hc' : k ≤ cv') => keeps_w base A Bz V' n c m d k cv' s j qs W (hg.below hW) (Nat.le_trans hB hW.size) (hf.below hW) (hz.below hW) hfine hj hv' hc' hnv'.out.symm hq)
        have HY := Lib.hid (fun (i : Nat) (hi : i < m) => IsZs.cells hz i hi)
        have HZ := Lib.hid (fun (fe ki : Int) W (hW : Below w.heap.size w W) => zone_any base A Bz n c m d s.zs fe ki W (hz.below hW) (by omega))
        have HN := Lib.hid (fun (i : Nat) (ki : Int) (hi : i < n) W (hW : Below w.heap.size w W) => nominal_any base A Bz n c m d s.fs i ki W (hf.below hW) hi)
        have hrl := hrl rfl
        clear hf hz hv hg
        go_enter Tryz.func27, Tryz.ntmps27
        go_wp2_with fail
        refine (H.out _ (by repeat (first | exact Below.refl _ _ | with_reducible assumption | apply below_alloc | apply below_drewN | apply below_drew | refine below_set ?_ (by simp; try omega) _ | refine below_then ?_ (by with_reducible assumption)))).mono ?_
        rintro e w1 ⟨rfl, hb⟩
        have a0 := keptc hb w.heap.size 0 (.slice A n c) (by simp [go_sem])
        have a1 := keptc hb w.heap.size 1 (.slice Bz m d) (by simp [go_sem])
        have B1 := Lib.hid (below_then (w := w) (by repeat (first | exact Below.refl _ _ | with_reducible assumption | apply below_alloc | apply below_drewN | apply below_drew | refine below_set ?_ (by simp; try omega) _ | refine below_then ?_ (by with_reducible assumption))) hb)
        clear hb H
        go_wp2_with fail
        refine (HV.out _ B1.out).mono ?_
        rintro e w2 ⟨A', n', c', rfl, hrow, hb⟩
        obtain rfl : n' = k := by have hl2 := hrow.len; have := hnv'.out; omega
        have a0 := cell_below hb a0
        have a1 := cell_below hb a1
        have hrow := Lib.hid hrow
        have B2 := Lib.hid (below_then B1.out hb)
        clear hb HV
        go_wp2_with fail
        refine (HR.out _ B2.out).mono ?_
        rintro e w3 ⟨A3, n3, c3, rfl, hr3, hc3, hb⟩
        obtain rfl : n3 = n' := by obtain ⟨_, _, h2, _⟩ := hr3; dsimp only at h2; omega
        have a0 := cell_below hb a0
        have a1 := cell_below hb a1
        have hrow := Lib.hid (hrow.out.below hb)
        have B3 := Lib.hid (below_then B2.out hb)
        have hr3 := Lib.hid hr3
        have hw3 : w.heap.size < w3.heap.size := World.block_lt_of_cell? w3 _ a0
        clear hb HR
        go_wp2_with fail
        go_loopw [40] (fun q wr => ∃ (i : Nat), i ≤ m ∧ q = .int .i64 (i : Int) ∧ Hid (o1 = firstBad (fun j => keepsB s (s.zs.getD j zd) qs) i (m - i)) ∧ Below w3.heap.size w3 wr) (fun q _ => m - (intOf q).toNat)
        case atStart => exact ⟨0, Nat.zero_le _, rfl, Lib.hid (by simpa using ho1.out), (by repeat (first | exact Below.refl _ _ | with_reducible assumption | apply below_alloc | apply below_drewN | apply below_drew | refine below_set ?_ (by simp; try omega) _ | refine below_then ?_ (by with_reducible assumption)))⟩
        case round =>
          obtain ⟨i, hi, rfl, hb1, hb⟩ := hrel
          by_cases hlt : i < m
          · obtain ⟨az, ez, z0, z1, z2, z3, z4⟩ := HY.out i hlt
            subst ez
            have Bw := below_then B3.out hb
            have z0 := cell_below Bw z0
            have z1 := cell_below Bw z1
            have z2 := cell_below Bw z2
            have z3 := cell_below Bw z3
            have z4 := cell_below Bw z4
            have c0 := cell_below hb a0
            have c1 := cell_below hb a1
            have hws : w.heap.size < wr.heap.size := World.block_lt_of_cell? wr _ c0
            have hws' : ¬ w.heap.size = wr.heap.size := by omega
            have i0 : (0 : Int) ≤ (i : Int) := by omega
            have i1 : (i : Int) < (m : Int) := by omega
            have hlt1 := World.block_lt_of_cell? wr _ z0
            have hne1 : ¬ (az.add (i * 5)).block = wr.heap.size := Nat.ne_of_lt hlt1
            have HK1 := Lib.hid (fun W (hW : Below wr.heap.size wr W) => HK.out i hlt W (below_then Bw hW) A3 c3 (hr3.out.below (below_then hb hW)) hc3)
            have hst := Lib.hid (S1.out i hlt)
            generalize keepsB s (s.zs.getD i zd) qs = kb at HK1 hst
            generalize s.zs.getD i zd = z at z0 z1 z2 z3 z4 HK1
            obtain ⟨zk, zf, lo, up, bo⟩ := z
            dsimp only at z0 z1 z2 z3 z4 HK1
            have Bw := Lib.hid Bw
            clear HK HN HZ HY S1 S2
            go_wp2_with fail
            refine (HK1.out _ (by repeat (first | exact Below.refl _ _ | apply below_alloc | apply below_drewN | apply below_drew))).mono ?_
            rintro e w5 ⟨rfl, hb5⟩
            have B5 := below_then (w := wr) (by repeat (first | exact Below.refl _ _ | apply below_alloc | apply below_drewN | apply below_drew)) hb5
            clear hb5
            cases kb
            · go_wp2_with fail
              go_ret3
              have ho : o1 = some i := by rw [hb1.out, hst.out]; rfl
              have hr := hres.out
              rw [ho] at hr
              simp only [holdsFin, Prod.mk.injEq] at hr
              obtain ⟨rfl, rfl, rfl⟩ := hr
              exact ⟨rfl, below_then Bw.out B5⟩
            · go_wp2_with fail
              go_roundw
              case rel => exact ⟨i + 1, by omega, by go_num, Lib.hid (by rw [hb1.out, hst.out]; rfl), below_then hb B5⟩
              case measure => simp [intOf]; omega
          · obtain rfl : m = i := by omega
            have ho : o1 = none := by rw [hb1.out]; simp [firstBad]
            have hr := hres.out
            rw [ho] at hr
            have hres := Lib.hid hr
            clear hr S1 HK HY ho1
            go_wp2_with fail
            go_loopw [54] (fun q w9 => ∃ (j : Nat), j ≤ n3 ∧ q = .int .i64 (j : Int) ∧ Hid (o2 = firstBad (varOk s qs) j (n3 - j)) ∧ Below w3.heap.size w3 w9) (fun q _ => n3 - (intOf q).toNat)
            case atStart => exact ⟨0, Nat.zero_le _, rfl, Lib.hid (by simpa using ho2.out), hb⟩
            case round =>
              obtain ⟨j, hj, rfl, hb2, hb⟩ := hrel
              by_cases hlt2 : j < n3
              · obtain ⟨ad, ea, x0, x1⟩ := vcellsAt (hrow.out.below hb) j hlt2
                subst ea
                have hmem := varsTo_mem (s := s) (n := s.fs.length) (v := (varsOf s).getD j vd) (by
                  have : (varsOf s).getD j vd ∈ varsOf s := by
                    rw [List.getD_eq_getElem?_getD, List.getElem?_eq_getElem (by rw [← hnv'.out]; exact hlt2)]
                    exact List.getElem_mem _
                  exact this)
                rw [hlf] at hmem
                obtain ⟨ar, mr, ear, hmr, u0, u1, u2, u3⟩ := rcellsAt (hr3.out.below hb) j hlt2
                subst ear
                obtain ⟨hx1, hx2⟩ := hq j hlt2
                have hst := Lib.hid (S2.out j hlt2)
                have hvo : varOk s qs j = ((zoneOf s.zs (((varsOf s).getD j vd).feature : Int) ((varsOf s).getD j vd).kind).isSome || decide ((qs.getD j 0).num = nominalOf s.fs ((varsOf s).getD j vd).feature ((varsOf s).getD j vd).kind)) := rfl
                generalize varOk s qs j = vb at hst hvo
                generalize (varsOf s).getD j vd = vr at x0 x1 hmem hvo
                generalize qs.getD j 0 = x at hmr hx1 hx2 hvo
                obtain ⟨fe, ki⟩ := vr
                dsimp only at x0 x1 hmem hvo
                obtain ⟨hfe, _⟩ := hmem
                have Bw := below_then B3.out hb
                have HZ1 := Lib.hid (fun W (hW : Below wr.heap.size wr W) => HZ.out fe ki W (below_then Bw hW))
                have HN1 := Lib.hid (fun W (hW : Below wr.heap.size wr W) => HN.out fe ki hfe W (below_then Bw hW))
                unfold RetZone at HZ1
                have hnm : -268435456 ≤ nominalOf s.fs fe ki ∧ nominalOf s.fs fe ki ≤ 268435456 := by
                  have h := hfine.featOk fe (by rw [hlf]; exact hfe)
                  have h1 := h.at_
                  have h2 := h.wide
                  unfold nominalOf
                  split
                  · exact h1
                  · split
                    · exact h2
                    · exact ⟨by decide, by decide⟩
                generalize (zoneOf s.zs (fe : Int) ki).isSome = is at HZ1 hvo
                generalize (zoneOf s.zs (fe : Int) ki).getD zd = z at HZ1
                generalize nominalOf s.fs fe ki = nm at HN1 hnm hvo
                obtain ⟨zk, zf, lo, up, bo⟩ := z
                dsimp only at HZ1
                obtain ⟨cv1, hcv⟩ : ∃ z, z = cmpI x.num nm := ⟨_, rfl⟩
                have hcd : (cv1 != 0) = !decide (x.num = nm) := by
                  rw [hcv]
                  unfold cmpI
                  by_cases h1 : x.num < nm
                  · rw [if_pos h1, decide_eq_false (by omega)]; rfl
                  · rw [if_neg h1]
                    by_cases h2 : x.num = nm
                    · rw [if_pos h2, decide_eq_true h2]; rfl
                    · rw [if_neg h2, decide_eq_false h2]; rfl
                have hlm : limR (nm : Rat) ≤ 2 ∧ (nm : Rat).den = 1 := by
                  unfold limR
                  rw [Rat.num_intCast, Rat.den_intCast]
                  have h9 : lim ((1 : Nat) : Int) = 1 := lim_one
                  have := lim_small (z := nm) (by omega)
                  omega
                have HC1 := Lib.hid (fun W (hW : Below wr.heap.size wr W) (m k : MR) (h1 : IsRat base W m x) (h2 : IsRat base W k (nm : Rat)) => (show Calls Tryz.prog 54 #[.agg #[.bool m.a.p, .slice m.a.A m.a.n m.a.c, .bool m.b.p, .slice m.b.A m.b.n m.b.c], .agg #[.bool k.a.p, .slice k.a.A k.a.n k.a.c, .bool k.b.p, .slice k.b.A k.b.n k.b.c]] W (fun e w' => e = .returned (.int .i64 cv1) ∧ Below W.heap.size W w') from by have := rCompare_w base m k x (nm : Rat) W (Nat.le_trans hB (below_then Bw hW).size) h1 h2 (by omega) (by omega) hx1 hlm.2; rw [Rat.num_intCast] at this; rw [hcv]; exact this))
                have HRn := Lib.hid (fun W (hW : Below wr.heap.size wr W) => rFrom_any base nm W (Nat.le_trans hB (below_then Bw hW).size) (by omega) (by omega))
                have c0 := cell_below hb a0
                have c1 := cell_below hb a1
                have hws : w.heap.size < wr.heap.size := World.block_lt_of_cell? wr _ c0
                have hws' : ¬ w.heap.size = wr.heap.size := by omega
                have hlt1 := World.block_lt_of_cell? wr _ x0
                have hne1 : ¬ (ad.add (j * 2)).block = wr.heap.size := Nat.ne_of_lt hlt1
                have j0 : (0 : Int) ≤ (j : Int) := by omega
                have j1 : (j : Int) < (n3 : Int) := by omega
                have hvo := Lib.hid hvo
                clear hcv
                have Bwh := Lib.hid Bw
                clear HZ HN Bw
                go_wp2_with fail
                refine (HZ1.out _ (by repeat (first | exact Below.refl _ _ | apply below_alloc | apply below_drewN | apply below_drew))).mono ?_
                rintro e w7 ⟨rfl, hb7⟩
                have v0 := keptc hb7 wr.heap.size 0 (.int .i64 (fe : Int)) (by simp [go_sem])
                have v1 := keptc hb7 wr.heap.size 1 (.int .i64 ki) (by simp [go_sem])
                have B7 := below_then (w := wr) (by repeat (first | exact Below.refl _ _ | apply below_alloc | apply below_drewN | apply below_drew)) hb7
                have c0 := cell_below B7 c0
                have c1 := cell_below B7 c1
                have u0 := cell_below B7 u0
                have u1 := cell_below B7 u1
                have u2 := cell_below B7 u2
                have u3 := cell_below B7 u3
                have hmr := hmr.below B7
                clear hb7 HZ1
                obtain ⟨W8, e8⟩ : ∃ W8 : World, W8 = w7.alloc (.cells #[.int .i64 zk, .int .i64 zf, .int .i64 lo, .int .i64 up, .bool bo] 30) := ⟨_, rfl⟩
                have B8 : Below w7.heap.size w7 W8 := by rw [e8]; exact below_alloc (Below.refl _ _)
                cases is
                · go_wp2_with fail
                  rw [← e8]
                  clear e8
                  have Bw := Lib.hid (below_then B7 B8)
                  have c0 := cell_below B8 c0
                  have c1 := cell_below B8 c1
                  have u0 := cell_below B8 u0
                  have u1 := cell_below B8 u1
                  have u2 := cell_below B8 u2
                  have u3 := cell_below B8 u3
                  have v0 := cell_below B8 v0
                  have v1 := cell_below B8 v1
                  have hmr := hmr.below B8
                  cases hde : decide (x.num = nm)
                  · rw [hde] at hcd
                    have hcd : (cv1 != 0) = true := hcd
                    have hvb : vb = false := by rw [hvo.out, hde]; rfl
                    first
                      | (go_region_held3 (fun w' => w'.cell? ⟨w.heap.size, 0, none⟩ = some (.slice A n c) ∧ w'.cell? ⟨w.heap.size, 1, none⟩ = some (.slice Bz m d) ∧ w'.cell? ⟨wr.heap.size, 0, none⟩ = some (.int .i64 (fe : Int)) ∧ w'.cell? ⟨wr.heap.size, 1, none⟩ = some (.int .i64 ki) ∧ w'.cell? (ar.add (j * 4)) = some (.bool mr.a.p) ∧ w'.cell? ⟨(ar.add (j * 4)).block, (ar.add (j * 4)).off + 1, none⟩ = some (.slice mr.a.A mr.a.n mr.a.c) ∧ w'.cell? ⟨(ar.add (j * 4)).block, (ar.add (j * 4)).off + 2, none⟩ = some (.bool mr.b.p) ∧ w'.cell? ⟨(ar.add (j * 4)).block, (ar.add (j * 4)).off + 3, none⟩ = some (.slice mr.b.A mr.b.n mr.b.c))
                  (first
                    | with_reducible exact ⟨cell_below B13 c0, cell_below B13 c1, cell_below B13 v0, cell_below B13 v1, cell_below B13 u0, cell_below B13 u1, cell_below B13 u2, cell_below B13 u3⟩
                    | with_reducible exact ⟨cell_below B12 c0, cell_below B12 c1, cell_below B12 v0, cell_below B12 v1, cell_below B12 u0, cell_below B12 u1, cell_below B12 u2, cell_below B12 u3⟩
                    | with_reducible exact ⟨cell_below B11 c0, cell_below B11 c1, cell_below B11 v0, cell_below B11 v1, cell_below B11 u0, cell_below B11 u1, cell_below B11 u2, cell_below B11 u3⟩
                    | exact ⟨c0, c1, v0, v1, u0, u1, u2, u3⟩)
                  (first
                    | (go_at_call 31; with_reducible refine (HN1.out _ ?hb9).mono ?_; (case hb9 => exact below_drew Bw.out); intro e w11 hret; obtain ⟨rfl, hb11⟩ := hret; have B11 := below_then (w := W8) (by repeat (first | exact Below.refl _ _ | apply below_alloc | apply below_drewN | apply below_drew)) hb11; clear hb11)
                    | (go_at_call 38; with_reducible refine (HRn.out _ ?hb9).mono ?_; (case hb9 => exact below_then Bw.out B11); intro e w12 hret; unfold RetRat at hret; obtain ⟨m12, rfl, hq12, hb12⟩ := hret; have B12 := below_then B11 hb12; clear hb12)
                    | (go_at_call 54; with_reducible refine (HC1.out _ (below_then Bw.out B12) mr m12 ?h1 ?h2).mono ?_; (case h1 => exact hmr.below B12); (case h2 => exact hq12); intro e w13 hret; obtain ⟨rfl, hb13⟩ := hret; have B13 := below_then B12 hb13; clear hb13)))
                      | fail
                    all_goals
                      go_wp2_with fail
                      go_ret3
                      have ho2' : o2 = some j := by rw [hb2.out, hst.out, hvb]; rfl
                      have hr := hres.out
                      rw [ho2'] at hr
                      simp only [holdsFin, Prod.mk.injEq] at hr
                      obtain ⟨rfl, rfl, rfl⟩ := hr
                      exact ⟨rfl, below_then Bwh.out (below_then Bw.out B13)⟩
                  · rw [hde] at hcd
                    have hcd : cv1 = 0 := by simpa using hcd
                    subst hcd
                    have hvb : vb = true := by rw [hvo.out, hde]; rfl
                    first
                      | (go_region_held3 (fun w' => w'.cell? ⟨w.heap.size, 0, none⟩ = some (.slice A n c) ∧ w'.cell? ⟨w.heap.size, 1, none⟩ = some (.slice Bz m d) ∧ w'.cell? ⟨wr.heap.size, 0, none⟩ = some (.int .i64 (fe : Int)) ∧ w'.cell? ⟨wr.heap.size, 1, none⟩ = some (.int .i64 ki) ∧ w'.cell? (ar.add (j * 4)) = some (.bool mr.a.p) ∧ w'.cell? ⟨(ar.add (j * 4)).block, (ar.add (j * 4)).off + 1, none⟩ = some (.slice mr.a.A mr.a.n mr.a.c) ∧ w'.cell? ⟨(ar.add (j * 4)).block, (ar.add (j * 4)).off + 2, none⟩ = some (.bool mr.b.p) ∧ w'.cell? ⟨(ar.add (j * 4)).block, (ar.add (j * 4)).off + 3, none⟩ = some (.slice mr.b.A mr.b.n mr.b.c))
                  (first
                    | with_reducible exact ⟨cell_below B13 c0, cell_below B13 c1, cell_below B13 v0, cell_below B13 v1, cell_below B13 u0, cell_below B13 u1, cell_below B13 u2, cell_below B13 u3⟩
                    | with_reducible exact ⟨cell_below B12 c0, cell_below B12 c1, cell_below B12 v0, cell_below B12 v1, cell_below B12 u0, cell_below B12 u1, cell_below B12 u2, cell_below B12 u3⟩
                    | with_reducible exact ⟨cell_below B11 c0, cell_below B11 c1, cell_below B11 v0, cell_below B11 v1, cell_below B11 u0, cell_below B11 u1, cell_below B11 u2, cell_below B11 u3⟩
                    | exact ⟨c0, c1, v0, v1, u0, u1, u2, u3⟩)
                  (first
                    | (go_at_call 31; with_reducible refine (HN1.out _ ?hb9).mono ?_; (case hb9 => exact below_drew Bw.out); intro e w11 hret; obtain ⟨rfl, hb11⟩ := hret; have B11 := below_then (w := W8) (by repeat (first | exact Below.refl _ _ | apply below_alloc | apply below_drewN | apply below_drew)) hb11; clear hb11)
                    | (go_at_call 38; with_reducible refine (HRn.out _ ?hb9).mono ?_; (case hb9 => exact below_then Bw.out B11); intro e w12 hret; unfold RetRat at hret; obtain ⟨m12, rfl, hq12, hb12⟩ := hret; have B12 := below_then B11 hb12; clear hb12)
                    | (go_at_call 54; with_reducible refine (HC1.out _ (below_then Bw.out B12) mr m12 ?h1 ?h2).mono ?_; (case h1 => exact hmr.below B12); (case h2 => exact hq12); intro e w13 hret; obtain ⟨rfl, hb13⟩ := hret; have B13 := below_then B12 hb13; clear hb13)))
                      | fail
                    all_goals
                      go_wp2_with fail
                      go_roundw
                      case rel => exact ⟨j + 1, by omega, by go_num, Lib.hid (by rw [hb2.out, hst.out, hvb]; rfl), below_then hb (below_then Bw.out B13)⟩
                      case measure => simp [intOf]; omega
                · go_wp2_with fail
                  rw [← e8]
                  clear e8
                  have hvb : vb = true := by rw [hvo.out]; rfl
                  go_quiet (fail)
                  all_goals
                    go_wp2_with fail
                    go_roundw
                    case rel => exact ⟨j + 1, by omega, by go_num, Lib.hid (by rw [hb2.out, hst.out, hvb]; rfl), by have h := below_then hb (below_then B7 B8); first | exact h | exact below_drew h | exact below_drewN h _⟩
                    case measure => simp [intOf]; omega
              · obtain rfl : n3 = j := by omega
                have ho2' : o2 = none := by rw [hb2.out]; simp [firstBad]
                have hr := hres.out
                rw [ho2'] at hr
                simp only [holdsFin, Prod.mk.injEq] at hr
                obtain ⟨rfl, rfl, rfl⟩ := hr
                go_wp2_with fail
                go_ret3
                exact ⟨rfl, below_then B3.out hb⟩
      · rw [if_pos her]
        have herd : (er != 0) = true := by simpa using her
        clear hf hz hv
        go_enter Tryz.func27, Tryz.ntmps27
        go_wp2_with fail
        refine (H.out _ (by repeat (first | exact Below.refl _ _ | with_reducible assumption | apply below_alloc | apply below_drewN | apply below_drew | refine below_set ?_ (by simp; try omega) _ | refine below_then ?_ (by with_reducible assumption)))).mono ?_
        rintro e w1 ⟨rfl, hb⟩
        have a0 := keptc hb w.heap.size 0 (.slice A n c) (by simp [go_sem])
        have a1 := keptc hb w.heap.size 1 (.slice Bz m d) (by simp [go_sem])
        have B1 := Lib.hid (below_then (w := w) (by repeat (first | exact Below.refl _ _ | with_reducible assumption | apply below_alloc | apply below_drewN | apply below_drew | refine below_set ?_ (by simp; try omega) _ | refine below_then ?_ (by with_reducible assumption))) hb)
        clear hb H
        go_wp2_with fail
        refine (HV.out _ B1.out).mono ?_
        rintro e w2 ⟨A', n', c', rfl, hrow, hb⟩
        obtain rfl : n' = k := by have hl2 := hrow.len; have := hnv'.out; omega
        have B2 := Lib.hid (below_then B1.out hb)
        clear hb hrow HV
        go_wp2_with fail
        refine (HR.out _ B2.out).mono ?_
        rintro e w3 ⟨A3, n3, c3, rfl, hr3, hc3, hb⟩
        have B3 := Lib.hid (below_then B2.out hb)
        clear hb hr3 HR
        go_wp2_with fail
        go_ret3
        exact ⟨rfl, B3.out⟩
    · rw [if_pos hkn]
      have hkd : ((k : Int) != (nv : Int)) = true := by rw [bne_iff_ne]; omega
      clear hf hz hv HR hq
      go_enter Tryz.func27, Tryz.ntmps27
      go_wp2_with fail
      refine (H.out _ (by repeat (first | exact Below.refl _ _ | with_reducible assumption | apply below_alloc | apply below_drewN | apply below_drew | refine below_set ?_ (by simp; try omega) _ | refine below_then ?_ (by with_reducible assumption)))).mono ?_
      rintro e w1 ⟨rfl, hb⟩
      have a0 := keptc hb w.heap.size 0 (.slice A n c) (by simp [go_sem])
      have a1 := keptc hb w.heap.size 1 (.slice Bz m d) (by simp [go_sem])
      have B1 := Lib.hid (below_then (w := w) (by repeat (first | exact Below.refl _ _ | with_reducible assumption | apply below_alloc | apply below_drewN | apply below_drew | refine below_set ?_ (by simp; try omega) _ | refine below_then ?_ (by with_reducible assumption))) hb)
      clear hb H
      go_wp2_with fail
      refine (HV.out _ B1.out).mono ?_
      rintro e w2 ⟨A', n', c', rfl, hrow, hb⟩
      obtain rfl : n' = nv := by have hl2 := hrow.len; have := hnv'.out; omega
      have B2 := Lib.hid (below_then B1.out hb)
      clear hb hrow HV
      go_wp2_with fail
      go_ret3
      exact ⟨rfl, B2.out⟩
  · unfold holdsOf
    rw [if_pos hE]
    generalize checkE s = E at *
    clear hf hz hg hv hs hq hlen
    have hEd : (E != 0) = true := by simpa using hE
    go_enter Tryz.func27, Tryz.ntmps27
    go_wp2_with fail
    refine (H.out _ (by repeat (first | exact Below.refl _ _ | with_reducible assumption | apply below_alloc | apply below_drewN | apply below_drew | refine below_set ?_ (by simp; try omega) _ | refine below_then ?_ (by with_reducible assumption)))).mono ?_
    rintro e w1 ⟨rfl, hb⟩
    have B1 := Lib.hid (below_then (w := w) (by repeat (first | exact Below.refl _ _ | with_reducible assumption | apply below_alloc | apply below_drewN | apply below_drew | refine below_set ?_ (by simp; try omega) _ | refine below_then ?_ (by with_reducible assumption))) hb)
    clear hb H
    go_wp2_with fail
    go_ret3
    exact ⟨rfl, B1.out⟩
end Go.Proofs.YtpifbaiibhaklaaGreatDoor
