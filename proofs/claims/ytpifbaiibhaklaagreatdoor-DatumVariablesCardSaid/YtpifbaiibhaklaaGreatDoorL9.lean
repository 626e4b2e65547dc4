/- The chapter's example.
  The chapter's example: what the plain functions answer.
  The chapter's examples hold.
  The model's far and zone.
  The model's feature. (Printed by gend5.py.) -/
import Derived.Test.YtpifbaiibhaklaaGreatDoorL6
import Derived.Deep.DeepCutAuto
import Derived.Test.YtpifbaiibhaklaaGreatDoorL8
import Derived.Test.YtpifbaiibhaklaaGreatDoorL7
import Derived.Test.YtpifbaiibhaklaaGreatDoorL3
import Derived.Laws.StructEq
import Derived.Maps.Own
import Derived.Deep.RegionLaw
import Derived.Orders
import Derived.RegionTactic
namespace Go.Proofs.YtpifbaiibhaklaaGreatDoor
open Go.RowKit Big Go.ChangeMaps
set_option maxHeartbeats 4000000
set_option linter.unusedVariables false
set_option linter.unusedSimpArgs false

def exF : List Feat := [⟨⟨#[97]⟩, 1, 0, -1, 0, 0⟩, ⟨⟨#[104]⟩, 2, 0, 0, 10000, 2000⟩]
def exZ : List Zon := [⟨2, 1, 0, 20, false⟩, ⟨1, 1, -50, 50, true⟩]
def exS : Sch := ⟨exF, exZ⟩
theorem reads_block {w : World} {b : Nat} {cs : List Value} {t : TypeId} {fr : Nat × Nat} (h : w.heap[b]? = some (.cells cs.toArray t fr)) (base : Nat) : Reads base t w (some ⟨b, 0, none⟩) cs := by
  refine .inr ⟨_, rfl, .inr (by simp [typ, h, otyp]), fun j u hu => ?_⟩
  exact World.news_of_block h j u (by simpa using hu)
theorem heap_at1 (w : World) (a f z : Obj) : (((w.alloc a).alloc f).alloc z).heap[w.heap.size + 1]? = some f := by
  rw [Below.heap_alloc _ _ _ (by simp)]
  have := heap_alloc_new (w.alloc a) f
  rwa [alloc_size] at this
theorem heap_at2 (w : World) (a f z : Obj) : (((w.alloc a).alloc f).alloc z).heap[w.heap.size + 1 + 1]? = some z := by
  have := heap_alloc_new ((w.alloc a).alloc f) z
  rwa [alloc_size, alloc_size] at this
set_option maxRecDepth 100000 in
theorem Example_any (w : World) : Calls Tryz.prog 28 #[] w fun e w' => ∃ A B, e = .returned (.agg #[.slice A 2 2, .slice B 2 2]) ∧ (∀ base, IsFs base 28 w' A 2 2 exF) ∧ (∀ base, IsZs base 30 w' B 2 2 exZ) ∧ Below w.heap.size w w' := by
  go_enter Tryz.func28, Tryz.ntmps28
  go_wp2_with fail
  refine bodyPost_ret (v := .agg #[.slice (some ⟨w.heap.size + 1, 0, none⟩) 2 2, .slice (some ⟨w.heap.size + 1 + 1, 0, none⟩) 2 2]) (by simp [results, Tryz.results28, go_sem]) rfl ⟨_, _, rfl, fun base => ⟨rfl, by decide, reads_block (cs := flat encF exF) (heap_at1 w _ _ _) base⟩, fun base => ⟨rfl, by decide, reads_block (cs := flat encZ exZ) (heap_at2 w _ _ _) base⟩, (by repeat (first | exact Below.refl _ _ | apply below_alloc | apply below_drewN | apply below_drew))⟩
end Go.Proofs.YtpifbaiibhaklaaGreatDoor
namespace Go.Proofs.YtpifbaiibhaklaaGreatDoor
open Go.RowKit Big Go.ChangeMaps
set_option maxHeartbeats 4000000
set_option linter.unusedVariables false
set_option linter.unusedSimpArgs false
set_option maxRecDepth 100000

theorem ex_check : checkE exS = 0 := by kernel_rfl
theorem ex_dims : dimsOf exS = [⟨⟨#[97]⟩, 0, 0, 0⟩, ⟨⟨#[104]⟩, 10000, -70, 70⟩, ⟨⟨#[104, 46, 115, 105, 122, 101]⟩, 2000, 0, 20⟩] := by kernel_rfl
theorem ex_cons : (consOf exS).map (fun c => c.form.cst) = [-8050, 11950] := by kernel_rfl
def t1 : List (List UInt8) := [[48], [49, 48, 48, 54, 48], [50, 48, 49, 48]]
def t2 : List (List UInt8) := [[48], [49, 48, 48, 54, 49], [50, 48, 49, 48]]
theorem ex_r1 : readsR 65536 t1 = ([0, 10060, 2010], 0) := by kernel_rfl
theorem ex_r2 : readsR 65536 t2 = ([0, 10061, 2010], 0) := by kernel_rfl
theorem ex_h1 : holdsOf exS t1 = (true, 0, 0) := by kernel_rfl
theorem ex_h2 : holdsOf exS t2 = (false, 1, 0) := by kernel_rfl
theorem ex_i1 : Lib.itoa (-8050) = [45, 56, 48, 53, 48] := by kernel_rfl
theorem ex_i2 : Lib.itoa 11950 = [49, 49, 57, 53, 48] := by kernel_rfl
end Go.Proofs.YtpifbaiibhaklaaGreatDoor
namespace Go.Proofs.YtpifbaiibhaklaaGreatDoor
open Go.RowKit Big Go.ChangeMaps
set_option maxHeartbeats 40000000
set_option linter.unusedVariables false
set_option linter.unusedSimpArgs false

def ts (l : List (List UInt8)) : List ByteArray := l.map bs
theorem noSlash_dec {l : List UInt8} (h : decide (Lib.index l [47] < 0) = true) : noSlash l := of_decide_eq_true (p := Lib.index l [47] < 0) h
theorem RowsOk.csts {w : World} : ∀ {rs : List CRow} {cs : List Con}, RowsOk w rs cs → rs.map (·.cst) = cs.map (fun c => c.form.cst)
  | [], [], _ => rfl
  | _ :: _, _ :: _, h => by simp [h.2.1, RowsOk.csts h.2.2.2]
  | [], _ :: _, h => h.elim
  | _ :: _, [], h => h.elim
set_option maxRecDepth 100000 in
theorem known_any (w : World) (hg : Good w) : Calls Tryz.prog 7 #[] w fun e w' => e = .returned (.bool true) ∧ Below w.heap.size w w' := by
  have HG := Lib.hid (fun W (hW : Below w.heap.size w W) => hg.below hW)
  have he := fun a b c d e f g h w => eq_dim a b c d e f g h w
  have hm := gd_dim
  go_enter Tryz.func7, Tryz.ntmps7
  go_wp2_with fail
  refine (Example_any _).mono ?_
  rintro e w1 ⟨A1, Z1, rfl, hf, hz, hb⟩
  have B1 := below_then (w := w) (by repeat (first | exact Below.refl _ _ | apply below_alloc | apply below_drewN | apply below_drew)) hb
  have HV := Variables_any _ _ _ _ _ _ _ exS w1 (hf w1.heap.size) (hz w1.heap.size)
  rw [ex_check, if_pos rfl, ex_dims] at HV
  clear hb hf hz
  go_wp2_with fail
  refine HV.mono ?_
  rintro e w2 ⟨Ad, nd, cd, rfl, hd, hb⟩
  obtain rfl : 3 = nd := hd.len
  have B2 := below_then B1 hb
  clear hb HV B1
  go_wp2_with fail
  refine (Example_any _).mono ?_
  rintro e w3 ⟨A3, Z3, rfl, hf, hz, hb⟩
  have hd := hd.below hb
  have B3 := below_then B2 hb
  have HC := Constraints_any _ _ _ _ _ _ _ exS w3 (HG.out _ B3) (hf w3.heap.size) (hz w3.heap.size)
  rw [ex_check, if_pos rfl] at HC
  clear hb hf hz B2
  go_wp2_with fail
  refine HC.mono ?_
  rintro e w4 ⟨Ac, nc, cc, rs, rfl, hc, hrs, hb⟩
  have hcl := hrs.len
  have hc2 : (consOf exS).length = 2 := by kernel_rfl
  have hrl := hc.len
  obtain rfl : 2 = nc := by omega
  have hd := hd.below hb
  have B4 := below_then B3 hb
  clear hb HC B3
  go_wp2_with fail
  refine (Example_any _).mono ?_
  rintro e w5 ⟨A5, Z5, rfl, hf, hz, hb⟩
  have hd := hd.below hb
  have hc := hc.below hb
  have B5 := below_then B4 hb
  have hst : IsStrs (w5.alloc (.cells #[.string ⟨#[48]⟩, .string ⟨#[49, 48, 48, 54, 48]⟩, .string ⟨#[50, 48, 49, 48]⟩] 48)).heap.size 48 (w5.alloc (.cells #[.string ⟨#[48]⟩, .string ⟨#[49, 48, 48, 54, 48]⟩, .string ⟨#[50, 48, 49, 48]⟩] 48)) (some ⟨w5.heap.size, 0, none⟩) 3 3 (ts t1) := ⟨rfl, by decide, reads_block (cs := strs (ts t1)) (heap_alloc_new _ _) _⟩
  have HH := Holds_w _ _ _ _ _ _ _ _ _ _ _ exS (ts t1) _ (HG.out _ (below_alloc B5)) (Nat.le_refl _) (IsRow.below (hf _) (below_alloc (Below.refl _ _))) (IsRow.below (hz _) (below_alloc (Below.refl _ _))) hst (by decide) (by
    intro i hi
    have : i = 0 ∨ i = 1 ∨ i = 2 := by omega
    rcases this with rfl | rfl | rfl <;> exact ⟨by decide, noSlash_dec (by kernel_rfl)⟩) (by
    intro i hi
    have : i = 0 ∨ i = 1 ∨ i = 2 := by omega
    rw [show (ts t1).map (·.data.toList) = t1 from rfl, ex_r1]
    rcases this with rfl | rfl | rfl
    · exact ⟨rfl, Nat.le_trans (Nat.max_le.2 ⟨lim_le (k := 1) (by decide), lim_le (k := 1) (by decide)⟩) (by decide)⟩
    · exact ⟨rfl, Nat.le_trans (Nat.max_le.2 ⟨lim_le (k := 1) (by decide), lim_le (k := 1) (by decide)⟩) (by decide)⟩
    · exact ⟨rfl, Nat.le_trans (Nat.max_le.2 ⟨lim_le (k := 1) (by decide), lim_le (k := 1) (by decide)⟩) (by decide)⟩)
  rw [show (ts t1).map (·.data.toList) = t1 from rfl, ex_h1] at HH
  dsimp only at HH
  clear hf hz hst
  go_wp2_with fail
  refine HH.mono ?_
  rintro e w6 ⟨rfl, hb⟩
  have hd := hd.below (below_alloc (o := .cells #[.string ⟨#[48]⟩, .string ⟨#[49, 48, 48, 54, 48]⟩, .string ⟨#[50, 48, 49, 48]⟩] 48) (Below.refl _ _))
  have hd := hd.below hb
  have hc := hc.below (below_alloc (o := .cells #[.string ⟨#[48]⟩, .string ⟨#[49, 48, 48, 54, 48]⟩, .string ⟨#[50, 48, 49, 48]⟩] 48) (Below.refl _ _))
  have hc := hc.below hb
  have B6 := below_then (below_alloc (o := .cells #[.string ⟨#[48]⟩, .string ⟨#[49, 48, 48, 54, 48]⟩, .string ⟨#[50, 48, 49, 48]⟩] 48) B5) hb
  clear hb B5
  go_wp2_with fail
  refine (Example_any _).mono ?_
  rintro e w7 ⟨A7, Z7, rfl, hf, hz, hb⟩
  have hd := hd.below hb
  have hc := hc.below hb
  have B7 := below_then B6 hb
  have hst : IsStrs (w7.alloc (.cells #[.string ⟨#[48]⟩, .string ⟨#[49, 48, 48, 54, 49]⟩, .string ⟨#[50, 48, 49, 48]⟩] 48)).heap.size 48 (w7.alloc (.cells #[.string ⟨#[48]⟩, .string ⟨#[49, 48, 48, 54, 49]⟩, .string ⟨#[50, 48, 49, 48]⟩] 48)) (some ⟨w7.heap.size, 0, none⟩) 3 3 (ts t2) := ⟨rfl, by decide, reads_block (cs := strs (ts t2)) (heap_alloc_new _ _) _⟩
  have HH := Holds_w _ _ _ _ _ _ _ _ _ _ _ exS (ts t2) _ (HG.out _ (below_alloc B7)) (Nat.le_refl _) (IsRow.below (hf _) (below_alloc (Below.refl _ _))) (IsRow.below (hz _) (below_alloc (Below.refl _ _))) hst (by decide) (by
    intro i hi
    have : i = 0 ∨ i = 1 ∨ i = 2 := by omega
    rcases this with rfl | rfl | rfl <;> exact ⟨by decide, noSlash_dec (by kernel_rfl)⟩) (by
    intro i hi
    have : i = 0 ∨ i = 1 ∨ i = 2 := by omega
    rw [show (ts t2).map (·.data.toList) = t2 from rfl, ex_r2]
    rcases this with rfl | rfl | rfl
    · exact ⟨rfl, Nat.le_trans (Nat.max_le.2 ⟨lim_le (k := 1) (by decide), lim_le (k := 1) (by decide)⟩) (by decide)⟩
    · exact ⟨rfl, Nat.le_trans (Nat.max_le.2 ⟨lim_le (k := 1) (by decide), lim_le (k := 1) (by decide)⟩) (by decide)⟩
    · exact ⟨rfl, Nat.le_trans (Nat.max_le.2 ⟨lim_le (k := 1) (by decide), lim_le (k := 1) (by decide)⟩) (by decide)⟩)
  rw [show (ts t2).map (·.data.toList) = t2 from rfl, ex_h2] at HH
  dsimp only at HH
  clear hf hz hst
  go_wp2_with fail
  refine HH.mono ?_
  rintro e w8 ⟨rfl, hb⟩
  have hd := hd.below (below_alloc (o := .cells #[.string ⟨#[48]⟩, .string ⟨#[49, 48, 48, 54, 49]⟩, .string ⟨#[50, 48, 49, 48]⟩] 48) (Below.refl _ _))
  have hd := hd.below hb
  have hc := hc.below (below_alloc (o := .cells #[.string ⟨#[48]⟩, .string ⟨#[49, 48, 48, 54, 49]⟩, .string ⟨#[50, 48, 49, 48]⟩] 48) (Below.refl _ _))
  have hc := hc.below hb
  have B8 := Lib.hid (below_then (below_alloc (o := .cells #[.string ⟨#[48]⟩, .string ⟨#[49, 48, 48, 54, 49]⟩, .string ⟨#[50, 48, 49, 48]⟩] 48) B7) hb)
  have hcm := hrs.csts
  rw [ex_cons] at hcm
  obtain ⟨r0, r1, rfl⟩ : ∃ r0 r1, rs = [r0, r1] := by
    match rs, hrl with
    | [a, b], _ => exact ⟨a, b, rfl⟩
  simp only [List.map_cons, List.map_nil, List.cons.injEq, and_true] at hcm
  obtain ⟨q0, q1⟩ := hcm
  obtain ⟨ad, ead, d1⟩ := hd.at_ encD_len (by decide) ⟨⟨#[]⟩, 0, 0, 0⟩ 1 (by decide)
  obtain ⟨ad', ead', d2⟩ := hd.at_ encD_len (by decide) ⟨⟨#[]⟩, 0, 0, 0⟩ 2 (by decide)
  obtain ⟨ac, eac, k1⟩ := hc.at_ encC_len (by decide) ⟨⟨#[]⟩, 0, none, 0, 0⟩ 0 (by decide)
  obtain ⟨ac', eac', k2⟩ := hc.at_ encC_len (by decide) ⟨⟨#[]⟩, 0, none, 0, 0⟩ 1 (by decide)
  subst ead
  injection ead' with ead'
  subst ead'
  subst eac
  injection eac' with eac'
  subst eac'
  have g0 : w8.cell? (ad.add 4) = some (.string ⟨#[104]⟩) := d1 0 _ rfl
  have g1 : w8.cell? ⟨(ad.add 4).block, (ad.add 4).off + 1, none⟩ = some (.int .i64 10000) := add_mid ad 4 1 (by decide) ▸ d1 1 _ rfl
  have g2 : w8.cell? ⟨(ad.add 4).block, (ad.add 4).off + 2, none⟩ = some (.int .i64 (-70)) := add_mid ad 4 2 (by decide) ▸ d1 2 _ rfl
  have g3 : w8.cell? ⟨(ad.add 4).block, (ad.add 4).off + 3, none⟩ = some (.int .i64 70) := add_mid ad 4 3 (by decide) ▸ d1 3 _ rfl
  have g4 : w8.cell? (ad.add 8) = some (.string ⟨#[104, 46, 115, 105, 122, 101]⟩) := d2 0 _ rfl
  have g5 : w8.cell? ⟨(ac.add 0).block, (ac.add 0).off + 1, none⟩ = some (.string ⟨#[45, 56, 48, 53, 48]⟩) := by
    have h := k1 1 _ rfl
    rw [show ([r0, r1] : List CRow).getD 0 ⟨⟨#[]⟩, 0, none, 0, 0⟩ = r0 from rfl, q0, ex_i1, Nat.zero_mul, add_mid ac 0 1 (by decide)] at h
    exact h
  have g5' : w8.cell? ⟨ac.block, ac.off + 1, none⟩ = some (.string ⟨#[45, 56, 48, 53, 48]⟩) := g5
  have g6 : w8.cell? ⟨(ac.add 3).block, (ac.add 3).off + 1, none⟩ = some (.string ⟨#[49, 49, 57, 53, 48]⟩) := by
    have h := k2 1 _ rfl
    rw [show ([r0, r1] : List CRow).getD 1 ⟨⟨#[]⟩, 0, none, 0, 0⟩ = r1 from rfl, q1, ex_i2, Nat.one_mul, add_mid ac 3 1 (by decide)] at h
    exact h
  have g0' : w8.cell? ⟨ad.block, ad.off + 4, none⟩ = some (.string ⟨#[104]⟩) := g0
  have g1' : w8.cell? ⟨ad.block, ad.off + 4 + 1, none⟩ = some (.int .i64 10000) := g1
  have g2' : w8.cell? ⟨ad.block, ad.off + 4 + 2, none⟩ = some (.int .i64 (-70)) := g2
  have g3' : w8.cell? ⟨ad.block, ad.off + 4 + 3, none⟩ = some (.int .i64 70) := g3
  have g4' : w8.cell? ⟨ad.block, ad.off + 8, none⟩ = some (.string ⟨#[104, 46, 115, 105, 122, 101]⟩) := g4
  have g6' : w8.cell? ⟨ac.block, ac.off + 3 + 1, none⟩ = some (.string ⟨#[49, 49, 57, 53, 48]⟩) := g6
  clear hb B7 B6 hd hc hrs d1 d2 k1 k2
  go_wp2_with fail
  trace_state
  go_ret
  exact ⟨rfl, B8.out⟩
end Go.Proofs.YtpifbaiibhaklaaGreatDoor
namespace Go.Proofs.YtpifbaiibhaklaaGreatDoor
open Go.RowKit Big Go.ChangeMaps
set_option maxHeartbeats 4000000
set_option linter.unusedVariables false
set_option linter.unusedSimpArgs false

theorem mfar_any (x : Int) (w : World) : Calls Tryz.prog 33 #[.int .i64 x] w fun e w' => e = .returned (.bool (farB x)) ∧ w' = w := by
  unfold farB
  by_cases h1 : 268435456 < x
  · have e1 : decide (268435456 < x) = true := decide_eq_true h1
    have e2 : decide (x < -268435456) = false := decide_eq_false (by omega)
    go_enter Tryz.func33, Tryz.ntmps33
    go_wp2_with fail
    go_ret
    exact ⟨by first | rfl | (rw [e1, e2]; rfl), rfl⟩
  · have e1 : decide (268435456 < x) = false := decide_eq_false h1
    by_cases h2 : x < -268435456
    · have e2 : decide (x < -268435456) = true := decide_eq_true h2
      go_enter Tryz.func33, Tryz.ntmps33
      go_wp2_with fail
      go_ret
      exact ⟨by first | rfl | (rw [e1, e2]; rfl), rfl⟩
    · have e2 : decide (x < -268435456) = false := decide_eq_false h2
      go_enter Tryz.func33, Tryz.ntmps33
      go_wp2_with fail
      go_ret
      exact ⟨by first | rfl | (rw [e1, e2]; rfl), rfl⟩
set_option maxRecDepth 100000 in
theorem mzone_any (base : Nat) (A Bz : Option Addr) (n c m d : Nat) (zs : List Zon) (fe ki : Int) (w : World) (hz : IsZs base 30 w Bz m d zs) (hm : m ≤ 1000000) :
    Calls Tryz.prog 34 #[.agg #[.slice A n c, .slice Bz m d], .int .i64 fe, .int .i64 ki] w fun e w' => e = .returned (.int .i64 (idxI (zoneP fe ki) zs)) ∧ Below w.heap.size w w' := by
  have hlen := Lib.hid hz.len
  go_enter Tryz.func34, Tryz.ntmps34
  go_wp2_with fail
  go_loopw [12] (fun q wr => ∃ (i : Nat), i ≤ m ∧ q = .int .i64 (i : Int) ∧ Hid ((zs.take i).any (zoneP fe ki) = false) ∧ Below w.heap.size w wr) (fun q _ => m - (intOf q).toNat)
  case atStart => exact ⟨0, Nat.zero_le _, rfl, Lib.hid rfl, (by repeat (first | exact Below.refl _ _ | with_reducible assumption | apply below_alloc | apply below_drewN | apply below_drew | refine below_set ?_ (by simp; try omega) _ | refine below_then ?_ (by with_reducible assumption)))⟩
  case round =>
    obtain ⟨i, hi, rfl, ha, hb⟩ := hrel
    by_cases hlt : i < m
    · obtain ⟨az, ez, z0, z1, z2, z3, z4⟩ := IsZs.cells (hz.below hb) i hlt
      subst ez
      have i0 : (0 : Int) ≤ (i : Int) := by omega
      have i1 : (i : Int) < (m : Int) := by omega
      have Hs := Lib.hid (any_take_succ (zoneP fe ki) zs zd i (by rw [hlen.out]; exact hlt))
      have Hf := Lib.hid (idxI_found (zoneP fe ki) zs zd i (by rw [hlen.out]; exact hlt) ha.out)
      have hp : zoneP fe ki (zs.getD i zd) = (((zs.getD i zd).feature == fe) && ((zs.getD i zd).kind == ki)) := rfl
      generalize zs.getD i zd = z at z0 z1 z2 z3 z4 Hs Hf hp
      obtain ⟨zk, zf, lo, up, bo⟩ := z
      dsimp only at z0 z1 z2 z3 z4 hp
      have hlt1 := World.block_lt_of_cell? wr _ z0
      have hne1 : ¬ (az.add (i * 5)).block = wr.heap.size := Nat.ne_of_lt hlt1
      rw [hp] at Hs Hf
      clear hp
      cases h1 : (zf == fe)
      · rw [h1] at Hs Hf
        go_wp2_with fail
        go_roundw
        case rel => exact ⟨i + 1, by omega, by go_num, Lib.hid (by rw [Hs.out, ha.out]; rfl), below_alloc hb⟩
        case measure => simp [intOf]; omega
      · cases h2 : (zk == ki)
        · rw [h1, h2] at Hs Hf
          go_wp2_with fail
          go_roundw
          case rel => exact ⟨i + 1, by omega, by go_num, Lib.hid (by rw [Hs.out, ha.out]; rfl), below_alloc hb⟩
          case measure => simp [intOf]; omega
        · rw [h1, h2] at Hs Hf
          go_wp2_with fail
          go_ret
          exact ⟨by rw [Hf.out (by rfl)]; rfl, below_alloc hb⟩
    · obtain rfl : i = m := by omega
      have e1 := idxI_none (zoneP fe ki) zs (by have := ha.out; rwa [← hlen.out, List.take_length] at this)
      go_wp2_with fail
      go_ret
      exact ⟨by rw [e1]; rfl, hb⟩
end Go.Proofs.YtpifbaiibhaklaaGreatDoor
namespace Go.Proofs.YtpifbaiibhaklaaGreatDoor
open Go.RowKit Big
set_option maxHeartbeats 40000000
set_option linter.unusedVariables false
set_option linter.unusedSimpArgs false

theorem any_take_mono {α : Type} (p : α → Bool) (l : List α) {a b : Nat} (hab : a ≤ b) (h : (l.take a).any p = true) : (l.take b).any p = true := by
  obtain ⟨x, hx, hp⟩ := List.any_eq_true.1 h
  refine List.any_eq_true.2 ⟨x, ?_, hp⟩
  have : l.take a = (l.take b).take a := by rw [List.take_take, Nat.min_eq_left hab]
  rw [this] at hx
  exact List.mem_of_mem_take hx
theorem mfe_0 (name : ByteArray) (kind axis datum at_ wide : Int) (dup : Bool) (ax : Int) (i : Nat) (e1 : isName name.data.toList = false) : featErr1 ⟨name, kind, axis, datum, at_, wide⟩ dup ax i = 11 := by
  simp only [featErr1, e1] <;> (repeat' split) <;> first | rfl | omega | simp_all
theorem mfe_1 (name : ByteArray) (kind axis datum at_ wide : Int) (dup : Bool) (ax : Int) (i : Nat) (e1 : isName name.data.toList = true) (h2 : 30 < name.size) : featErr1 ⟨name, kind, axis, datum, at_, wide⟩ dup ax i = 11 := by
  simp only [featErr1, e1] <;> (repeat' split) <;> first | rfl | omega | simp_all
theorem mfe_2 (name : ByteArray) (kind axis datum at_ wide : Int) (dup : Bool) (ax : Int) (i : Nat) (e1 : isName name.data.toList = true) (h2 : ¬ 30 < name.size) (e2 : hasDot name.data.toList = false) : featErr1 ⟨name, kind, axis, datum, at_, wide⟩ true ax i = 9 := by
  simp only [featErr1, e1, e2] <;> (repeat' split) <;> first | rfl | omega | simp_all
theorem mfe_3 (name : ByteArray) (kind axis datum at_ wide : Int) (dup : Bool) (ax : Int) (i : Nat) (e1 : isName name.data.toList = true) (h2 : ¬ 30 < name.size) (e2 : hasDot name.data.toList = false) (a1 : axis < 0) : featErr1 ⟨name, 1, axis, datum, at_, wide⟩ false ax i = 2 := by
  simp only [featErr1, e1, e2] <;> (repeat' split) <;> first | rfl | omega | simp_all
theorem mfe_4 (name : ByteArray) (kind axis datum at_ wide : Int) (dup : Bool) (ax : Int) (i : Nat) (e1 : isName name.data.toList = true) (h2 : ¬ 30 < name.size) (e2 : hasDot name.data.toList = false) (a1 : ¬ axis < 0) (a2 : 2 < axis) : featErr1 ⟨name, 1, axis, datum, at_, wide⟩ false ax i = 2 := by
  simp only [featErr1, e1, e2] <;> (repeat' split) <;> first | rfl | omega | simp_all
theorem mfe_5 (name : ByteArray) (kind axis datum at_ wide : Int) (dup : Bool) (ax : Int) (i : Nat) (e1 : isName name.data.toList = true) (h2 : ¬ 30 < name.size) (e2 : hasDot name.data.toList = false) (a1 : ¬ axis < 0) (a2 : ¬ 2 < axis) (a3 : datum < -1) : featErr1 ⟨name, 1, axis, datum, at_, wide⟩ false ax i = 2 := by
  simp only [featErr1, e1, e2] <;> (repeat' split) <;> first | rfl | omega | simp_all
theorem mfe_6 (name : ByteArray) (kind axis datum at_ wide : Int) (dup : Bool) (ax : Int) (i : Nat) (e1 : isName name.data.toList = true) (h2 : ¬ 30 < name.size) (e2 : hasDot name.data.toList = false) (a1 : ¬ axis < 0) (a2 : ¬ 2 < axis) (a3 : ¬ datum < -1) (a4 : (i : Int) ≤ datum) : featErr1 ⟨name, 1, axis, datum, at_, wide⟩ false ax i = 2 := by
  simp only [featErr1, e1, e2] <;> (repeat' split) <;> first | rfl | omega | simp_all
theorem mfe_7 (name : ByteArray) (kind axis datum at_ wide : Int) (dup : Bool) (ax : Int) (i : Nat) (e1 : isName name.data.toList = true) (h2 : ¬ 30 < name.size) (e2 : hasDot name.data.toList = false) (a1 : ¬ axis < 0) (a2 : ¬ 2 < axis) (a3 : ¬ datum < -1) (a4 : ¬ (i : Int) ≤ datum) (a5 : 0 ≤ datum) (g : ax = axis) (e3 : farB at_ = false) (e4 : farB wide = false) (b1 : wide = 0) : featErr1 ⟨name, 1, axis, datum, at_, wide⟩ false ax i = 0 := by
  simp only [featErr1, e1, e2, e3, e4] <;> (repeat' split) <;> first | rfl | omega | simp_all
theorem mfe_8 (name : ByteArray) (kind axis datum at_ wide : Int) (dup : Bool) (ax : Int) (i : Nat) (e1 : isName name.data.toList = true) (h2 : ¬ 30 < name.size) (e2 : hasDot name.data.toList = false) (a1 : ¬ axis < 0) (a2 : ¬ 2 < axis) (a3 : ¬ datum < -1) (a4 : ¬ (i : Int) ≤ datum) (a5 : 0 ≤ datum) (g : ax = axis) (e3 : farB at_ = false) (e4 : farB wide = false) (b1 : ¬ wide = 0) : featErr1 ⟨name, 1, axis, datum, at_, wide⟩ false ax i = 3 := by
  simp only [featErr1, e1, e2, e3, e4] <;> (repeat' split) <;> first | rfl | omega | simp_all
theorem mfe_9 (name : ByteArray) (kind axis datum at_ wide : Int) (dup : Bool) (ax : Int) (i : Nat) (e1 : isName name.data.toList = true) (h2 : ¬ 30 < name.size) (e2 : hasDot name.data.toList = false) (a1 : ¬ axis < 0) (a2 : ¬ 2 < axis) (a3 : ¬ datum < -1) (a4 : ¬ (i : Int) ≤ datum) (a5 : 0 ≤ datum) (g : ax = axis) (e3 : farB at_ = false) (e4 : farB wide = true) : featErr1 ⟨name, 1, axis, datum, at_, wide⟩ false ax i = 2 := by
  simp only [featErr1, e1, e2, e3, e4] <;> (repeat' split) <;> first | rfl | omega | simp_all
theorem mfe_10 (name : ByteArray) (kind axis datum at_ wide : Int) (dup : Bool) (ax : Int) (i : Nat) (e1 : isName name.data.toList = true) (h2 : ¬ 30 < name.size) (e2 : hasDot name.data.toList = false) (a1 : ¬ axis < 0) (a2 : ¬ 2 < axis) (a3 : ¬ datum < -1) (a4 : ¬ (i : Int) ≤ datum) (a5 : 0 ≤ datum) (g : ax = axis) (e3 : farB at_ = true) : featErr1 ⟨name, 1, axis, datum, at_, wide⟩ false ax i = 2 := by
  simp only [featErr1, e1, e2, e3] <;> (repeat' split) <;> first | rfl | omega | simp_all
theorem mfe_11 (name : ByteArray) (kind axis datum at_ wide : Int) (dup : Bool) (ax : Int) (i : Nat) (e1 : isName name.data.toList = true) (h2 : ¬ 30 < name.size) (e2 : hasDot name.data.toList = false) (a1 : ¬ axis < 0) (a2 : ¬ 2 < axis) (a3 : ¬ datum < -1) (a4 : ¬ (i : Int) ≤ datum) (a5 : 0 ≤ datum) (g : ¬ ax = axis) : featErr1 ⟨name, 1, axis, datum, at_, wide⟩ false ax i = 17 := by
  simp only [featErr1, e1, e2] <;> (repeat' split) <;> first | rfl | omega | simp_all
theorem mfe_12 (name : ByteArray) (kind axis datum at_ wide : Int) (dup : Bool) (ax : Int) (i : Nat) (e1 : isName name.data.toList = true) (h2 : ¬ 30 < name.size) (e2 : hasDot name.data.toList = false) (a1 : ¬ axis < 0) (a2 : ¬ 2 < axis) (a3 : ¬ datum < -1) (a4 : ¬ (i : Int) ≤ datum) (a5 : ¬ 0 ≤ datum) (e3 : farB at_ = false) (e4 : farB wide = false) (b1 : wide = 0) : featErr1 ⟨name, 1, axis, datum, at_, wide⟩ false ax i = 0 := by
  simp only [featErr1, e1, e2, e3, e4] <;> (repeat' split) <;> first | rfl | omega | simp_all
theorem mfe_13 (name : ByteArray) (kind axis datum at_ wide : Int) (dup : Bool) (ax : Int) (i : Nat) (e1 : isName name.data.toList = true) (h2 : ¬ 30 < name.size) (e2 : hasDot name.data.toList = false) (a1 : ¬ axis < 0) (a2 : ¬ 2 < axis) (a3 : ¬ datum < -1) (a4 : ¬ (i : Int) ≤ datum) (a5 : ¬ 0 ≤ datum) (e3 : farB at_ = false) (e4 : farB wide = false) (b1 : ¬ wide = 0) : featErr1 ⟨name, 1, axis, datum, at_, wide⟩ false ax i = 3 := by
  simp only [featErr1, e1, e2, e3, e4] <;> (repeat' split) <;> first | rfl | omega | simp_all
theorem mfe_14 (name : ByteArray) (kind axis datum at_ wide : Int) (dup : Bool) (ax : Int) (i : Nat) (e1 : isName name.data.toList = true) (h2 : ¬ 30 < name.size) (e2 : hasDot name.data.toList = false) (a1 : ¬ axis < 0) (a2 : ¬ 2 < axis) (a3 : ¬ datum < -1) (a4 : ¬ (i : Int) ≤ datum) (a5 : ¬ 0 ≤ datum) (e3 : farB at_ = false) (e4 : farB wide = true) : featErr1 ⟨name, 1, axis, datum, at_, wide⟩ false ax i = 2 := by
  simp only [featErr1, e1, e2, e3, e4] <;> (repeat' split) <;> first | rfl | omega | simp_all
theorem mfe_15 (name : ByteArray) (kind axis datum at_ wide : Int) (dup : Bool) (ax : Int) (i : Nat) (e1 : isName name.data.toList = true) (h2 : ¬ 30 < name.size) (e2 : hasDot name.data.toList = false) (a1 : ¬ axis < 0) (a2 : ¬ 2 < axis) (a3 : ¬ datum < -1) (a4 : ¬ (i : Int) ≤ datum) (a5 : ¬ 0 ≤ datum) (e3 : farB at_ = true) : featErr1 ⟨name, 1, axis, datum, at_, wide⟩ false ax i = 2 := by
  simp only [featErr1, e1, e2, e3] <;> (repeat' split) <;> first | rfl | omega | simp_all
theorem mfe_16 (name : ByteArray) (kind axis datum at_ wide : Int) (dup : Bool) (ax : Int) (i : Nat) (e1 : isName name.data.toList = true) (h2 : ¬ 30 < name.size) (e2 : hasDot name.data.toList = false) (a1 : axis < 0) : featErr1 ⟨name, 2, axis, datum, at_, wide⟩ false ax i = 2 := by
  simp only [featErr1, e1, e2] <;> (repeat' split) <;> first | rfl | omega | simp_all
theorem mfe_17 (name : ByteArray) (kind axis datum at_ wide : Int) (dup : Bool) (ax : Int) (i : Nat) (e1 : isName name.data.toList = true) (h2 : ¬ 30 < name.size) (e2 : hasDot name.data.toList = false) (a1 : ¬ axis < 0) (a2 : 2 < axis) : featErr1 ⟨name, 2, axis, datum, at_, wide⟩ false ax i = 2 := by
  simp only [featErr1, e1, e2] <;> (repeat' split) <;> first | rfl | omega | simp_all
theorem mfe_18 (name : ByteArray) (kind axis datum at_ wide : Int) (dup : Bool) (ax : Int) (i : Nat) (e1 : isName name.data.toList = true) (h2 : ¬ 30 < name.size) (e2 : hasDot name.data.toList = false) (a1 : ¬ axis < 0) (a2 : ¬ 2 < axis) (a3 : datum < -1) : featErr1 ⟨name, 2, axis, datum, at_, wide⟩ false ax i = 2 := by
  simp only [featErr1, e1, e2] <;> (repeat' split) <;> first | rfl | omega | simp_all
theorem mfe_19 (name : ByteArray) (kind axis datum at_ wide : Int) (dup : Bool) (ax : Int) (i : Nat) (e1 : isName name.data.toList = true) (h2 : ¬ 30 < name.size) (e2 : hasDot name.data.toList = false) (a1 : ¬ axis < 0) (a2 : ¬ 2 < axis) (a3 : ¬ datum < -1) (a4 : (i : Int) ≤ datum) : featErr1 ⟨name, 2, axis, datum, at_, wide⟩ false ax i = 2 := by
  simp only [featErr1, e1, e2] <;> (repeat' split) <;> first | rfl | omega | simp_all
theorem mfe_20 (name : ByteArray) (kind axis datum at_ wide : Int) (dup : Bool) (ax : Int) (i : Nat) (e1 : isName name.data.toList = true) (h2 : ¬ 30 < name.size) (e2 : hasDot name.data.toList = false) (a1 : ¬ axis < 0) (a2 : ¬ 2 < axis) (a3 : ¬ datum < -1) (a4 : ¬ (i : Int) ≤ datum) (a5 : 0 ≤ datum) (g : ax = axis) (e3 : farB at_ = false) (e4 : farB wide = false) (b1 : wide < 1) : featErr1 ⟨name, 2, axis, datum, at_, wide⟩ false ax i = 2 := by
  simp only [featErr1, e1, e2, e3, e4] <;> (repeat' split) <;> first | rfl | omega | simp_all
theorem mfe_21 (name : ByteArray) (kind axis datum at_ wide : Int) (dup : Bool) (ax : Int) (i : Nat) (e1 : isName name.data.toList = true) (h2 : ¬ 30 < name.size) (e2 : hasDot name.data.toList = false) (a1 : ¬ axis < 0) (a2 : ¬ 2 < axis) (a3 : ¬ datum < -1) (a4 : ¬ (i : Int) ≤ datum) (a5 : 0 ≤ datum) (g : ax = axis) (e3 : farB at_ = false) (e4 : farB wide = false) (b1 : ¬ wide < 1) : featErr1 ⟨name, 2, axis, datum, at_, wide⟩ false ax i = 0 := by
  simp only [featErr1, e1, e2, e3, e4] <;> (repeat' split) <;> first | rfl | omega | simp_all
theorem mfe_22 (name : ByteArray) (kind axis datum at_ wide : Int) (dup : Bool) (ax : Int) (i : Nat) (e1 : isName name.data.toList = true) (h2 : ¬ 30 < name.size) (e2 : hasDot name.data.toList = false) (a1 : ¬ axis < 0) (a2 : ¬ 2 < axis) (a3 : ¬ datum < -1) (a4 : ¬ (i : Int) ≤ datum) (a5 : 0 ≤ datum) (g : ax = axis) (e3 : farB at_ = false) (e4 : farB wide = true) : featErr1 ⟨name, 2, axis, datum, at_, wide⟩ false ax i = 2 := by
  simp only [featErr1, e1, e2, e3, e4] <;> (repeat' split) <;> first | rfl | omega | simp_all
theorem mfe_23 (name : ByteArray) (kind axis datum at_ wide : Int) (dup : Bool) (ax : Int) (i : Nat) (e1 : isName name.data.toList = true) (h2 : ¬ 30 < name.size) (e2 : hasDot name.data.toList = false) (a1 : ¬ axis < 0) (a2 : ¬ 2 < axis) (a3 : ¬ datum < -1) (a4 : ¬ (i : Int) ≤ datum) (a5 : 0 ≤ datum) (g : ax = axis) (e3 : farB at_ = true) : featErr1 ⟨name, 2, axis, datum, at_, wide⟩ false ax i = 2 := by
  simp only [featErr1, e1, e2, e3] <;> (repeat' split) <;> first | rfl | omega | simp_all
theorem mfe_24 (name : ByteArray) (kind axis datum at_ wide : Int) (dup : Bool) (ax : Int) (i : Nat) (e1 : isName name.data.toList = true) (h2 : ¬ 30 < name.size) (e2 : hasDot name.data.toList = false) (a1 : ¬ axis < 0) (a2 : ¬ 2 < axis) (a3 : ¬ datum < -1) (a4 : ¬ (i : Int) ≤ datum) (a5 : 0 ≤ datum) (g : ¬ ax = axis) : featErr1 ⟨name, 2, axis, datum, at_, wide⟩ false ax i = 17 := by
  simp only [featErr1, e1, e2] <;> (repeat' split) <;> first | rfl | omega | simp_all
theorem mfe_25 (name : ByteArray) (kind axis datum at_ wide : Int) (dup : Bool) (ax : Int) (i : Nat) (e1 : isName name.data.toList = true) (h2 : ¬ 30 < name.size) (e2 : hasDot name.data.toList = false) (a1 : ¬ axis < 0) (a2 : ¬ 2 < axis) (a3 : ¬ datum < -1) (a4 : ¬ (i : Int) ≤ datum) (a5 : ¬ 0 ≤ datum) (e3 : farB at_ = false) (e4 : farB wide = false) (b1 : wide < 1) : featErr1 ⟨name, 2, axis, datum, at_, wide⟩ false ax i = 2 := by
  simp only [featErr1, e1, e2, e3, e4] <;> (repeat' split) <;> first | rfl | omega | simp_all
theorem mfe_26 (name : ByteArray) (kind axis datum at_ wide : Int) (dup : Bool) (ax : Int) (i : Nat) (e1 : isName name.data.toList = true) (h2 : ¬ 30 < name.size) (e2 : hasDot name.data.toList = false) (a1 : ¬ axis < 0) (a2 : ¬ 2 < axis) (a3 : ¬ datum < -1) (a4 : ¬ (i : Int) ≤ datum) (a5 : ¬ 0 ≤ datum) (e3 : farB at_ = false) (e4 : farB wide = false) (b1 : ¬ wide < 1) : featErr1 ⟨name, 2, axis, datum, at_, wide⟩ false ax i = 0 := by
  simp only [featErr1, e1, e2, e3, e4] <;> (repeat' split) <;> first | rfl | omega | simp_all
theorem mfe_27 (name : ByteArray) (kind axis datum at_ wide : Int) (dup : Bool) (ax : Int) (i : Nat) (e1 : isName name.data.toList = true) (h2 : ¬ 30 < name.size) (e2 : hasDot name.data.toList = false) (a1 : ¬ axis < 0) (a2 : ¬ 2 < axis) (a3 : ¬ datum < -1) (a4 : ¬ (i : Int) ≤ datum) (a5 : ¬ 0 ≤ datum) (e3 : farB at_ = false) (e4 : farB wide = true) : featErr1 ⟨name, 2, axis, datum, at_, wide⟩ false ax i = 2 := by
  simp only [featErr1, e1, e2, e3, e4] <;> (repeat' split) <;> first | rfl | omega | simp_all
theorem mfe_28 (name : ByteArray) (kind axis datum at_ wide : Int) (dup : Bool) (ax : Int) (i : Nat) (e1 : isName name.data.toList = true) (h2 : ¬ 30 < name.size) (e2 : hasDot name.data.toList = false) (a1 : ¬ axis < 0) (a2 : ¬ 2 < axis) (a3 : ¬ datum < -1) (a4 : ¬ (i : Int) ≤ datum) (a5 : ¬ 0 ≤ datum) (e3 : farB at_ = true) : featErr1 ⟨name, 2, axis, datum, at_, wide⟩ false ax i = 2 := by
  simp only [featErr1, e1, e2, e3] <;> (repeat' split) <;> first | rfl | omega | simp_all
theorem mfe_29 (name : ByteArray) (kind axis datum at_ wide : Int) (dup : Bool) (ax : Int) (i : Nat) (e1 : isName name.data.toList = true) (h2 : ¬ 30 < name.size) (e2 : hasDot name.data.toList = false) (k1 : ¬ kind = 1) (k2 : ¬ kind = 2) : featErr1 ⟨name, kind, axis, datum, at_, wide⟩ false ax i = 12 := by
  simp only [featErr1, e1, e2] <;> (repeat' split) <;> first | rfl | omega | simp_all
theorem mfe_30 (name : ByteArray) (kind axis datum at_ wide : Int) (dup : Bool) (ax : Int) (i : Nat) (e1 : isName name.data.toList = true) (h2 : ¬ 30 < name.size) (e2 : hasDot name.data.toList = true) : featErr1 ⟨name, kind, axis, datum, at_, wide⟩ dup ax i = 11 := by
  simp only [featErr1, e1, e2] <;> (repeat' split) <;> first | rfl | omega | simp_all

set_option maxRecDepth 100000 in
theorem mfeature_any (base : Nat) (A Bz : Option Addr) (n c m d : Nat) (fs : List Feat) (i : Nat) (w : World) (h : IsFs base 28 w A n c fs) (hi : i < n) (hn : n ≤ 1000000) :
    Calls Tryz.prog 32 #[.agg #[.slice A n c, .slice Bz m d], .int .i64 (i : Int)] w fun e w' => e = .returned (.int .i64 (featErr fs i)) ∧ Below w.heap.size w w' := by
  obtain ⟨ad, ea, c0, c1, c2, c3, c4, c5⟩ := IsFs.cells h i hi
  subst ea
  have hcap := h.cap
  have hic : i ≤ c := by omega
  have i0 : (0 : Int) ≤ (i : Int) := by omega
  have i1 : (i : Int) < (n : Int) := by omega
  have i2 : (i : Int) ≤ (c : Int) := by omega
  unfold featErr
  generalize hax : (fs.getD (fs.getD i fd).datum.toNat fd).axis = ax
  obtain ⟨dup, hdup⟩ : ∃ dup, dup = (fs.take i).any (fun g => g.name.toList == (fs.getD i fd).name.toList) := ⟨_, rfl⟩
  rw [← hdup]
  generalize fs.getD i fd = f at *
  obtain ⟨name, kind, axis, datum, at_, wide⟩ := f
  dsimp only at c0 c1 c2 c3 c4 c5 hax hdup
  have hdup' := Lib.hid hdup
  clear hdup
  have hdup := hdup'
  clear hdup'
  have H1 := Lib.hid (fun W => IsName_any name W)
  have H2 := Lib.hid (fun W => Tryz.strings_Contains_one name 46 W)
  rw [show decide (0 ≤ Lib.indexByte name.data.toList 46) = hasDot name.data.toList from rfl] at H2
  have H5 := Lib.hid (fun W => mfar_any at_ W)
  have H6 := Lib.hid (fun W => mfar_any wide W)
  have hlt : (ad.add (i * 6)).block < w.heap.size := World.block_lt_of_cell? w _ c0
  have hne : ¬ (ad.add (i * 6)).block = w.heap.size := Nat.ne_of_lt hlt
  generalize e1 : isName name.data.toList = r1 at H1
  generalize e2 : hasDot name.data.toList = r2 at H2
  generalize e3 : farB at_ = f1 at H5
  generalize e4 : farB wide = f2 at H6
  go_enter Tryz.func32, Tryz.ntmps32
  go_wp2_with fail
  refine (H1.out _).mono ?_
  rintro e w1 ⟨rfl, hb⟩
  have p0 := keptc hb (w.heap.size) 0 (.slice (some ad) n c) (by first | with_reducible assumption | (simp [go_sem]; done)); have p1 := keptc hb (w.heap.size) 1 (.slice Bz m d) (by first | with_reducible assumption | (simp [go_sem]; done)); have fp0 := keptF hb (g := w.heap.size) (o := 0) (v := .slice (some ad) n c) (by first | with_reducible assumption | (simp [go_sem]; done)) (by first | with_reducible assumption | (simp [go_sem]; done)); have fp1 := keptF hb (g := w.heap.size) (o := 1) (v := .slice Bz m d) (by first | with_reducible assumption | (simp [go_sem]; done)) (by first | with_reducible assumption | (simp [go_sem]; done))
  have q0 := keptc hb (w.heap.size + 1) 0 (.string name) (by first | with_reducible assumption | (simp [go_sem]; done)); have q1 := keptc hb (w.heap.size + 1) 1 (.int .i64 kind) (by first | with_reducible assumption | (simp [go_sem]; done)); have q2 := keptc hb (w.heap.size + 1) 2 (.int .i64 axis) (by first | with_reducible assumption | (simp [go_sem]; done)); have q3 := keptc hb (w.heap.size + 1) 3 (.int .i64 datum) (by first | with_reducible assumption | (simp [go_sem]; done)); have q4 := keptc hb (w.heap.size + 1) 4 (.int .i64 at_) (by first | with_reducible assumption | (simp [go_sem]; done)); have q5 := keptc hb (w.heap.size + 1) 5 (.int .i64 wide) (by first | with_reducible assumption | (simp [go_sem]; done)); have fq0 := keptF hb (g := w.heap.size + 1) (o := 0) (v := .string name) (by first | with_reducible assumption | (simp [go_sem]; done)) (by first | with_reducible assumption | (simp [go_sem]; done)); have fq1 := keptF hb (g := w.heap.size + 1) (o := 1) (v := .int .i64 kind) (by first | with_reducible assumption | (simp [go_sem]; done)) (by first | with_reducible assumption | (simp [go_sem]; done)); have fq2 := keptF hb (g := w.heap.size + 1) (o := 2) (v := .int .i64 axis) (by first | with_reducible assumption | (simp [go_sem]; done)) (by first | with_reducible assumption | (simp [go_sem]; done)); have fq3 := keptF hb (g := w.heap.size + 1) (o := 3) (v := .int .i64 datum) (by first | with_reducible assumption | (simp [go_sem]; done)) (by first | with_reducible assumption | (simp [go_sem]; done)); have fq4 := keptF hb (g := w.heap.size + 1) (o := 4) (v := .int .i64 at_) (by first | with_reducible assumption | (simp [go_sem]; done)) (by first | with_reducible assumption | (simp [go_sem]; done)); have fq5 := keptF hb (g := w.heap.size + 1) (o := 5) (v := .int .i64 wide) (by first | with_reducible assumption | (simp [go_sem]; done)) (by first | with_reducible assumption | (simp [go_sem]; done))
  have B1 := Lib.hid (below_then (w := w) (by repeat (first | exact Below.refl _ _ | with_reducible assumption | apply below_alloc | apply below_drewN | apply below_drew | refine below_set ?_ (by simp; try omega) _ | refine below_then ?_ (by with_reducible assumption))) hb)
  clear hb
  cases r1
  · skip
    have hv : featErr1 ⟨name, kind, axis, datum, at_, wide⟩ dup ax i = 11 := mfe_0 _ _ _ _ _ _ _ _ _ e1
    go_wp2_with fail
    go_ret
    exact ⟨by first | rfl | (rw [hv]; rfl), by have b := B1.out; exact (by repeat (first | exact Below.refl _ _ | with_reducible assumption | apply below_alloc | apply below_drewN | apply below_drew | refine below_set ?_ (by simp; try omega) _ | refine below_then ?_ (by with_reducible assumption)))⟩
  · skip
    by_cases h2 : 30 < name.size
    · have h2d : decide (30 < name.size) = true := decide_eq_true h2
      have hv : featErr1 ⟨name, kind, axis, datum, at_, wide⟩ dup ax i = 11 := mfe_1 _ _ _ _ _ _ _ _ _ e1 (by omega)
      go_wp2_with fail
      go_ret
      exact ⟨by first | rfl | (rw [hv]; rfl), by have b := B1.out; exact (by repeat (first | exact Below.refl _ _ | with_reducible assumption | apply below_alloc | apply below_drewN | apply below_drew | refine below_set ?_ (by simp; try omega) _ | refine below_then ?_ (by with_reducible assumption)))⟩
    · have h2d : decide (30 < name.size) = false := decide_eq_false h2
      go_wp2_with fail
      refine (H2.out _).mono ?_
      rintro e w2 ⟨rfl, rfl⟩
      cases r2
      · skip
        go_wp2_with fail
        have B1' := Lib.hid (below_then B1.out (Below.refl _ _))
        go_loopw [33] (fun q wr => ∃ (k : Nat), k ≤ i ∧ q = .int .i64 (k : Int) ∧ Hid ((fs.take k).any (fun g => g.name.toList == name.toList) = false) ∧ Below w2.heap.size w2 wr) (fun q _ => i - (intOf q).toNat)
        case atStart => exact ⟨0, Nat.zero_le _, rfl, Lib.hid rfl, Below.refl _ _⟩
        case round =>
          obtain ⟨k, hk, rfl, ha, hb⟩ := hrel
          have x0 := cell_below hb p0
          have x1 := cell_below hb p1
          have y0 := cell_below hb q0
          have y1 := cell_below hb q1
          have y2 := cell_below hb q2
          have y3 := cell_below hb q3
          have y4 := cell_below hb q4
          have y5 := cell_below hb q5
          have B3 := Lib.hid (below_then B1.out hb)
          by_cases hlt9 : k < i
          · obtain ⟨ad9, ea9, z0, z1, z2, z3, z4, z5⟩ := IsFs.cells (h.below B3.out) k (by omega)
            injection ea9 with ea9
            subst ea9
            have k0 : (0 : Int) ≤ (k : Int) := by omega
            have k9 : (k : Int) < (i : Int) := by omega
            have Hs := Lib.hid (any_take_succ (fun g => g.name.toList == name.toList) fs fd k (by have := h.len; omega))
            generalize fs.getD k fd = f9 at z0 z1 z2 z3 z4 z5 Hs
            obtain ⟨name9, kind9, axis9, datum9, at9, wide9⟩ := f9
            dsimp only at z0 z1 z2 z3 z4 z5 Hs
            have hlt1 := World.block_lt_of_cell? wr _ z0
            have hne1 : ¬ (ad.add (k * 6)).block = wr.heap.size := Nat.ne_of_lt hlt1
            have hlt2 : w.heap.size + 1 < wr.heap.size := World.block_lt_of_cell? wr _ y0
            have hne2 : ¬ w.heap.size + 1 = wr.heap.size := by omega
            cases hnn : (name9.toList == name.toList)
            · rw [hnn] at Hs
              go_wp2_with fail
              go_roundw
              case rel => exact ⟨k + 1, by omega, by go_num, Lib.hid (by rw [Hs.out, ha.out]; rfl), below_alloc hb⟩
              case measure => simp [intOf]; omega
            · rw [hnn] at Hs
              have hd9 : dup = true := by rw [hdup.out]; exact any_take_mono (a := k + 1) _ _ (by omega) (by rw [Hs.out]; simp)
              subst hd9
              have hv : featErr1 ⟨name, kind, axis, datum, at_, wide⟩ true ax i = 9 := mfe_2 _ _ _ _ _ _ false _ _ e1 (by omega) e2
              go_wp2_with fail
              go_ret
              exact ⟨by first | rfl | (rw [hv]; rfl), below_alloc B3.out⟩
          · obtain rfl : i = k := by omega
            have hd9 : dup = false := by rw [hdup.out, ha.out]
            subst hd9
            clear H1 H2 ha
            by_cases k1 : kind = 1
            · subst k1
              by_cases a1 : axis < 0
              · have a1d : decide (axis < 0) = true := decide_eq_true a1
                have hv : featErr1 ⟨name, 1, axis, datum, at_, wide⟩ false ax i = 2 := mfe_3 _ 0 _ _ _ _ false _ _ e1 (by omega) e2 (by omega)
                go_wp2_with fail
                go_ret
                exact ⟨by first | rfl | (rw [hv]; rfl), by have b := B3.out; exact (by repeat (first | exact Below.refl _ _ | with_reducible assumption | apply below_alloc | apply below_drewN | apply below_drew | refine below_set ?_ (by simp; try omega) _ | refine below_then ?_ (by with_reducible assumption)))⟩
              · have a1d : decide (axis < 0) = false := decide_eq_false a1
                by_cases a2 : 2 < axis
                · have a2d : decide (2 < axis) = true := decide_eq_true a2
                  have hv : featErr1 ⟨name, 1, axis, datum, at_, wide⟩ false ax i = 2 := mfe_4 _ 0 _ _ _ _ false _ _ e1 (by omega) e2 (by omega) (by omega)
                  go_wp2_with fail
                  go_ret
                  exact ⟨by first | rfl | (rw [hv]; rfl), by have b := B3.out; exact (by repeat (first | exact Below.refl _ _ | with_reducible assumption | apply below_alloc | apply below_drewN | apply below_drew | refine below_set ?_ (by simp; try omega) _ | refine below_then ?_ (by with_reducible assumption)))⟩
                · have a2d : decide (2 < axis) = false := decide_eq_false a2
                  by_cases a3 : datum < -1
                  · have a3d : decide (datum < -1) = true := decide_eq_true a3
                    have hv : featErr1 ⟨name, 1, axis, datum, at_, wide⟩ false ax i = 2 := mfe_5 _ 0 _ _ _ _ false _ _ e1 (by omega) e2 (by omega) (by omega) (by omega)
                    go_wp2_with fail
                    go_ret
                    exact ⟨by first | rfl | (rw [hv]; rfl), by have b := B3.out; exact (by repeat (first | exact Below.refl _ _ | with_reducible assumption | apply below_alloc | apply below_drewN | apply below_drew | refine below_set ?_ (by simp; try omega) _ | refine below_then ?_ (by with_reducible assumption)))⟩
                  · have a3d : decide (datum < -1) = false := decide_eq_false a3
                    by_cases a4 : (i : Int) ≤ datum
                    · have a4d : decide ((i : Int) ≤ datum) = true := decide_eq_true a4
                      have hv : featErr1 ⟨name, 1, axis, datum, at_, wide⟩ false ax i = 2 := mfe_6 _ 0 _ _ _ _ false _ _ e1 (by omega) e2 (by omega) (by omega) (by omega) (by omega)
                      go_wp2_with fail
                      go_ret
                      exact ⟨by first | rfl | (rw [hv]; rfl), by have b := B3.out; exact (by repeat (first | exact Below.refl _ _ | with_reducible assumption | apply below_alloc | apply below_drewN | apply below_drew | refine below_set ?_ (by simp; try omega) _ | refine below_then ?_ (by with_reducible assumption)))⟩
                    · have a4d : decide ((i : Int) ≤ datum) = false := decide_eq_false a4
                      by_cases a5 : 0 ≤ datum
                      · have a5d : decide (0 ≤ datum) = true := decide_eq_true a5
                        obtain ⟨kk, rfl⟩ := Int.eq_ofNat_of_zero_le a5
                        have kk1 : kk < n := by omega
                        have kk2 : (0 : Int) ≤ (kk : Int) := by omega
                        have kk3 : (kk : Int) < (n : Int) := by omega
                        have C3 := (cellsAt (h.below B3.out) kk kk1).2.2.1
                        rw [show ((kk : Nat) : Int).toNat = kk from rfl] at hax
                        rw [hax] at C3
                        by_cases g : ax = axis
                        · have gd : (ax != axis) = false := by simpa using g
                          go_wp2_with fail
                          go_quiet (fail)
                          go_wp2_with fail
                          refine (H5.out _).mono ?_
                          rintro e w4 ⟨rfl, rfl⟩
                          cases f1
                          · skip
                            go_wp2_with fail
                            refine (H6.out _).mono ?_
                            rintro e w5 ⟨rfl, rfl⟩
                            cases f2
                            · skip
                              by_cases b1 : wide = 0
                              · have b1d : (wide != 0) = false := by simpa using b1
                                have hv : featErr1 ⟨name, 1, axis, (kk : Int), at_, wide⟩ false ax i = 0 := mfe_7 _ 0 _ _ _ _ false _ _ e1 (by omega) e2 (by omega) (by omega) (by omega) (by omega) (by omega) (by omega) e3 e4 (by omega)
                                go_wp2_with fail
                                go_ret
                                exact ⟨by first | rfl | (rw [hv]; rfl), by have b := B3.out; exact (by repeat (first | exact Below.refl _ _ | with_reducible assumption | apply below_alloc | apply below_drewN | apply below_drew | refine below_set ?_ (by simp; try omega) _ | refine below_then ?_ (by with_reducible assumption)))⟩
                              · have b1d : (wide != 0) = true := by simpa using b1
                                have hv : featErr1 ⟨name, 1, axis, (kk : Int), at_, wide⟩ false ax i = 3 := mfe_8 _ 0 _ _ _ _ false _ _ e1 (by omega) e2 (by omega) (by omega) (by omega) (by omega) (by omega) (by omega) e3 e4 (by omega)
                                go_wp2_with fail
                                go_ret
                                exact ⟨by first | rfl | (rw [hv]; rfl), by have b := B3.out; exact (by repeat (first | exact Below.refl _ _ | with_reducible assumption | apply below_alloc | apply below_drewN | apply below_drew | refine below_set ?_ (by simp; try omega) _ | refine below_then ?_ (by with_reducible assumption)))⟩
                            · skip
                              have hv : featErr1 ⟨name, 1, axis, (kk : Int), at_, wide⟩ false ax i = 2 := mfe_9 _ 0 _ _ _ _ false _ _ e1 (by omega) e2 (by omega) (by omega) (by omega) (by omega) (by omega) (by omega) e3 e4
                              go_wp2_with fail
                              go_ret
                              exact ⟨by first | rfl | (rw [hv]; rfl), by have b := B3.out; exact (by repeat (first | exact Below.refl _ _ | with_reducible assumption | apply below_alloc | apply below_drewN | apply below_drew | refine below_set ?_ (by simp; try omega) _ | refine below_then ?_ (by with_reducible assumption)))⟩
                          · skip
                            have hv : featErr1 ⟨name, 1, axis, (kk : Int), at_, wide⟩ false ax i = 2 := mfe_10 _ 0 _ _ _ _ false _ _ e1 (by omega) e2 (by omega) (by omega) (by omega) (by omega) (by omega) (by omega) e3
                            go_wp2_with fail
                            go_ret
                            exact ⟨by first | rfl | (rw [hv]; rfl), by have b := B3.out; exact (by repeat (first | exact Below.refl _ _ | with_reducible assumption | apply below_alloc | apply below_drewN | apply below_drew | refine below_set ?_ (by simp; try omega) _ | refine below_then ?_ (by with_reducible assumption)))⟩
                        · have gd : (ax != axis) = true := by simpa using g
                          have hv : featErr1 ⟨name, 1, axis, (kk : Int), at_, wide⟩ false ax i = 17 := mfe_11 _ 0 _ _ _ _ false _ _ e1 (by omega) e2 (by omega) (by omega) (by omega) (by omega) (by omega) (by omega)
                          go_wp2_with fail
                          go_quiet (fail)
                          go_wp2_with fail
                          go_ret
                          exact ⟨by first | rfl | (rw [hv]; rfl), by have b := B3.out; exact (by repeat (first | exact Below.refl _ _ | with_reducible assumption | apply below_alloc | apply below_drewN | apply below_drew | refine below_set ?_ (by simp; try omega) _ | refine below_then ?_ (by with_reducible assumption)))⟩
                      · have a5d : decide (0 ≤ datum) = false := decide_eq_false a5
                        go_wp2_with fail
                        go_quiet (fail)
                        go_wp2_with fail
                        refine (H5.out _).mono ?_
                        rintro e w4 ⟨rfl, rfl⟩
                        cases f1
                        · skip
                          go_wp2_with fail
                          refine (H6.out _).mono ?_
                          rintro e w5 ⟨rfl, rfl⟩
                          cases f2
                          · skip
                            by_cases b1 : wide = 0
                            · have b1d : (wide != 0) = false := by simpa using b1
                              have hv : featErr1 ⟨name, 1, axis, datum, at_, wide⟩ false ax i = 0 := mfe_12 _ 0 _ _ _ _ false _ _ e1 (by omega) e2 (by omega) (by omega) (by omega) (by omega) (by omega) e3 e4 (by omega)
                              go_wp2_with fail
                              go_ret
                              exact ⟨by first | rfl | (rw [hv]; rfl), by have b := B3.out; exact (by repeat (first | exact Below.refl _ _ | with_reducible assumption | apply below_alloc | apply below_drewN | apply below_drew | refine below_set ?_ (by simp; try omega) _ | refine below_then ?_ (by with_reducible assumption)))⟩
                            · have b1d : (wide != 0) = true := by simpa using b1
                              have hv : featErr1 ⟨name, 1, axis, datum, at_, wide⟩ false ax i = 3 := mfe_13 _ 0 _ _ _ _ false _ _ e1 (by omega) e2 (by omega) (by omega) (by omega) (by omega) (by omega) e3 e4 (by omega)
                              go_wp2_with fail
                              go_ret
                              exact ⟨by first | rfl | (rw [hv]; rfl), by have b := B3.out; exact (by repeat (first | exact Below.refl _ _ | with_reducible assumption | apply below_alloc | apply below_drewN | apply below_drew | refine below_set ?_ (by simp; try omega) _ | refine below_then ?_ (by with_reducible assumption)))⟩
                          · skip
                            have hv : featErr1 ⟨name, 1, axis, datum, at_, wide⟩ false ax i = 2 := mfe_14 _ 0 _ _ _ _ false _ _ e1 (by omega) e2 (by omega) (by omega) (by omega) (by omega) (by omega) e3 e4
                            go_wp2_with fail
                            go_ret
                            exact ⟨by first | rfl | (rw [hv]; rfl), by have b := B3.out; exact (by repeat (first | exact Below.refl _ _ | with_reducible assumption | apply below_alloc | apply below_drewN | apply below_drew | refine below_set ?_ (by simp; try omega) _ | refine below_then ?_ (by with_reducible assumption)))⟩
                        · skip
                          have hv : featErr1 ⟨name, 1, axis, datum, at_, wide⟩ false ax i = 2 := mfe_15 _ 0 _ _ _ _ false _ _ e1 (by omega) e2 (by omega) (by omega) (by omega) (by omega) (by omega) e3
                          go_wp2_with fail
                          go_ret
                          exact ⟨by first | rfl | (rw [hv]; rfl), by have b := B3.out; exact (by repeat (first | exact Below.refl _ _ | with_reducible assumption | apply below_alloc | apply below_drewN | apply below_drew | refine below_set ?_ (by simp; try omega) _ | refine below_then ?_ (by with_reducible assumption)))⟩
            · by_cases k2 : kind = 2
              · subst k2
                by_cases a1 : axis < 0
                · have a1d : decide (axis < 0) = true := decide_eq_true a1
                  have hv : featErr1 ⟨name, 2, axis, datum, at_, wide⟩ false ax i = 2 := mfe_16 _ 0 _ _ _ _ false _ _ e1 (by omega) e2 (by omega)
                  go_wp2_with fail
                  go_ret
                  exact ⟨by first | rfl | (rw [hv]; rfl), by have b := B3.out; exact (by repeat (first | exact Below.refl _ _ | with_reducible assumption | apply below_alloc | apply below_drewN | apply below_drew | refine below_set ?_ (by simp; try omega) _ | refine below_then ?_ (by with_reducible assumption)))⟩
                · have a1d : decide (axis < 0) = false := decide_eq_false a1
                  by_cases a2 : 2 < axis
                  · have a2d : decide (2 < axis) = true := decide_eq_true a2
                    have hv : featErr1 ⟨name, 2, axis, datum, at_, wide⟩ false ax i = 2 := mfe_17 _ 0 _ _ _ _ false _ _ e1 (by omega) e2 (by omega) (by omega)
                    go_wp2_with fail
                    go_ret
                    exact ⟨by first | rfl | (rw [hv]; rfl), by have b := B3.out; exact (by repeat (first | exact Below.refl _ _ | with_reducible assumption | apply below_alloc | apply below_drewN | apply below_drew | refine below_set ?_ (by simp; try omega) _ | refine below_then ?_ (by with_reducible assumption)))⟩
                  · have a2d : decide (2 < axis) = false := decide_eq_false a2
                    by_cases a3 : datum < -1
                    · have a3d : decide (datum < -1) = true := decide_eq_true a3
                      have hv : featErr1 ⟨name, 2, axis, datum, at_, wide⟩ false ax i = 2 := mfe_18 _ 0 _ _ _ _ false _ _ e1 (by omega) e2 (by omega) (by omega) (by omega)
                      go_wp2_with fail
                      go_ret
                      exact ⟨by first | rfl | (rw [hv]; rfl), by have b := B3.out; exact (by repeat (first | exact Below.refl _ _ | with_reducible assumption | apply below_alloc | apply below_drewN | apply below_drew | refine below_set ?_ (by simp; try omega) _ | refine below_then ?_ (by with_reducible assumption)))⟩
                    · have a3d : decide (datum < -1) = false := decide_eq_false a3
                      by_cases a4 : (i : Int) ≤ datum
                      · have a4d : decide ((i : Int) ≤ datum) = true := decide_eq_true a4
                        have hv : featErr1 ⟨name, 2, axis, datum, at_, wide⟩ false ax i = 2 := mfe_19 _ 0 _ _ _ _ false _ _ e1 (by omega) e2 (by omega) (by omega) (by omega) (by omega)
                        go_wp2_with fail
                        go_ret
                        exact ⟨by first | rfl | (rw [hv]; rfl), by have b := B3.out; exact (by repeat (first | exact Below.refl _ _ | with_reducible assumption | apply below_alloc | apply below_drewN | apply below_drew | refine below_set ?_ (by simp; try omega) _ | refine below_then ?_ (by with_reducible assumption)))⟩
                      · have a4d : decide ((i : Int) ≤ datum) = false := decide_eq_false a4
                        by_cases a5 : 0 ≤ datum
                        · have a5d : decide (0 ≤ datum) = true := decide_eq_true a5
                          obtain ⟨kk, rfl⟩ := Int.eq_ofNat_of_zero_le a5
                          have kk1 : kk < n := by omega
                          have kk2 : (0 : Int) ≤ (kk : Int) := by omega
                          have kk3 : (kk : Int) < (n : Int) := by omega
                          have C3 := (cellsAt (h.below B3.out) kk kk1).2.2.1
                          rw [show ((kk : Nat) : Int).toNat = kk from rfl] at hax
                          rw [hax] at C3
                          by_cases g : ax = axis
                          · have gd : (ax != axis) = false := by simpa using g
                            go_wp2_with fail
                            go_quiet (fail)
                            go_wp2_with fail
                            refine (H5.out _).mono ?_
                            rintro e w4 ⟨rfl, rfl⟩
                            cases f1
                            · skip
                              go_wp2_with fail
                              refine (H6.out _).mono ?_
                              rintro e w5 ⟨rfl, rfl⟩
                              cases f2
                              · skip
                                by_cases b1 : wide < 1
                                · have b1d : decide (wide < 1) = true := decide_eq_true b1
                                  have hv : featErr1 ⟨name, 2, axis, (kk : Int), at_, wide⟩ false ax i = 2 := mfe_20 _ 0 _ _ _ _ false _ _ e1 (by omega) e2 (by omega) (by omega) (by omega) (by omega) (by omega) (by omega) e3 e4 (by omega)
                                  go_wp2_with fail
                                  go_ret
                                  exact ⟨by first | rfl | (rw [hv]; rfl), by have b := B3.out; exact (by repeat (first | exact Below.refl _ _ | with_reducible assumption | apply below_alloc | apply below_drewN | apply below_drew | refine below_set ?_ (by simp; try omega) _ | refine below_then ?_ (by with_reducible assumption)))⟩
                                · have b1d : decide (wide < 1) = false := decide_eq_false b1
                                  have hv : featErr1 ⟨name, 2, axis, (kk : Int), at_, wide⟩ false ax i = 0 := mfe_21 _ 0 _ _ _ _ false _ _ e1 (by omega) e2 (by omega) (by omega) (by omega) (by omega) (by omega) (by omega) e3 e4 (by omega)
                                  go_wp2_with fail
                                  go_ret
                                  exact ⟨by first | rfl | (rw [hv]; rfl), by have b := B3.out; exact (by repeat (first | exact Below.refl _ _ | with_reducible assumption | apply below_alloc | apply below_drewN | apply below_drew | refine below_set ?_ (by simp; try omega) _ | refine below_then ?_ (by with_reducible assumption)))⟩
                              · skip
                                have hv : featErr1 ⟨name, 2, axis, (kk : Int), at_, wide⟩ false ax i = 2 := mfe_22 _ 0 _ _ _ _ false _ _ e1 (by omega) e2 (by omega) (by omega) (by omega) (by omega) (by omega) (by omega) e3 e4
                                go_wp2_with fail
                                go_ret
                                exact ⟨by first | rfl | (rw [hv]; rfl), by have b := B3.out; exact (by repeat (first | exact Below.refl _ _ | with_reducible assumption | apply below_alloc | apply below_drewN | apply below_drew | refine below_set ?_ (by simp; try omega) _ | refine below_then ?_ (by with_reducible assumption)))⟩
                            · skip
                              have hv : featErr1 ⟨name, 2, axis, (kk : Int), at_, wide⟩ false ax i = 2 := mfe_23 _ 0 _ _ _ _ false _ _ e1 (by omega) e2 (by omega) (by omega) (by omega) (by omega) (by omega) (by omega) e3
                              go_wp2_with fail
                              go_ret
                              exact ⟨by first | rfl | (rw [hv]; rfl), by have b := B3.out; exact (by repeat (first | exact Below.refl _ _ | with_reducible assumption | apply below_alloc | apply below_drewN | apply below_drew | refine below_set ?_ (by simp; try omega) _ | refine below_then ?_ (by with_reducible assumption)))⟩
                          · have gd : (ax != axis) = true := by simpa using g
                            have hv : featErr1 ⟨name, 2, axis, (kk : Int), at_, wide⟩ false ax i = 17 := mfe_24 _ 0 _ _ _ _ false _ _ e1 (by omega) e2 (by omega) (by omega) (by omega) (by omega) (by omega) (by omega)
                            go_wp2_with fail
                            go_quiet (fail)
                            go_wp2_with fail
                            go_ret
                            exact ⟨by first | rfl | (rw [hv]; rfl), by have b := B3.out; exact (by repeat (first | exact Below.refl _ _ | with_reducible assumption | apply below_alloc | apply below_drewN | apply below_drew | refine below_set ?_ (by simp; try omega) _ | refine below_then ?_ (by with_reducible assumption)))⟩
                        · have a5d : decide (0 ≤ datum) = false := decide_eq_false a5
                          go_wp2_with fail
                          go_quiet (fail)
                          go_wp2_with fail
                          refine (H5.out _).mono ?_
                          rintro e w4 ⟨rfl, rfl⟩
                          cases f1
                          · skip
                            go_wp2_with fail
                            refine (H6.out _).mono ?_
                            rintro e w5 ⟨rfl, rfl⟩
                            cases f2
                            · skip
                              by_cases b1 : wide < 1
                              · have b1d : decide (wide < 1) = true := decide_eq_true b1
                                have hv : featErr1 ⟨name, 2, axis, datum, at_, wide⟩ false ax i = 2 := mfe_25 _ 0 _ _ _ _ false _ _ e1 (by omega) e2 (by omega) (by omega) (by omega) (by omega) (by omega) e3 e4 (by omega)
                                go_wp2_with fail
                                go_ret
                                exact ⟨by first | rfl | (rw [hv]; rfl), by have b := B3.out; exact (by repeat (first | exact Below.refl _ _ | with_reducible assumption | apply below_alloc | apply below_drewN | apply below_drew | refine below_set ?_ (by simp; try omega) _ | refine below_then ?_ (by with_reducible assumption)))⟩
                              · have b1d : decide (wide < 1) = false := decide_eq_false b1
                                have hv : featErr1 ⟨name, 2, axis, datum, at_, wide⟩ false ax i = 0 := mfe_26 _ 0 _ _ _ _ false _ _ e1 (by omega) e2 (by omega) (by omega) (by omega) (by omega) (by omega) e3 e4 (by omega)
                                go_wp2_with fail
                                go_ret
                                exact ⟨by first | rfl | (rw [hv]; rfl), by have b := B3.out; exact (by repeat (first | exact Below.refl _ _ | with_reducible assumption | apply below_alloc | apply below_drewN | apply below_drew | refine below_set ?_ (by simp; try omega) _ | refine below_then ?_ (by with_reducible assumption)))⟩
                            · skip
                              have hv : featErr1 ⟨name, 2, axis, datum, at_, wide⟩ false ax i = 2 := mfe_27 _ 0 _ _ _ _ false _ _ e1 (by omega) e2 (by omega) (by omega) (by omega) (by omega) (by omega) e3 e4
                              go_wp2_with fail
                              go_ret
                              exact ⟨by first | rfl | (rw [hv]; rfl), by have b := B3.out; exact (by repeat (first | exact Below.refl _ _ | with_reducible assumption | apply below_alloc | apply below_drewN | apply below_drew | refine below_set ?_ (by simp; try omega) _ | refine below_then ?_ (by with_reducible assumption)))⟩
                          · skip
                            have hv : featErr1 ⟨name, 2, axis, datum, at_, wide⟩ false ax i = 2 := mfe_28 _ 0 _ _ _ _ false _ _ e1 (by omega) e2 (by omega) (by omega) (by omega) (by omega) (by omega) e3
                            go_wp2_with fail
                            go_ret
                            exact ⟨by first | rfl | (rw [hv]; rfl), by have b := B3.out; exact (by repeat (first | exact Below.refl _ _ | with_reducible assumption | apply below_alloc | apply below_drewN | apply below_drew | refine below_set ?_ (by simp; try omega) _ | refine below_then ?_ (by with_reducible assumption)))⟩
              · have k1d : (kind == 1) = false := by simpa using k1
                have k2d : (kind == 2) = false := by simpa using k2
                have k3d : (kind != 1) = true := by simpa using k1
                have k4d : (kind != 2) = true := by simpa using k2
                have hv : featErr1 ⟨name, kind, axis, datum, at_, wide⟩ false ax i = 12 := mfe_29 _ _ _ _ _ _ false _ _ e1 (by omega) e2 (by omega) (by omega)
                go_wp2_with fail
                go_ret
                exact ⟨by first | rfl | (rw [hv]; rfl), by have b := B3.out; exact (by repeat (first | exact Below.refl _ _ | with_reducible assumption | apply below_alloc | apply below_drewN | apply below_drew | refine below_set ?_ (by simp; try omega) _ | refine below_then ?_ (by with_reducible assumption)))⟩
      · skip
        have hv : featErr1 ⟨name, kind, axis, datum, at_, wide⟩ dup ax i = 11 := mfe_30 _ _ _ _ _ _ _ _ _ e1 (by omega) e2
        go_wp2_with fail
        go_ret
        exact ⟨by first | rfl | (rw [hv]; rfl), by have b := B1.out; exact (by repeat (first | exact Below.refl _ _ | with_reducible assumption | apply below_alloc | apply below_drewN | apply below_drew | refine below_set ?_ (by simp; try omega) _ | refine below_then ?_ (by with_reducible assumption)))⟩
end Go.Proofs.YtpifbaiibhaklaaGreatDoor
