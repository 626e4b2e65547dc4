/- The model's at: the index of a variable.
  The model: form.
  The model's constraints: words. -/
import Derived.Test.YtpifbaiibhaklaaGreatDoorL12
import Derived.Test.YtpifbaiibhaklaaGreatDoorL5
import Derived.Test.YtpifbaiibhaklaaGreatDoorL2
import Derived.Test.YtpifbaiibhaklaaGreatDoorL4
import Derived.Test.YtpifbaiibhaklaaGreatDoorL6
import Derived.Deep.RegionLaw
import Derived.Test.YtpifbaiibhaklaaGreatDoorL7
namespace Go.Proofs.YtpifbaiibhaklaaGreatDoor
open Go.RowKit Big
set_option maxHeartbeats 4000000
set_option linter.unusedVariables false
set_option linter.unusedSimpArgs false

theorem kcellsAt {base : Nat} {t : TypeId} {w : World} {A : Option Addr} {n c : Nat} {l : List Vr} (h : IsRow encV 2 base t w A n c l) (i : Nat) (hi : i < n) : ∃ ad : Addr, A = some ad ∧
    w.cell? (ad.add (i * 2)) = some (.int .i64 ((l.getD i vd).feature : Int)) ∧ w.cell? ⟨(ad.add (i * 2)).block, (ad.add (i * 2)).off + 1, none⟩ = some (.int .i64 (l.getD i vd).kind) := vcellsAt h i hi
set_option maxRecDepth 100000 in
theorem at_any (base : Nat) (A Bz : Option Addr) (n c m d : Nat) (s : Sch) (fe ki : Int) (w : World) (hf : IsFs base 28 w A n c s.fs) (hz : IsZs base 30 w Bz m d s.zs) (hfine : Fine s) :
    Calls Tryz.prog 42 #[.agg #[.slice A n c, .slice Bz m d], .int .i64 fe, .int .i64 ki] w fun e w' => e = .returned (.int .i64 (indexOf s fe ki)) ∧ Below w.heap.size w w' := by
  have H := Lib.hid (fun W (hW : Below w.heap.size w W) => mvariables_any base A Bz n c m d s W (hf.below hW) (hz.below hW) hfine)
  have hcnt : (varsOf s).length ≤ 48 := by have := varsTo_len s s.fs.length; have := hfine.nf; unfold varsOf; omega
  have he := fun a b c d w => eq_key a b c d w
  have hm := gd_key
  rw [show indexOf s fe ki = idxI (isV fe ki) (varsOf s) from rfl]
  clear hf hz hfine
  unfold RetMV at H
  generalize dimsOf s = ds at H
  generalize varsOf s = vs at H hcnt
  go_enter Tryz.func42, Tryz.ntmps42
  go_wp2_with fail
  refine (H.out _ (by repeat (first | exact Below.refl _ _ | with_reducible assumption | apply below_alloc | apply below_drewN | apply below_drew | refine below_set ?_ (by simp; try omega) _ | refine below_then ?_ (by with_reducible assumption)))).mono ?_
  rintro e w1 ⟨A1, n1, c1, A2, n2, c2, rfl, _, hr, hb⟩
  have hr := Lib.hid (hr 0)
  have hlen := Lib.hid hr.out.len
  have hn2 : n2 ≤ 48 := by have := hlen.out; omega
  have B1 := Lib.hid (below_then (w := w) (by repeat (first | exact Below.refl _ _ | with_reducible assumption | apply below_alloc | apply below_drewN | apply below_drew | refine below_set ?_ (by simp; try omega) _ | refine below_then ?_ (by with_reducible assumption))) hb)
  clear hb H
  go_wp2_with fail
  go_loopw [18] (fun q wr => ∃ (i : Nat), i ≤ n2 ∧ q = .int .i64 (i : Int) ∧ Hid ((vs.take i).any (isV fe ki) = false) ∧ Below w1.heap.size w1 wr) (fun q _ => n2 - (intOf q).toNat)
  case atStart => exact ⟨0, Nat.zero_le _, rfl, Lib.hid rfl, (by repeat (first | exact Below.refl _ _ | with_reducible assumption | apply below_alloc | apply below_drewN | apply below_drew | refine below_set ?_ (by simp; try omega) _ | refine below_then ?_ (by with_reducible assumption)))⟩
  case round =>
    obtain ⟨i, hi, rfl, ha, hb⟩ := hrel
    have Hb := Lib.hid hb
    by_cases hlt : i < n2
    · obtain ⟨ad, ea, x0, x1⟩ := vcellsAt (hr.out.below hb) i hlt
      subst ea
      have i0 : (0 : Int) ≤ (i : Int) := by omega
      have i1 : (i : Int) < (n2 : Int) := by omega
      have Hs := Lib.hid (any_take_succ (isV fe ki) vs vd i (by rw [hlen.out]; exact hlt))
      have Hf := Lib.hid (idxI_found (isV fe ki) vs vd i (by rw [hlen.out]; exact hlt) ha.out)
      clear hb
      have hp : ((((vs.getD i vd).feature : Int) == fe) && ((vs.getD i vd).kind == ki)) = isV fe ki (vs.getD i vd) := by
        unfold isV
        rw [Bool.beq_comm (a := fe), Bool.beq_comm (a := ki)]
      generalize vs.getD i vd = f at x0 x1 Hs Hf hp
      generalize isV fe ki f = r at Hs Hf hp
      obtain ⟨f1, f2⟩ := f
      dsimp only at x0 x1 hp
      cases r
      · go_wp2_with fail
        go_roundw
        case rel => exact ⟨i + 1, by omega, by go_num, Lib.hid (by rw [Hs.out, ha.out]; rfl), by have := Hb.out; exact (by repeat (first | exact Below.refl _ _ | with_reducible assumption | apply below_alloc | apply below_drewN | apply below_drew | refine below_set ?_ (by simp; try omega) _ | refine below_then ?_ (by with_reducible assumption)))⟩
        case measure => simp [intOf]; omega
      · go_wp2_with fail
        go_ret
        exact ⟨by rw [Hf.out (by trivial)]; rfl, by have := below_then B1.out Hb.out; exact (by repeat (first | exact Below.refl _ _ | with_reducible assumption | apply below_alloc | apply below_drewN | apply below_drew | refine below_set ?_ (by simp; try omega) _ | refine below_then ?_ (by with_reducible assumption)))⟩
    · obtain rfl : i = n2 := by omega
      have e1 := idxI_none (isV fe ki) vs (by have := ha.out; rwa [← hlen.out, List.take_length] at this)
      clear hb
      go_wp2_with fail
      go_ret
      exact ⟨by rw [e1]; rfl, below_then B1.out Hb.out⟩
end Go.Proofs.YtpifbaiibhaklaaGreatDoor
namespace Go.Proofs.YtpifbaiibhaklaaGreatDoor
open Go.RowKit Big Go.ChangeMaps
set_option maxHeartbeats 4000000
set_option linter.unusedVariables false
set_option linter.unusedSimpArgs false

set_option maxRecDepth 100000 in
theorem form_any (base : Nat) (b : Nat) (cst : Int) (l : List Fac) (w : World) (hB : base ≤ w.heap.size) (hg : Good w) (hl : IsFac base w b l) (h1 : -9223372036854775808 ≤ cst) (h2 : cst ≤ 9223372036854775807) :
    Calls Tryz.prog 44 #[.int .i64 cst, .map (some b)] w (RetForm ⟨cst, termsTo l 64⟩ w) := by
  have H1 := Lib.hid (fun W (hW : Below w.heap.size w W) => rFrom_any base cst W (Nat.le_trans hB hW.size) h1 h2)
  have HN := Lib.hid (fun W (hW : Below w.heap.size w W) (m : MR) (q : Rat) (hq : IsRat base W m q) (hl : limR q ≤ 1073741824) (hd : q.den = 1) => rNumber_w base m q W (Nat.le_trans hB hW.size) (hg.below hW) hq hl hd)
  have hlim : limR (cst : Rat) ≤ 1073741824 := by
    unfold limR
    rw [Rat.num_intCast, Rat.den_intCast]
    have h9 : lim ((1 : Nat) : Int) = 1 := lim_one
    have := lim_small (z := cst) (by omega)
    omega
  have HL := Lib.hid hl
  have hblt := hl.lt
  clear hl
  go_enter Tryz.func44, Tryz.ntmps44
  go_wp2_with fail
  refine (H1.out _ (by repeat (first | exact Below.refl _ _ | with_reducible assumption | apply below_alloc | apply below_drewN | apply below_drew | refine below_set ?_ (by simp; try omega) _ | refine below_then ?_ (by with_reducible assumption)))).mono ?_
  rintro e w1 ⟨m1, rfl, hq1, hb⟩
  have r0 := keptc hb (w.heap.size) 0 (.string ⟨#[]⟩) (by first | with_reducible assumption | (simp [go_sem]; done)); have r1 := keptc hb (w.heap.size) 1 (.slice none 0 0) (by first | with_reducible assumption | (simp [go_sem]; done)); have fr0 := keptF hb (g := w.heap.size) (o := 0) (v := .string ⟨#[]⟩) (by first | with_reducible assumption | (simp [go_sem]; done)) (by first | with_reducible assumption | (simp [go_sem]; done)); have fr1 := keptF hb (g := w.heap.size) (o := 1) (v := .slice none 0 0) (by first | with_reducible assumption | (simp [go_sem]; done)) (by first | with_reducible assumption | (simp [go_sem]; done)); have Tr := Lib.hid (keptT hb (g := w.heap.size) (o := 0) (v := .string ⟨#[]⟩) (by first | with_reducible assumption | (simp [go_sem]; done)) (e := 51) (by first | with_reducible assumption | exact Hid.out (by with_reducible assumption) | (simp [typ_alloc, typ_drewN, typ_drew, otyp_cells]; done)))
  have B1 := Lib.hid (below_then (w := w) (by repeat (first | exact Below.refl _ _ | with_reducible assumption | apply below_alloc | apply below_drewN | apply below_drew | refine below_set ?_ (by simp; try omega) _ | refine below_then ?_ (by with_reducible assumption))) hb)
  clear hb
  go_wp2_with fail
  refine (HN.out _ B1.out m1 _ hq1 hlim (Rat.den_intCast _)).mono ?_
  rintro e w2 ⟨s, rfl, hs, hb⟩
  rw [Rat.num_intCast] at hs
  obtain rfl := bs_of hs
  have r0 := keptc hb (w.heap.size) 0 (.string ⟨#[]⟩) (by first | with_reducible assumption | (simp [go_sem]; done)); have r1 := keptc hb (w.heap.size) 1 (.slice none 0 0) (by first | with_reducible assumption | (simp [go_sem]; done)); have fr0 := keptF hb (g := w.heap.size) (o := 0) (v := .string ⟨#[]⟩) (by first | with_reducible assumption | (simp [go_sem]; done)) (by first | with_reducible assumption | (simp [go_sem]; done)); have fr1 := keptF hb (g := w.heap.size) (o := 1) (v := .slice none 0 0) (by first | with_reducible assumption | (simp [go_sem]; done)) (by first | with_reducible assumption | (simp [go_sem]; done))
  have Tr2 := Lib.hid (keptT hb (g := w.heap.size) (o := 0) (v := .string ⟨#[]⟩) (by with_reducible assumption) Tr.out)
  have B2 := Lib.hid (below_then B1.out hb)
  clear hb hq1
  obtain ⟨W5, e5⟩ : ∃ W5 : World, W5 = w2.alloc (.cells #[.string (bs (Lib.itoa cst)), .slice none 0 0] 51) := ⟨_, rfl⟩
  go_wp2_with fail
  rw [← e5]
  have hrw : w.heap.size < w2.heap.size := World.block_lt_of_cell? w2 _ r0
  go_loopw [13] (fun q wr => ∃ (i : Nat) (v : Value), i ≤ 64 ∧ q = .int .i64 (i : Int) ∧ wr.cell? ⟨w2.heap.size, 1, none⟩ = some v ∧ wr.cell? ⟨w2.heap.size, 0, none⟩ = some (.string (bs (Lib.itoa cst))) ∧ wr.frozen? ⟨w2.heap.size, 1, none⟩ = false ∧ Hid (typ wr w2.heap.size = some 51) ∧
      Hid (wr.ownsRow (w2.heap.size + 1) 100 2 v (termsTo l i).length (flat encT (termsTo l i))) ∧ Below w2.heap.size w2 wr) (fun q _ => 64 - (intOf q).toNat)
  case atStart => exact ⟨0, .slice none 0 0, by omega, rfl, by rw [e5]; simp [go_sem], by rw [e5]; simp [go_sem], by rw [e5]; simp [go_sem], by rw [e5]; exact Lib.hid (by simp [typ_alloc, otyp_cells]), Lib.hid (own_nil _ _ _ _), by rw [e5]; exact below_alloc (Below.refl _ _)⟩
  case round =>
    obtain ⟨i, v, hi, rfl, p1, p0, pf, pT, hown, hb⟩ := hrel
    obtain ⟨A', c', rfl, hc'⟩ := own_slice hown.out
    have hcnt := termsTo_len l i
    have HLr := HL.out.below (below_then B2.out hb)
    have hgs : w2.heap.size < wr.heap.size := World.block_lt_of_cell? wr _ p0
    have hgs' : ¬ w2.heap.size = wr.heap.size := by omega
    by_cases hlt : i < 64
    · have hts : Hid (termsTo l (i + 1) = termsTo l i ++ (match fget l i with | some f => if f.q.num ≠ 0 then [(i, f.q.num)] else [] | none => [])) := Lib.hid rfl
      have hrun := HLr.look i
      cases hf : fget l i with
      | none =>
        rw [hf] at hrun hts
        simp only [Option.map_none, Option.getD_none, Option.isSome_none, ratV, zMR] at hrun
        clear e5
        go_wp2_with fail
        go_roundw
        case rel => exact ⟨i + 1, _, by omega, by go_num, cell_below (below_alloc (Below.refl _ _)) p1, cell_below (below_alloc (Below.refl _ _)) p0, (Below.frozen (below_alloc (Below.refl _ _)) (p := ⟨w2.heap.size, 1, none⟩) hgs).trans pf, Lib.hid ((typ_below (below_alloc (Below.refl _ _)) hgs).trans pT.out), Lib.hid (own_cast (own_below hown.out (below_alloc (Below.refl _ _))) (by rw [hts.out]; simp) (by rw [hts.out]; simp)), below_alloc hb⟩
        case measure => simp [intOf]; omega
      | some f =>
        rw [hf] at hrun hts
        simp only [Option.map_some, Option.getD_some, Option.isSome_some, ratV] at hrun
        obtain ⟨hq, hden, hlm⟩ := HLr.2 f (List.mem_of_find?_eq_some hf)
        have HS := Lib.hid (fun W (hW : Below wr.heap.size wr W) => rSign_any base f.m f.q W (hq.below hW) (by omega))
        have HN1 := Lib.hid (fun W (hW : Below wr.heap.size wr W) => HN.out W (below_then (below_then B2.out hb) hW) f.m f.q (hq.below hW) (by omega) hden)
        clear e5 HLr hq
        generalize hsg : sgnI f.q.num = sg at HS
        go_wp2_with fail
        refine (HS.out _ (below_alloc (Below.refl _ _))).mono ?_
        rintro e w6 ⟨rfl, hb6⟩
        have t0 := keptc hb6 (wr.heap.size) 0 (.bool f.m.a.p) (by first | with_reducible assumption | (simp [go_sem]; done)); have t1 := keptc hb6 (wr.heap.size) 1 (.slice f.m.a.A f.m.a.n f.m.a.c) (by first | with_reducible assumption | (simp [go_sem]; done)); have t2 := keptc hb6 (wr.heap.size) 2 (.bool f.m.b.p) (by first | with_reducible assumption | (simp [go_sem]; done)); have t3 := keptc hb6 (wr.heap.size) 3 (.slice f.m.b.A f.m.b.n f.m.b.c) (by first | with_reducible assumption | (simp [go_sem]; done)); have ft0 := keptF hb6 (g := wr.heap.size) (o := 0) (v := .bool f.m.a.p) (by first | with_reducible assumption | (simp [go_sem]; done)) (by first | with_reducible assumption | (simp [go_sem]; done)); have ft1 := keptF hb6 (g := wr.heap.size) (o := 1) (v := .slice f.m.a.A f.m.a.n f.m.a.c) (by first | with_reducible assumption | (simp [go_sem]; done)) (by first | with_reducible assumption | (simp [go_sem]; done)); have ft2 := keptF hb6 (g := wr.heap.size) (o := 2) (v := .bool f.m.b.p) (by first | with_reducible assumption | (simp [go_sem]; done)) (by first | with_reducible assumption | (simp [go_sem]; done)); have ft3 := keptF hb6 (g := wr.heap.size) (o := 3) (v := .slice f.m.b.A f.m.b.n f.m.b.c) (by first | with_reducible assumption | (simp [go_sem]; done)) (by first | with_reducible assumption | (simp [go_sem]; done))
        have B6 := below_then (w := wr) (by repeat (first | exact Below.refl _ _ | apply below_alloc | apply below_drewN | apply below_drew)) hb6
        have p0 := cell_below B6 p0
        have p1 := cell_below B6 p1
        have pf := (B6.frozen (p := ⟨w2.heap.size, 1, none⟩) hgs).trans pf
        have pT := Lib.hid ((typ_below B6 hgs).trans pT.out)
        have O6 := Lib.hid (own_below hown.out B6)
        have B := Lib.hid (below_then hb B6)
        have hk5 := fun k hk => And.intro (own_base hown.out k hk) (own_lt hown.out k hk)
        have HN2 := Lib.hid (fun W (hW : Below w6.heap.size w6 W) => HN1.out W (below_then B6 hW))
        clear hb6 hown hb HS HN1 HN B6 hrun
        by_cases hz : f.q.num = 0
        · obtain rfl : sg = 0 := by rw [← hsg, hz]; rfl
          go_wp2_with fail
          go_roundw
          case rel => exact ⟨i + 1, _, by omega, by go_num, p1, p0, pf, pT, Lib.hid (own_cast O6.out (by rw [hts.out]; simp [hz]) (by rw [hts.out]; simp [hz])), B.out⟩
          case measure => simp [intOf]; omega
        · have hsd : (sg != 0) = true := by
            rw [← hsg]
            unfold sgnI
            by_cases hn : f.q.num < 0
            · rw [if_pos hn]; rfl
            · rw [if_neg hn, if_neg hz]; rfl
          go_wp2_with fail
          go_region_law (first
            | (go_simp; go_at_call 65; refine (HN2.out _ (by repeat (first | exact Below.refl _ _ | apply below_alloc | apply below_drewN | apply below_drew))).mono ?_; rintro e w7 ⟨s7, rfl, hs7, hb7⟩; obtain rfl := bs_of hs7; have B67 := below_then (w := w6) (by repeat (first | exact Below.refl _ _ | apply below_alloc | apply below_drewN | apply below_drew)) hb7; have pf := (B67.frozen (p := ⟨w2.heap.size, 1, none⟩) (World.block_lt_of_cell? _ _ p1)).trans pf; have pT := Lib.hid ((typ_below B67 (World.block_lt_of_cell? _ _ p1)).trans pT.out); have p0 := cell_below B67 p0; have p1 := cell_below B67 p1; have t0 := cell_below B67 t0; have t1 := cell_below B67 t1; have t2 := cell_below B67 t2; have t3 := cell_below B67 t3; have O7 := Lib.hid (own_below O6.out B67); have B7 := Lib.hid (below_then (w := w2) B.out B67); have hB7 : w2.heap.size + 1 ≤ w7.heap.size := World.block_lt_of_cell? _ _ p1; have hne7 : ¬ w2.heap.size = w7.heap.size := (by omega); have hlt7 : w2.heap.size < w7.heap.size := hB7; clear hb7 B67)
            | (refine step_append_cells (w2.heap.size + 1) rfl (.tmp 29) (.tmp 34) 49 100 (.agg #[.int .i64 0, .string ByteArray.empty]) 2 24 rfl Tryz.underlying49 info_term rfl (by decide) (by decide) (.slice A' (termsTo l i).length c') (termsTo l i).length (flat encT (termsTo l i)) [.int .i64 (i : Int), .string (bs (Lib.itoa f.q.num))] rfl rfl rfl (by simp [Value.oneCell']) O7.out hB7 (by omega) ?_; intro v8 w8 hown8 hgr8; obtain ⟨A8, c8, rfl, hc8⟩ := own_slice hown8; have pf := (hgr8.frozen_far ⟨w2.heap.size, 1, none⟩ (World.block_lt_of_cell? _ _ p1) (fun e => Nat.not_succ_le_self _ (hk5 _ e.symm).1)).trans pf; have pT := Lib.hid (show typ w8 w2.heap.size = some 51 from by rw [← pT.out]; unfold typ; rw [hgr8.block _ (World.block_lt_of_cell? _ _ p1) (fun e => Nat.not_succ_le_self _ (hk5 _ e.symm).1)]); have p0 := grown_cell hgr8 p0 (fun k hk => by have := hk5 k hk; show k ≠ w2.heap.size; omega); have p1 := grown_cell hgr8 p1 (fun k hk => by have := hk5 k hk; show k ≠ w2.heap.size; omega); have B8 := Lib.hid (below_grownB B7.out B7.out.size hgr8 (fun k hk => by have := hk5 k hk; omega)); have O8 := Lib.hid hown8; clear hown8 hgr8))
          all_goals
            go_wp2_with fail
            go_roundw
            case rel => exact ⟨i + 1, _, by omega, by go_num, World.cell?_setCell_same _ _ _ p1, (World.cell?_setCell_other _ _ _ _ (by simp)).trans p0, (World.frozen?_setCell _ _ _ _).trans pf, Lib.hid ((typ_set _ _ _ _).trans pT.out), Lib.hid (own_cast (own_set O8.out (fun e => Nat.not_succ_le_self _ (own_base O8.out _ e.symm)) _) (by rw [hts.out]; simp [hz]) (by rw [hts.out, if_pos hz, flat_app]; rfl)), below_set B8.out (by simp) _⟩
            case measure => simp [intOf]; omega
    · obtain rfl : i = 64 := by omega
      have r0 := cell_below hb r0
      have r1 := cell_below hb r1
      have fr0 := (hb.frozen (p := ⟨w.heap.size, 0, none⟩) hrw).trans fr0
      have fr1 := (hb.frozen (p := ⟨w.heap.size, 1, none⟩) hrw).trans fr1
      clear e5
      go_wp2_with fail
      have O9 := own_set (own_set hown.out (p := ⟨w.heap.size, 0, none⟩) (fun e => by have := own_base hown.out _ e.symm; simp at this; omega) (.string (bs (Lib.itoa cst)))) (p := ⟨w.heap.size, 1, none⟩) (fun e => by have := own_base hown.out _ e.symm; simp at this; omega) (.slice A' (termsTo l 64).length c')
      refine bodyPost_ret (v := .agg #[.string (bs (Lib.itoa cst)), .slice A' (termsTo l 64).length c']) (by simp [results, Tryz.results44, go_sem, r0, r1]) rfl ⟨A', _, c', rfl, ⟨rfl, hc', Reads.of_own O9⟩, below_set (below_set (below_then B2.out hb) (by simp) _) (by simp) _⟩
end Go.Proofs.YtpifbaiibhaklaaGreatDoor
namespace Go.Proofs.YtpifbaiibhaklaaGreatDoor
open Go.RowKit Big Go.ChangeMaps
set_option maxHeartbeats 4000000
set_option linter.unusedVariables false
set_option linter.unusedSimpArgs false

section
variable {P : Program} {ops : Array Oper} {o : Oper} {a : Act} {K : Act → World → Prop} {Q : Exit → Act → World → Prop} {E : Prop}
/-- append(v, x, y) at a step of a region that draws its order. -/
theorem step_append_two {W : World} (base : Nat) (hgd : o.guard = none) (s x : Operand) (t e : TypeId) (z : Value) (size bytes : Nat)
    (ho : o.op = .call { callee := .builtin .append, args := #[s, x], argTypes := #[t, t] })
    (ht : P.underlying t = some (.slice e)) (hinfo : (P.info? e).map (fun i => (i.zero, i.size, i.bytes)) = some (some z, size, bytes)) (hz : z.cells.size = size) (hs0 : 0 < size) (hb0 : 0 < bytes)
    (v : Value) (n : Nat) (xs ys : List Value) (hs : a.eval s = v) (hx : a.eval x = .slice (some ⟨W.heap.size, 0, none⟩) 2 2) (hys : ys.length = 2 * size) (h1 : ∀ u ∈ ys, u.oneCell' = true)
    (HO : W.ownsRow base e size v n xs) (hbase : base ≤ W.heap.size) (hl : (n + 2) * bytes ≤ 140737488355328)
    (h : ∀ v1 w1, w1.ownsRow base e size v1 (n + 2) (xs ++ ys) → W.grownBy w1 v.ownBlock → K (a.put o.dst v1) w1) :
    if Region.wanted o (yielded ops a.tmps) = true then Oper.wp P o a (W.alloc (.cells ys.toArray e)) K Q else E := by
  obtain ⟨i0, hi, hzz⟩ := Option.map_eq_some_iff.1 hinfo
  simp only [Prod.mk.injEq] at hzz
  obtain ⟨hz0, hz1, hz2⟩ := hzz
  have hlen : n + 2 ≤ 140737488355328 := Nat.le_trans (Nat.le_mul_of_pos_right _ hb0) hl
  refine step_append_lies (W.alloc (.cells ys.toArray e)) hgd s x t ho base e i0 z size bytes ht hi hz0 hz1 hz2 hz hs0 v n xs hs (HO.alloc _) ⟨W.heap.size, 0, none⟩ 2 2 ys hx hys
    (by simpa using World.news_of_block (cs := ys.toArray) (t := e) (fr := (0, 0)) (heap_alloc_new W (.cells ys.toArray e))) h1 (by decide) (by simp only [maxLen]; omega) hl (by simp; omega) _ rfl ?_
  intro g cap w1 hown hg _ _
  exact h _ w1 hown (World.grownBy.trans (World.grownBy_alloc W _ _) hg)
end
theorem idxI_lt {α : Type} (p : α → Bool) (l : List α) : idxI p l < max l.length 1 := by
  unfold idxI
  split
  · rename_i h
    obtain ⟨x, hx, hp⟩ := List.any_eq_true.1 h
    have := List.findIdx_lt_length_of_exists ⟨x, hx, hp⟩
    omega
  · omega
theorem index_lt {s : Sch} (h : Fine s) (fe k : Int) : indexOf s fe k < 48 := by
  have h1 := idxI_lt (isV fe k) (varsOf s)
  have h2 := varsTo_len s s.fs.length
  have h3 := h.nf
  unfold indexOf
  unfold varsOf at h1 ⊢
  omega
theorem tm_more (g : Nat → Int) (a : Nat) (h : ∀ i, a ≤ i → g i = 0) (b : Nat) : tm g (a + b) = tm g a := by
  induction b with
  | zero => rfl
  | succ b ih =>
    show tm g (a + b) ++ (if g (a + b) ≠ 0 then [(a + b, g (a + b))] else []) = tm g a
    rw [ih, if_neg (by simpa using h (a + b) (by omega)), List.append_nil]
theorem two_far {p x q y : Int} (hp : p < 48) (hq : q < 48) (i : Nat) (hi : 48 ≤ i) : two p x q y i = 0 := by
  unfold two
  rw [if_neg (by omega), if_neg (by omega)]
theorem terms_two {l : List Fac} {p x q y : Int} (h : numAt l = two p x q y) (hp : p < 48) (hq : q < 48) : termsTo l 64 = tm (two p x q y) 48 := by
  rw [termsTo_tm, h]
  exact tm_more _ 48 (fun i hi => two_far hp hq i hi) 16
theorem fac_two {w : World} {b : Nat} {f g : Fac} (h : MapIs w b [f, g]) (hf : IsRat 0 w f.m f.q) (hg : IsRat 0 w g.m g.q) (df : f.q.den = 1) (dg : g.q.den = 1) (lf : limR f.q ≤ 1000) (lg : limR g.q ≤ 1000) : IsFac 0 w b [f, g] := by
  obtain ⟨es, c, h1, h2⟩ := h
  refine ⟨⟨es, c, h1, h2⟩, fun x hx => ?_⟩
  simp only [List.mem_cons, List.not_mem_nil, or_false] at hx
  rcases hx with rfl | rfl
  · exact ⟨hf, df, lf⟩
  · exact ⟨hg, dg, lg⟩
theorem limR_one : limR (1 : Rat) ≤ 1000 := by
  unfold limR
  exact Nat.max_le.2 ⟨Nat.le_trans (lim_le (k := 1) (by decide)) (by decide), Nat.le_trans (lim_le (k := 1) (by decide)) (by decide)⟩
theorem limR_neg1 : limR (-1 : Rat) ≤ 1000 := by
  unfold limR
  exact Nat.max_le.2 ⟨Nat.le_trans (lim_le (k := 1) (by decide)) (by decide), Nat.le_trans (lim_le (k := 1) (by decide)) (by decide)⟩
theorem den_one : (1 : Rat).den = 1 := rfl
theorem den_neg1 : (-1 : Rat).den = 1 := rfl
theorem mget_none {es : Array MapEntry} {lf : List Fac} (h : es.toList.map (fun x => (x.key, x.val)) = lf.map (fun f => (Value.int .i64 f.key, ratV f.m))) (k : Int) (hk : ∀ f ∈ lf, f.key ≠ k) : mget es.toList k = none := by
  rw [mget_fget _ _ h]
  have : fget lf k = none := by
    unfold fget
    rw [List.find?_eq_none]
    intro f hf
    simpa using hk f hf
  rw [this]; rfl
end Go.Proofs.YtpifbaiibhaklaaGreatDoor
