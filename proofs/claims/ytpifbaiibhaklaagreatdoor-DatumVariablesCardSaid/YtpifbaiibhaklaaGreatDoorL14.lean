/- The model's constraints: the walk. (Printed by genvar7.py.) -/
import Derived.Test.YtpifbaiibhaklaaGreatDoorL13
import Derived.Deep.DeepCutAuto
namespace Go.Proofs.YtpifbaiibhaklaaGreatDoor
open Go.RowKit Big Go.ChangeMaps
set_option maxHeartbeats 40000000
set_option linter.unusedVariables false
set_option linter.unusedSimpArgs false

/-- A list of constraints handed back. -/
def RetMC (cs : List Con) (w : World) (e : Ending) (w' : World) : Prop := ∃ A n c rs, e = .returned (.slice A n c) ∧ (∀ b, IsRow encC 3 b 53 w' A n c rs) ∧ RowsOk w' rs cs ∧ Below w.heap.size w w'
set_option maxRecDepth 100000 in
theorem mconstraints_any (base : Nat) (A Bz : Option Addr) (n c m d : Nat) (s : Sch) (w : World) (hg : Good w) (hf : IsFs base 28 w A n c s.fs) (hz : IsZs base 30 w Bz m d s.zs) (hfine : Fine s) :
    Calls Tryz.prog 16 #[.agg #[.slice A n c, .slice Bz m d]] w (RetMC (consOf s) w) := by
  have hn : n ≤ 16 := by have := hfine.nf; rw [hf.len] at this; exact this
  have hm : m ≤ 32 := by have := hfine.nz; rw [hz.len] at this; exact this
  have HI := Lib.hid (fun (fe ki : Int) W (hW : Below w.heap.size w W) => at_any base A Bz n c m d s fe ki W (hf.below hW) (hz.below hW) hfine)
  have HZ := Lib.hid (fun (fe ki : Int) W (hW : Below w.heap.size w W) => limits_any base A Bz n c m d s.zs fe ki W (hz.below hW) (by omega))
  have HF := Lib.hid (fun (i : Nat) (hi : i < n) => IsFs.cells hf i hi)
  have HY := Lib.hid (fun (i : Nat) (hi : i < m) => IsZs.cells hz i hi)
  have HR1 := Lib.hid (fun W => rFrom_any 0 1 W (Nat.zero_le _) (by decide) (by decide))
  have HG := Lib.hid (fun W (hW : Below w.heap.size w W) => hg.below hW)
  have hlen := Lib.hid hf.len
  have hlenz := Lib.hid hz.len
  have hfine := Lib.hid hfine
  clear hf hz hg
  go_enter Tryz.func16, Tryz.ntmps16
  go_wp2_with fail
  refine (HR1.out _).mono ?_
  rintro e w1 ⟨m1, rfl, hq1, hb⟩
  have a0 := keptc hb w.heap.size 0 (.slice A n c) (by simp [go_sem])
  have a1 := keptc hb w.heap.size 1 (.slice Bz m d) (by simp [go_sem])
  have B1 := Lib.hid (below_then (w := w) (by repeat (first | exact Below.refl _ _ | with_reducible assumption | apply below_alloc | apply below_drewN | apply below_drew | refine below_set ?_ (by simp; try omega) _ | refine below_then ?_ (by with_reducible assumption))) hb)
  have hw2 : w.heap.size < w1.heap.size := World.block_lt_of_cell? w1 _ a0
  clear hb HR1
  obtain ⟨W2, e2⟩ : ∃ W2 : World, W2 = w1.alloc (.cells #[.bool m1.a.p, .slice m1.a.A m1.a.n m1.a.c, .bool m1.b.p, .slice m1.b.A m1.b.n m1.b.c] 90) := ⟨_, rfl⟩
  obtain ⟨g, hg0⟩ : ∃ g, g = w1.heap.size := ⟨_, rfl⟩
  go_wp2_with fail
  rw [← e2, ← hg0]
  have hB2 : Below w1.heap.size w1 W2 := by rw [e2]; exact below_alloc (Below.refl _ _)
  have a0 := cell_below hB2 a0
  have a1 := cell_below hB2 a1
  have hq1 := Lib.hid (show IsRat 0 W2 m1 1 from by have := hq1.below hB2; simpa using this)
  have o0 : W2.cell? ⟨g, 0, none⟩ = some (.bool m1.a.p) := by rw [e2, hg0]; simp [go_sem]
  have o1 : W2.cell? ⟨g, 1, none⟩ = some (.slice m1.a.A m1.a.n m1.a.c) := by rw [e2, hg0]; simp [go_sem]
  have o2 : W2.cell? ⟨g, 2, none⟩ = some (.bool m1.b.p) := by rw [e2, hg0]; simp [go_sem]
  have o3 : W2.cell? ⟨g, 3, none⟩ = some (.slice m1.b.A m1.b.n m1.b.c) := by rw [e2, hg0]; simp [go_sem]
  have B1 := Lib.hid (below_then B1.out hB2)
  have hgW : g < W2.heap.size := World.block_lt_of_cell? W2 _ o0
  have hwg : w.heap.size < g := by omega
  clear hB2 e2 hg0
  go_loopw [3, 18] (fun v q wr => ∃ (i : Nat) (rs : List CRow), i ≤ m ∧ q = .int .i64 (i : Int) ∧ Hid (wr.ownsRow W2.heap.size 53 3 v rs.length (flat encC rs)) ∧ Hid (RowsOk wr rs (consTo s i)) ∧ Below W2.heap.size W2 wr) (fun _ q _ => m - (intOf q).toNat)
  case atStart => exact ⟨0, [], Nat.zero_le _, rfl, Lib.hid (own_nil _ _ _ _), Lib.hid trivial, (by repeat (first | exact Below.refl _ _ | with_reducible assumption | apply below_alloc | apply below_drewN | apply below_drew | refine below_set ?_ (by simp; try omega) _ | refine below_then ?_ (by with_reducible assumption)))⟩
  case round =>
    obtain ⟨i, rs, hi, rfl, hown, hrows, hb⟩ := hrel
    have c0 := cell_below hb a0
    have c1 := cell_below hb a1
    have o0 := cell_below hb o0
    have o1 := cell_below hb o1
    have o2 := cell_below hb o2
    have o3 := cell_below hb o3
    have hsz := hb.size
    have hcnt : rs.length ≤ 64 := by have h1 := hrows.out.len; have h2 := consTo_len s i; omega
    by_cases hlt : i < m
    · obtain ⟨az, ez, z0, z1, z2, z3, z4⟩ := HY.out i hlt
      subst ez
      have B1w := below_then B1.out hb
      have z0 := cell_below B1w z0
      have z1 := cell_below B1w z1
      have z2 := cell_below B1w z2
      have z3 := cell_below B1w z3
      have z4 := cell_below B1w z4
      have hct : Hid (consTo s (i + 1) = consTo s i ++ consAt s (s.zs.getD i zd)) := Lib.hid rfl
      have hzo := hfine.out.zoneOk i (by rw [hlenz.out]; exact hlt)
      rw [hlen.out] at hzo
      generalize s.zs.getD i zd = z at z0 z1 z2 z3 z4 hct hzo
      obtain ⟨zk, zf, lo, up, bo⟩ := z
      obtain ⟨k1, k3, f0, fn, form, blo, bup, ord⟩ := hzo
      dsimp only at z0 z1 z2 z3 z4 k1 k3 f0 fn form blo bup ord
      obtain ⟨fe, rfl⟩ := Int.eq_ofNat_of_zero_le f0
      have hfe : fe < n := by omega
      have i0 : (0 : Int) ≤ (i : Int) := by omega
      have i1 : (i : Int) < (m : Int) := by omega
      have hlt1 := World.block_lt_of_cell? wr _ z0
      have hne1 : ¬ (az.add (i * 5)).block = wr.heap.size := Nat.ne_of_lt hlt1
      have hws : w.heap.size < wr.heap.size := by omega
      have hws' : ¬ w.heap.size = wr.heap.size := by omega
      clear HY
      cases bo
      · go_wp2_with fail
        go_roundw
        case rel => exact ⟨i + 1, rs, by omega, by go_num, Lib.hid (own_below hown.out (below_alloc (Below.refl _ _))), Lib.hid (by rw [hct.out]; simpa [consAt] using hrows.out.keeps (Keeps.of_below (below_alloc (Below.refl _ _)))), below_alloc hb⟩
        case measure => simp [intOf]; omega
      · obtain ⟨af, eaf, y0, y1, y2, y3, y4, y5⟩ := HF.out fe hfe
        subst eaf
        have y0 := cell_below B1w y0
        have y1 := cell_below B1w y1
        have y2 := cell_below B1w y2
        have y3 := cell_below B1w y3
        have y4 := cell_below B1w y4
        have y5 := cell_below B1w y5
        have hlt2 := World.block_lt_of_cell? wr _ y0
        have hne2 : ¬ (af.add (fe * 6)).block = wr.heap.size := Nat.ne_of_lt hlt2
        have hfo := hfine.out.featOk fe (by rw [hlen.out]; exact hfe)
        have hca : consAt s ⟨zk, (fe : Int), lo, up, true⟩ = [⟨(s.fs.getD fe fd).name ++ ⟨#[46, 97, 98, 111, 118, 101]⟩, ⟨(s.fs.getD fe fd).wide + ((zoneOf s.zs fe 2).getD zd).lower - (s.fs.getD fe fd).at_ - up, tm (two (indexOf s fe 1) 1 (indexOf s fe 2) (-1)) 48⟩⟩,
          ⟨(s.fs.getD fe fd).name ++ ⟨#[46, 98, 101, 108, 111, 119]⟩, ⟨(s.fs.getD fe fd).wide + ((zoneOf s.zs fe 2).getD zd).lower + (s.fs.getD fe fd).at_ + lo, tm (two (indexOf s fe 1) (-1) (indexOf s fe 2) (-1)) 48⟩⟩] := by
          unfold consAt
          simp
        have hpw := index_ne (s := s) (fe := fe) (by rw [hlen.out]; exact hfe)
        have hp48 := index_lt hfine.out fe 1
        have hw48 := index_lt hfine.out fe 2
        have HI1 := Lib.hid (HI.out fe 1)
        have HI2 := Lib.hid (HI.out fe 2)
        have HZ2 := Lib.hid (HZ.out fe 2)
        have bw := hfine.out.bounds fe 2
        generalize indexOf s fe 1 = p at hca hpw HI1 hp48
        generalize indexOf s fe 2 = wi at hca hpw HI2 hw48
        generalize (zoneOf s.zs fe 2).getD zd = y at hca bw HZ2
        generalize s.fs.getD fe fd = f at y0 y1 y2 y3 y4 y5 hca hfo
        obtain ⟨name, kind, axis, datum, at_, wide⟩ := f
        obtain ⟨yk, yf, yl, yu, yb⟩ := y
        dsimp only at y0 y1 y2 y3 y4 y5 bw HZ2 hca hfo
        obtain ⟨bw1, bw2, _, _⟩ := bw
        obtain ⟨nat1, nat2⟩ := hfo.at_
        obtain ⟨nw1, nw2⟩ := hfo.wide
        have hnm := hfo.len
        dsimp only at nat1 nat2 nw1 nw2 hnm
        have f1 : (fe : Int) < (n : Int) := by omega
        rw [hca] at hct
        clear HI HZ HF hca hfo
        go_wp2_with fail
        refine (HZ2.out _ (by repeat (first | exact Below.refl _ _ | with_reducible assumption | apply below_alloc | apply below_drewN | apply below_drew | refine below_set ?_ (by simp; try omega) _ | refine below_then ?_ (by with_reducible assumption)))).mono ?_
        rintro e w3 ⟨rfl, hb3⟩
        have t0 := keptc hb3 (wr.heap.size) 0 (.int .i64 zk) (by first | with_reducible assumption | (simp [go_sem]; done)); have t1 := keptc hb3 (wr.heap.size) 1 (.int .i64 (fe : Int)) (by first | with_reducible assumption | (simp [go_sem]; done)); have t2 := keptc hb3 (wr.heap.size) 2 (.int .i64 lo) (by first | with_reducible assumption | (simp [go_sem]; done)); have t3 := keptc hb3 (wr.heap.size) 3 (.int .i64 up) (by first | with_reducible assumption | (simp [go_sem]; done)); have t4 := keptc hb3 (wr.heap.size) 4 (.bool true) (by first | with_reducible assumption | (simp [go_sem]; done)); have ft0 := keptF hb3 (g := wr.heap.size) (o := 0) (v := .int .i64 zk) (by first | with_reducible assumption | (simp [go_sem]; done)) (by first | with_reducible assumption | (simp [go_sem]; done)); have ft1 := keptF hb3 (g := wr.heap.size) (o := 1) (v := .int .i64 (fe : Int)) (by first | with_reducible assumption | (simp [go_sem]; done)) (by first | with_reducible assumption | (simp [go_sem]; done)); have ft2 := keptF hb3 (g := wr.heap.size) (o := 2) (v := .int .i64 lo) (by first | with_reducible assumption | (simp [go_sem]; done)) (by first | with_reducible assumption | (simp [go_sem]; done)); have ft3 := keptF hb3 (g := wr.heap.size) (o := 3) (v := .int .i64 up) (by first | with_reducible assumption | (simp [go_sem]; done)) (by first | with_reducible assumption | (simp [go_sem]; done)); have ft4 := keptF hb3 (g := wr.heap.size) (o := 4) (v := .bool true) (by first | with_reducible assumption | (simp [go_sem]; done)) (by first | with_reducible assumption | (simp [go_sem]; done))
        have v0 := keptc hb3 (wr.heap.size + 1) 0 (.string name) (by first | with_reducible assumption | (simp [go_sem]; done)); have v1 := keptc hb3 (wr.heap.size + 1) 1 (.int .i64 kind) (by first | with_reducible assumption | (simp [go_sem]; done)); have v2 := keptc hb3 (wr.heap.size + 1) 2 (.int .i64 axis) (by first | with_reducible assumption | (simp [go_sem]; done)); have v3 := keptc hb3 (wr.heap.size + 1) 3 (.int .i64 datum) (by first | with_reducible assumption | (simp [go_sem]; done)); have v4 := keptc hb3 (wr.heap.size + 1) 4 (.int .i64 at_) (by first | with_reducible assumption | (simp [go_sem]; done)); have v5 := keptc hb3 (wr.heap.size + 1) 5 (.int .i64 wide) (by first | with_reducible assumption | (simp [go_sem]; done)); have fv0 := keptF hb3 (g := wr.heap.size + 1) (o := 0) (v := .string name) (by first | with_reducible assumption | (simp [go_sem]; done)) (by first | with_reducible assumption | (simp [go_sem]; done)); have fv1 := keptF hb3 (g := wr.heap.size + 1) (o := 1) (v := .int .i64 kind) (by first | with_reducible assumption | (simp [go_sem]; done)) (by first | with_reducible assumption | (simp [go_sem]; done)); have fv2 := keptF hb3 (g := wr.heap.size + 1) (o := 2) (v := .int .i64 axis) (by first | with_reducible assumption | (simp [go_sem]; done)) (by first | with_reducible assumption | (simp [go_sem]; done)); have fv3 := keptF hb3 (g := wr.heap.size + 1) (o := 3) (v := .int .i64 datum) (by first | with_reducible assumption | (simp [go_sem]; done)) (by first | with_reducible assumption | (simp [go_sem]; done)); have fv4 := keptF hb3 (g := wr.heap.size + 1) (o := 4) (v := .int .i64 at_) (by first | with_reducible assumption | (simp [go_sem]; done)) (by first | with_reducible assumption | (simp [go_sem]; done)); have fv5 := keptF hb3 (g := wr.heap.size + 1) (o := 5) (v := .int .i64 wide) (by first | with_reducible assumption | (simp [go_sem]; done)) (by first | with_reducible assumption | (simp [go_sem]; done))
        have B3 := below_then (w := wr) (by repeat (first | exact Below.refl _ _ | apply below_alloc | apply below_drewN | apply below_drew)) hb3
        have c0 := cell_below B3 c0
        have c1 := cell_below B3 c1
        have o0 := cell_below B3 o0
        have o1 := cell_below B3 o1
        have o2 := cell_below B3 o2
        have o3 := cell_below B3 o3
        have O := Lib.hid (own_below hown.out B3)
        have R := Lib.hid (hrows.out.keeps (Keeps.of_below B3))
        have B := Lib.hid (below_then hb B3)
        have hk5 := Lib.hid (fun k hk => And.intro (own_base hown.out k hk) (own_lt hown.out k hk))
        have hs3 : wr.heap.size + 1 < w3.heap.size := World.block_lt_of_cell? w3 _ v0
        clear hb3 B3 hown hrows hb y0 y1 y2 y3 y4 y5 z0 z1 z2 z3 z4 HZ2 B1w ft0 ft1 ft2 ft3 ft4 fv0 fv1 fv2 fv3 fv4 fv5
        go_wp2_with fail
        go_region_held3 (fun w' => w'.cell? ⟨w.heap.size, 0, none⟩ = some (.slice (some af) n c) ∧ w'.cell? ⟨w.heap.size, 1, none⟩ = some (.slice (some az) m d) ∧ w'.cell? ⟨wr.heap.size, 1, none⟩ = some (.int .i64 (fe : Int)))
          (first
            | exact ⟨cell_below B6 c0, cell_below B6 c1, cell_below B6 t1⟩
            | exact ⟨cell_below B5 c0, cell_below B5 c1, cell_below B5 t1⟩
            | exact ⟨c0, c1, t1⟩)
          (first
            | (go_at_call 42; with_reducible refine (HI1.out _ ?hb9).mono ?_; (case hb9 => exact below_then B1.out (below_then B.out (below_drew (Below.refl _ _)))); rintro e w5 ⟨rfl, hb5⟩; have B5 := below_then (w := w3) (by repeat (first | exact Below.refl _ _ | apply below_alloc | apply below_drewN | apply below_drew)) hb5; clear hb5)
            | (go_at_call 42; with_reducible refine (HI2.out _ ?hb9).mono ?_; (case hb9 => exact below_then B1.out (below_then B.out B5)); rintro e w6 ⟨rfl, hb6⟩; have B6 := below_then B5 hb6; clear hb6))
        have t1 := cell_below B6 t1
        have t2 := cell_below B6 t2
        have t3 := cell_below B6 t3
        have v0 := cell_below B6 v0
        have v4 := cell_below B6 v4
        have v5 := cell_below B6 v5
        have c0 := cell_below B6 c0
        have c1 := cell_below B6 c1
        have o0 := cell_below B6 o0
        have o1 := cell_below B6 o1
        have o2 := cell_below B6 o2
        have o3 := cell_below B6 o3
        have O := Lib.hid (own_below O.out B6)
        have R := Lib.hid (R.out.keeps (Keeps.of_below B6))
        have B := Lib.hid (below_then B.out B6)
        have hq1h := hq1
        have hq1 := hq1h.out.below B.out
        have HN := Lib.hid (fun W (hW : Below w6.heap.size w6 W) => rNeg_any 0 m1 1 W (Nat.zero_le _) (hq1.below hW) (Nat.le_trans limR_one (by decide)))
        clear B6
        go_wp2_with fail
        go_cut [12] (fun u12 wx => ∃ (b : Nat) (l : List Fac), u12 = .map (some b) ∧ Hid (IsFac 0 wx b l) ∧ Hid (numAt l = two p 1 wi (-1)) ∧ Below w6.heap.size w6 wx)
        case first =>
          refine wp_region_held_drew (S := fun w' => w'.cell? ⟨g, 0, none⟩ = some (.bool m1.a.p) ∧ w'.cell? ⟨g, 1, none⟩ = some (.slice m1.a.A m1.a.n m1.a.c) ∧ w'.cell? ⟨g, 2, none⟩ = some (.bool m1.b.p) ∧ w'.cell? ⟨g, 3, none⟩ = some (.slice m1.b.A m1.b.n m1.b.c)) (by kernel_rfl) ⟨o0, o1, o2, o3⟩ (fun hHeld => ?_)
          (refine wpAnyH_take (i := 1) (v := ?_) rfl (by kernel_rfl) (by kernel_rfl) (by kernel_rfl) (fun _ _ _ h => h) (Or.inl ⟨by rfl, ?_⟩) (by assumption) ?_; rotate_left 1; (focus (intro w hSw; (try dsimp only at hSw); (try simp only [List.getElem_toArray, List.getElem_cons_zero, List.getElem_cons_succ]); go_simp; (try with_reducible rfl))); (try simp only [Act.put, List.setIfInBounds_toArray, List.set_cons_zero, List.set_cons_succ, List.getElem_toArray, List.getElem_cons_zero, List.getElem_cons_succ])); (refine wpAnyH_take (i := 2) (v := ?_) rfl (by kernel_rfl) (by kernel_rfl) (by kernel_rfl) (fun _ _ _ h => h) (Or.inl ⟨by rfl, ?_⟩) (by assumption) ?_; rotate_left 1; (focus (intro w hSw; (try dsimp only at hSw); (try simp only [List.getElem_toArray, List.getElem_cons_zero, List.getElem_cons_succ]); go_simp; (try with_reducible rfl))); (try simp only [Act.put, List.setIfInBounds_toArray, List.set_cons_zero, List.set_cons_succ, List.getElem_toArray, List.getElem_cons_zero, List.getElem_cons_succ])); (refine wpAnyH_take (i := 4) (v := ?_) rfl (by kernel_rfl) (by kernel_rfl) (by kernel_rfl) (fun _ _ _ h => h) (Or.inl ⟨by rfl, ?_⟩) (by assumption) ?_; rotate_left 1; (focus (intro w hSw; (try dsimp only at hSw); (try simp only [List.getElem_toArray, List.getElem_cons_zero, List.getElem_cons_succ]); go_simp; (try with_reducible rfl))); (try simp only [Act.put, List.setIfInBounds_toArray, List.set_cons_zero, List.set_cons_succ, List.getElem_toArray, List.getElem_cons_zero, List.getElem_cons_succ])); (refine wpAnyH_take (i := 5) (v := ?_) rfl (by kernel_rfl) (by kernel_rfl) (by kernel_rfl) (fun _ _ _ h => h) (Or.inl ⟨by rfl, ?_⟩) (by assumption) ?_; rotate_left 1; (focus (intro w hSw; (try dsimp only at hSw); (try simp only [List.getElem_toArray, List.getElem_cons_zero, List.getElem_cons_succ]); go_simp; (try with_reducible rfl))); (try simp only [Act.put, List.setIfInBounds_toArray, List.set_cons_zero, List.set_cons_succ, List.getElem_toArray, List.getElem_cons_zero, List.getElem_cons_succ]))
          have B0 : Below w6.heap.size w6 w6.drew := below_drew (Below.refl _ _)
          refine wpAnyH_ready (rs := [0, 6]) (by kernel_rfl) (by simp) (AllReadyH.cons rfl (fun K hK => ?g1x0) (AllReadyH.cons rfl (fun K hK => ?g1x6) AllReadyH.nil))
          case g1x0 =>
            (try simp only [List.getElem_toArray, List.getElem_cons_zero, List.getElem_cons_succ])
            go_simp
            obtain ⟨wm4, e5⟩ : ∃ W9 : World, W9 = w6.drew.alloc (.map #[] 0) := ⟨_, rfl⟩
            show K _ (w6.drew.alloc (.map #[] 0))
            rw [← e5]
            have B2 : Below w6.heap.size w6 wm4 := by rw [e5]; exact below_alloc B0
            have M3 : MapIs wm4 (w6.heap.size) [] := by rw [e5]; exact ⟨#[], 0, heap_alloc_new _ _, rfl⟩
            have hbb : w6.heap.size ≤ (w6.heap.size) := B0.size
            clear e5
            (refine hK.out _ _ ?_ (fun hHeld => ?_); (focus (exact ⟨cell_below B2 o0, cell_below B2 o1, cell_below B2 o2, cell_below B2 o3⟩)); clear hK K; (try simp only [Act.put, List.setIfInBounds_toArray, List.set_cons_zero, List.set_cons_succ, List.getElem_toArray, List.getElem_cons_zero, List.getElem_cons_succ]))
            refine wpAnyH_ready (rs := [3, 6]) (by kernel_rfl) (by simp) (AllReadyH.cons rfl (fun K hK => ?g6x3) (AllReadyH.cons rfl (fun K hK => ?g6x6) AllReadyH.nil))
            case g6x3 =>
              (try simp only [List.getElem_toArray, List.getElem_cons_zero, List.getElem_cons_succ])
              obtain ⟨es7, c8, e9, f10⟩ := M3
              have hn11 := ins_int un_map un_int e9 (MapIs.keys (w := wm4) f10) p (ratV m1) (mget_none f10 _ (by simp))
              obtain ⟨wi12, e13⟩ : ∃ W9 : World, W9 = setBlock wm4 (w6.heap.size) (.map (es7.push { key := .int .i64 (p), val := ratV m1, born := c8 }) (c8 + 1)) := ⟨_, rfl⟩
              rw [← e13] at hn11
              replace e13 := Lib.hid e13
              simp only [ratV] at hn11
              go_simp
              have B14 : Below w6.heap.size w6 wi12 := by rw [e13.out]; exact below_setBlock B2 e9 hbb _
              have M15 : MapIs wi12 (w6.heap.size) [⟨p, m1, 1⟩] := by rw [e13.out]; exact MapIs.pushed e9 f10 ⟨p, m1, 1⟩
              clear e13 hn11
              (refine hK.out _ _ ?_ (fun hHeld => ?_); (focus (exact ⟨cell_below B14 o0, cell_below B14 o1, cell_below B14 o2, cell_below B14 o3⟩)); clear hK K; (try simp only [Act.put, List.setIfInBounds_toArray, List.set_cons_zero, List.set_cons_succ, List.getElem_toArray, List.getElem_cons_zero, List.getElem_cons_succ]))
              refine wpAnyH_ready (rs := [6]) (by kernel_rfl) (by simp) (AllReadyH.cons rfl (fun K hK => ?g16x6) AllReadyH.nil)
              case g16x6 =>
                (try simp only [List.getElem_toArray, List.getElem_cons_zero, List.getElem_cons_succ])
                go_simp
                refine (HN.out _ B14).mono ?_
                intro e wn18 hret
                unfold RetRat at hret
                obtain ⟨m2, rfl, q19, hb20⟩ := hret
                have B17 := below_then B14 hb20
                have M21 := M15.below hb20
                go_wp2_with fail
                (refine hK.out _ _ ?_ (fun hHeld => ?_); (focus (exact ⟨cell_below B17 o0, cell_below B17 o1, cell_below B17 o2, cell_below B17 o3⟩)); clear hK K; (try simp only [Act.put, List.setIfInBounds_toArray, List.set_cons_zero, List.set_cons_succ, List.getElem_toArray, List.getElem_cons_zero, List.getElem_cons_succ]))
                refine wpAnyH_ready (rs := [7]) (by kernel_rfl) (by simp) (AllReadyH.cons rfl (fun K hK => ?g22x7) AllReadyH.nil)
                case g22x7 =>
                  (try simp only [List.getElem_toArray, List.getElem_cons_zero, List.getElem_cons_succ])
                  obtain ⟨es23, c24, e25, f26⟩ := M21
                  have hn27 := ins_int un_map un_int e25 (MapIs.keys (w := wn18) f26) wi (ratV m2) (mget_none f26 _ (fun f hf => by simp only [List.mem_cons, List.not_mem_nil, or_false] at hf; subst hf; exact hpw))
                  obtain ⟨wi28, e29⟩ : ∃ W9 : World, W9 = setBlock wn18 (w6.heap.size) (.map (es23.push { key := .int .i64 (wi), val := ratV m2, born := c24 }) (c24 + 1)) := ⟨_, rfl⟩
                  rw [← e29] at hn27
                  replace e29 := Lib.hid e29
                  simp only [ratV] at hn27
                  go_simp
                  have B30 : Below w6.heap.size w6 wi28 := by rw [e29.out]; exact below_setBlock B17 e25 hbb _
                  have M31 : MapIs wi28 (w6.heap.size) [⟨p, m1, 1⟩, ⟨wi, m2, (-1)⟩] := by rw [e29.out]; exact MapIs.pushed e25 f26 ⟨wi, m2, (-1)⟩
                  have q32 := q19.keeps (show Keeps 0 137 wn18 wi28 from by rw [e29.out]; exact keeps_setBlock e25 _ _)
                  clear e29 hn27
                  (refine hK.out _ _ ?_ (fun hHeld => ?_); (focus (exact ⟨cell_below B30 o0, cell_below B30 o1, cell_below B30 o2, cell_below B30 o3⟩)); clear hK K; (try simp only [Act.put, List.setIfInBounds_toArray, List.set_cons_zero, List.set_cons_succ, List.getElem_toArray, List.getElem_cons_zero, List.getElem_cons_succ]))
                  (refine wpAnyH_take (i := 8) (v := ?_) rfl (by kernel_rfl) (by kernel_rfl) (by kernel_rfl) (fun _ _ _ h => h) (Or.inl ⟨by rfl, ?_⟩) (by assumption) ?_; rotate_left 1; (focus (intro w hSw; (try dsimp only at hSw); (try simp only [List.getElem_toArray, List.getElem_cons_zero, List.getElem_cons_succ]); go_simp; (try with_reducible rfl))); (try simp only [Act.put, List.setIfInBounds_toArray, List.set_cons_zero, List.set_cons_succ, List.getElem_toArray, List.getElem_cons_zero, List.getElem_cons_succ])); (refine wpAnyH_take (i := 9) (v := ?_) rfl (by kernel_rfl) (by kernel_rfl) (by kernel_rfl) (fun _ _ _ h => h) (Or.inl ⟨by rfl, ?_⟩) (by assumption) ?_; rotate_left 1; (focus (intro w hSw; (try dsimp only at hSw); (try simp only [List.getElem_toArray, List.getElem_cons_zero, List.getElem_cons_succ]); go_simp; (try with_reducible rfl))); (try simp only [Act.put, List.setIfInBounds_toArray, List.set_cons_zero, List.set_cons_succ, List.getElem_toArray, List.getElem_cons_zero, List.getElem_cons_succ]))
                  refine wpAnyH_done (by kernel_rfl) ?_ _
                  go_wp2_with fail
                  go_meet
                  exact ⟨_, [⟨p, m1, 1⟩, ⟨wi, m2, (-1)⟩], rfl, Lib.hid (fac_two M31 (hq1.below B30) q32 den_one den_neg1 limR_one limR_neg1), Lib.hid (numAt_two _ _ hpw), B30⟩
            case g6x6 =>
              (try simp only [List.getElem_toArray, List.getElem_cons_zero, List.getElem_cons_succ])
              go_simp
              refine (HN.out _ B2).mono ?_
              intro e wn34 hret
              unfold RetRat at hret
              obtain ⟨m2, rfl, q35, hb36⟩ := hret
              have B33 := below_then B2 hb36
              have M37 := M3.below hb36
              go_wp2_with fail
              (refine hK.out _ _ ?_ (fun hHeld => ?_); (focus (exact ⟨cell_below B33 o0, cell_below B33 o1, cell_below B33 o2, cell_below B33 o3⟩)); clear hK K; (try simp only [Act.put, List.setIfInBounds_toArray, List.set_cons_zero, List.set_cons_succ, List.getElem_toArray, List.getElem_cons_zero, List.getElem_cons_succ]))
              refine wpAnyH_ready (rs := [3, 7]) (by kernel_rfl) (by simp) (AllReadyH.cons rfl (fun K hK => ?g38x3) (AllReadyH.cons rfl (fun K hK => ?g38x7) AllReadyH.nil))
              case g38x3 =>
                (try simp only [List.getElem_toArray, List.getElem_cons_zero, List.getElem_cons_succ])
                obtain ⟨es39, c40, e41, f42⟩ := M37
                have hn43 := ins_int un_map un_int e41 (MapIs.keys (w := wn34) f42) p (ratV m1) (mget_none f42 _ (by simp))
                obtain ⟨wi44, e45⟩ : ∃ W9 : World, W9 = setBlock wn34 (w6.heap.size) (.map (es39.push { key := .int .i64 (p), val := ratV m1, born := c40 }) (c40 + 1)) := ⟨_, rfl⟩
                rw [← e45] at hn43
                replace e45 := Lib.hid e45
                simp only [ratV] at hn43
                go_simp
                have B46 : Below w6.heap.size w6 wi44 := by rw [e45.out]; exact below_setBlock B33 e41 hbb _
                have M47 : MapIs wi44 (w6.heap.size) [⟨p, m1, 1⟩] := by rw [e45.out]; exact MapIs.pushed e41 f42 ⟨p, m1, 1⟩
                have q48 := q35.keeps (show Keeps 0 137 wn34 wi44 from by rw [e45.out]; exact keeps_setBlock e41 _ _)
                clear e45 hn43
                (refine hK.out _ _ ?_ (fun hHeld => ?_); (focus (exact ⟨cell_below B46 o0, cell_below B46 o1, cell_below B46 o2, cell_below B46 o3⟩)); clear hK K; (try simp only [Act.put, List.setIfInBounds_toArray, List.set_cons_zero, List.set_cons_succ, List.getElem_toArray, List.getElem_cons_zero, List.getElem_cons_succ]))
                refine wpAnyH_ready (rs := [7]) (by kernel_rfl) (by simp) (AllReadyH.cons rfl (fun K hK => ?g49x7) AllReadyH.nil)
                case g49x7 =>
                  (try simp only [List.getElem_toArray, List.getElem_cons_zero, List.getElem_cons_succ])
                  obtain ⟨es50, c51, e52, f53⟩ := M47
                  have hn54 := ins_int un_map un_int e52 (MapIs.keys (w := wi44) f53) wi (ratV m2) (mget_none f53 _ (fun f hf => by simp only [List.mem_cons, List.not_mem_nil, or_false] at hf; subst hf; exact hpw))
                  obtain ⟨wi55, e56⟩ : ∃ W9 : World, W9 = setBlock wi44 (w6.heap.size) (.map (es50.push { key := .int .i64 (wi), val := ratV m2, born := c51 }) (c51 + 1)) := ⟨_, rfl⟩
                  rw [← e56] at hn54
                  replace e56 := Lib.hid e56
                  simp only [ratV] at hn54
                  go_simp
                  have B57 : Below w6.heap.size w6 wi55 := by rw [e56.out]; exact below_setBlock B46 e52 hbb _
                  have M58 : MapIs wi55 (w6.heap.size) [⟨p, m1, 1⟩, ⟨wi, m2, (-1)⟩] := by rw [e56.out]; exact MapIs.pushed e52 f53 ⟨wi, m2, (-1)⟩
                  have q59 := q48.keeps (show Keeps 0 137 wi44 wi55 from by rw [e56.out]; exact keeps_setBlock e52 _ _)
                  clear e56 hn54
                  (refine hK.out _ _ ?_ (fun hHeld => ?_); (focus (exact ⟨cell_below B57 o0, cell_below B57 o1, cell_below B57 o2, cell_below B57 o3⟩)); clear hK K; (try simp only [Act.put, List.setIfInBounds_toArray, List.set_cons_zero, List.set_cons_succ, List.getElem_toArray, List.getElem_cons_zero, List.getElem_cons_succ]))
                  (refine wpAnyH_take (i := 8) (v := ?_) rfl (by kernel_rfl) (by kernel_rfl) (by kernel_rfl) (fun _ _ _ h => h) (Or.inl ⟨by rfl, ?_⟩) (by assumption) ?_; rotate_left 1; (focus (intro w hSw; (try dsimp only at hSw); (try simp only [List.getElem_toArray, List.getElem_cons_zero, List.getElem_cons_succ]); go_simp; (try with_reducible rfl))); (try simp only [Act.put, List.setIfInBounds_toArray, List.set_cons_zero, List.set_cons_succ, List.getElem_toArray, List.getElem_cons_zero, List.getElem_cons_succ])); (refine wpAnyH_take (i := 9) (v := ?_) rfl (by kernel_rfl) (by kernel_rfl) (by kernel_rfl) (fun _ _ _ h => h) (Or.inl ⟨by rfl, ?_⟩) (by assumption) ?_; rotate_left 1; (focus (intro w hSw; (try dsimp only at hSw); (try simp only [List.getElem_toArray, List.getElem_cons_zero, List.getElem_cons_succ]); go_simp; (try with_reducible rfl))); (try simp only [Act.put, List.setIfInBounds_toArray, List.set_cons_zero, List.set_cons_succ, List.getElem_toArray, List.getElem_cons_zero, List.getElem_cons_succ]))
                  refine wpAnyH_done (by kernel_rfl) ?_ _
                  go_wp2_with fail
                  go_meet
                  exact ⟨_, [⟨p, m1, 1⟩, ⟨wi, m2, (-1)⟩], rfl, Lib.hid (fac_two M58 (hq1.below B57) q59 den_one den_neg1 limR_one limR_neg1), Lib.hid (numAt_two _ _ hpw), B57⟩
              case g38x7 =>
                (try simp only [List.getElem_toArray, List.getElem_cons_zero, List.getElem_cons_succ])
                obtain ⟨es60, c61, e62, f63⟩ := M37
                have hn64 := ins_int un_map un_int e62 (MapIs.keys (w := wn34) f63) wi (ratV m2) (mget_none f63 _ (by simp))
                obtain ⟨wi65, e66⟩ : ∃ W9 : World, W9 = setBlock wn34 (w6.heap.size) (.map (es60.push { key := .int .i64 (wi), val := ratV m2, born := c61 }) (c61 + 1)) := ⟨_, rfl⟩
                rw [← e66] at hn64
                replace e66 := Lib.hid e66
                simp only [ratV] at hn64
                go_simp
                have B67 : Below w6.heap.size w6 wi65 := by rw [e66.out]; exact below_setBlock B33 e62 hbb _
                have M68 : MapIs wi65 (w6.heap.size) [⟨wi, m2, (-1)⟩] := by rw [e66.out]; exact MapIs.pushed e62 f63 ⟨wi, m2, (-1)⟩
                have q69 := q35.keeps (show Keeps 0 137 wn34 wi65 from by rw [e66.out]; exact keeps_setBlock e62 _ _)
                clear e66 hn64
                (refine hK.out _ _ ?_ (fun hHeld => ?_); (focus (exact ⟨cell_below B67 o0, cell_below B67 o1, cell_below B67 o2, cell_below B67 o3⟩)); clear hK K; (try simp only [Act.put, List.setIfInBounds_toArray, List.set_cons_zero, List.set_cons_succ, List.getElem_toArray, List.getElem_cons_zero, List.getElem_cons_succ]))
                refine wpAnyH_ready (rs := [3]) (by kernel_rfl) (by simp) (AllReadyH.cons rfl (fun K hK => ?g70x3) AllReadyH.nil)
                case g70x3 =>
                  (try simp only [List.getElem_toArray, List.getElem_cons_zero, List.getElem_cons_succ])
                  obtain ⟨es71, c72, e73, f74⟩ := M68
                  have hn75 := ins_int un_map un_int e73 (MapIs.keys (w := wi65) f74) p (ratV m1) (mget_none f74 _ (fun f hf => by simp only [List.mem_cons, List.not_mem_nil, or_false] at hf; subst hf; exact Ne.symm hpw))
                  obtain ⟨wi76, e77⟩ : ∃ W9 : World, W9 = setBlock wi65 (w6.heap.size) (.map (es71.push { key := .int .i64 (p), val := ratV m1, born := c72 }) (c72 + 1)) := ⟨_, rfl⟩
                  rw [← e77] at hn75
                  replace e77 := Lib.hid e77
                  simp only [ratV] at hn75
                  go_simp
                  have B78 : Below w6.heap.size w6 wi76 := by rw [e77.out]; exact below_setBlock B67 e73 hbb _
                  have M79 : MapIs wi76 (w6.heap.size) [⟨wi, m2, (-1)⟩, ⟨p, m1, 1⟩] := by rw [e77.out]; exact MapIs.pushed e73 f74 ⟨p, m1, 1⟩
                  have q80 := q69.keeps (show Keeps 0 137 wi65 wi76 from by rw [e77.out]; exact keeps_setBlock e73 _ _)
                  clear e77 hn75
                  (refine hK.out _ _ ?_ (fun hHeld => ?_); (focus (exact ⟨cell_below B78 o0, cell_below B78 o1, cell_below B78 o2, cell_below B78 o3⟩)); clear hK K; (try simp only [Act.put, List.setIfInBounds_toArray, List.set_cons_zero, List.set_cons_succ, List.getElem_toArray, List.getElem_cons_zero, List.getElem_cons_succ]))
                  (refine wpAnyH_take (i := 8) (v := ?_) rfl (by kernel_rfl) (by kernel_rfl) (by kernel_rfl) (fun _ _ _ h => h) (Or.inl ⟨by rfl, ?_⟩) (by assumption) ?_; rotate_left 1; (focus (intro w hSw; (try dsimp only at hSw); (try simp only [List.getElem_toArray, List.getElem_cons_zero, List.getElem_cons_succ]); go_simp; (try with_reducible rfl))); (try simp only [Act.put, List.setIfInBounds_toArray, List.set_cons_zero, List.set_cons_succ, List.getElem_toArray, List.getElem_cons_zero, List.getElem_cons_succ])); (refine wpAnyH_take (i := 9) (v := ?_) rfl (by kernel_rfl) (by kernel_rfl) (by kernel_rfl) (fun _ _ _ h => h) (Or.inl ⟨by rfl, ?_⟩) (by assumption) ?_; rotate_left 1; (focus (intro w hSw; (try dsimp only at hSw); (try simp only [List.getElem_toArray, List.getElem_cons_zero, List.getElem_cons_succ]); go_simp; (try with_reducible rfl))); (try simp only [Act.put, List.setIfInBounds_toArray, List.set_cons_zero, List.set_cons_succ, List.getElem_toArray, List.getElem_cons_zero, List.getElem_cons_succ]))
                  refine wpAnyH_done (by kernel_rfl) ?_ _
                  go_wp2_with fail
                  go_meet
                  exact ⟨_, [⟨wi, m2, (-1)⟩, ⟨p, m1, 1⟩], rfl, Lib.hid (fac_two M79 q80 (hq1.below B78) den_neg1 den_one limR_neg1 limR_one), Lib.hid ((numAt_two _ _ (Ne.symm hpw)).trans (two_comm _ _ _ _ (Ne.symm hpw))), B78⟩
          case g1x6 =>
            (try simp only [List.getElem_toArray, List.getElem_cons_zero, List.getElem_cons_succ])
            go_simp
            refine (HN.out _ B0).mono ?_
            intro e wn82 hret
            unfold RetRat at hret
            obtain ⟨m2, rfl, q83, hb84⟩ := hret
            have B81 := below_then B0 hb84
            go_wp2_with fail
            (refine hK.out _ _ ?_ (fun hHeld => ?_); (focus (exact ⟨cell_below B81 o0, cell_below B81 o1, cell_below B81 o2, cell_below B81 o3⟩)); clear hK K; (try simp only [Act.put, List.setIfInBounds_toArray, List.set_cons_zero, List.set_cons_succ, List.getElem_toArray, List.getElem_cons_zero, List.getElem_cons_succ]))
            refine wpAnyH_ready (rs := [0]) (by kernel_rfl) (by simp) (AllReadyH.cons rfl (fun K hK => ?g85x0) AllReadyH.nil)
            case g85x0 =>
              (try simp only [List.getElem_toArray, List.getElem_cons_zero, List.getElem_cons_succ])
              go_simp
              obtain ⟨wm88, e89⟩ : ∃ W9 : World, W9 = wn82.alloc (.map #[] 0) := ⟨_, rfl⟩
              show K _ (wn82.alloc (.map #[] 0))
              rw [← e89]
              have B86 : Below w6.heap.size w6 wm88 := by rw [e89]; exact below_alloc B81
              have M87 : MapIs wm88 (wn82.heap.size) [] := by rw [e89]; exact ⟨#[], 0, heap_alloc_new _ _, rfl⟩
              have hbb : w6.heap.size ≤ (wn82.heap.size) := B81.size
              have q90 := q83.below (show Below wn82.heap.size wn82 wm88 from by rw [e89]; exact below_alloc (Below.refl _ _))
              clear e89
              (refine hK.out _ _ ?_ (fun hHeld => ?_); (focus (exact ⟨cell_below B86 o0, cell_below B86 o1, cell_below B86 o2, cell_below B86 o3⟩)); clear hK K; (try simp only [Act.put, List.setIfInBounds_toArray, List.set_cons_zero, List.set_cons_succ, List.getElem_toArray, List.getElem_cons_zero, List.getElem_cons_succ]))
              refine wpAnyH_ready (rs := [3, 7]) (by kernel_rfl) (by simp) (AllReadyH.cons rfl (fun K hK => ?g91x3) (AllReadyH.cons rfl (fun K hK => ?g91x7) AllReadyH.nil))
              case g91x3 =>
                (try simp only [List.getElem_toArray, List.getElem_cons_zero, List.getElem_cons_succ])
                obtain ⟨es92, c93, e94, f95⟩ := M87
                have hn96 := ins_int un_map un_int e94 (MapIs.keys (w := wm88) f95) p (ratV m1) (mget_none f95 _ (by simp))
                obtain ⟨wi97, e98⟩ : ∃ W9 : World, W9 = setBlock wm88 (wn82.heap.size) (.map (es92.push { key := .int .i64 (p), val := ratV m1, born := c93 }) (c93 + 1)) := ⟨_, rfl⟩
                rw [← e98] at hn96
                replace e98 := Lib.hid e98
                simp only [ratV] at hn96
                go_simp
                have B99 : Below w6.heap.size w6 wi97 := by rw [e98.out]; exact below_setBlock B86 e94 hbb _
                have M100 : MapIs wi97 (wn82.heap.size) [⟨p, m1, 1⟩] := by rw [e98.out]; exact MapIs.pushed e94 f95 ⟨p, m1, 1⟩
                have q101 := q90.keeps (show Keeps 0 137 wm88 wi97 from by rw [e98.out]; exact keeps_setBlock e94 _ _)
                clear e98 hn96
                (refine hK.out _ _ ?_ (fun hHeld => ?_); (focus (exact ⟨cell_below B99 o0, cell_below B99 o1, cell_below B99 o2, cell_below B99 o3⟩)); clear hK K; (try simp only [Act.put, List.setIfInBounds_toArray, List.set_cons_zero, List.set_cons_succ, List.getElem_toArray, List.getElem_cons_zero, List.getElem_cons_succ]))
                refine wpAnyH_ready (rs := [7]) (by kernel_rfl) (by simp) (AllReadyH.cons rfl (fun K hK => ?g102x7) AllReadyH.nil)
                case g102x7 =>
                  (try simp only [List.getElem_toArray, List.getElem_cons_zero, List.getElem_cons_succ])
                  obtain ⟨es103, c104, e105, f106⟩ := M100
                  have hn107 := ins_int un_map un_int e105 (MapIs.keys (w := wi97) f106) wi (ratV m2) (mget_none f106 _ (fun f hf => by simp only [List.mem_cons, List.not_mem_nil, or_false] at hf; subst hf; exact hpw))
                  obtain ⟨wi108, e109⟩ : ∃ W9 : World, W9 = setBlock wi97 (wn82.heap.size) (.map (es103.push { key := .int .i64 (wi), val := ratV m2, born := c104 }) (c104 + 1)) := ⟨_, rfl⟩
                  rw [← e109] at hn107
                  replace e109 := Lib.hid e109
                  simp only [ratV] at hn107
                  go_simp
                  have B110 : Below w6.heap.size w6 wi108 := by rw [e109.out]; exact below_setBlock B99 e105 hbb _
                  have M111 : MapIs wi108 (wn82.heap.size) [⟨p, m1, 1⟩, ⟨wi, m2, (-1)⟩] := by rw [e109.out]; exact MapIs.pushed e105 f106 ⟨wi, m2, (-1)⟩
                  have q112 := q101.keeps (show Keeps 0 137 wi97 wi108 from by rw [e109.out]; exact keeps_setBlock e105 _ _)
                  clear e109 hn107
                  (refine hK.out _ _ ?_ (fun hHeld => ?_); (focus (exact ⟨cell_below B110 o0, cell_below B110 o1, cell_below B110 o2, cell_below B110 o3⟩)); clear hK K; (try simp only [Act.put, List.setIfInBounds_toArray, List.set_cons_zero, List.set_cons_succ, List.getElem_toArray, List.getElem_cons_zero, List.getElem_cons_succ]))
                  (refine wpAnyH_take (i := 8) (v := ?_) rfl (by kernel_rfl) (by kernel_rfl) (by kernel_rfl) (fun _ _ _ h => h) (Or.inl ⟨by rfl, ?_⟩) (by assumption) ?_; rotate_left 1; (focus (intro w hSw; (try dsimp only at hSw); (try simp only [List.getElem_toArray, List.getElem_cons_zero, List.getElem_cons_succ]); go_simp; (try with_reducible rfl))); (try simp only [Act.put, List.setIfInBounds_toArray, List.set_cons_zero, List.set_cons_succ, List.getElem_toArray, List.getElem_cons_zero, List.getElem_cons_succ])); (refine wpAnyH_take (i := 9) (v := ?_) rfl (by kernel_rfl) (by kernel_rfl) (by kernel_rfl) (fun _ _ _ h => h) (Or.inl ⟨by rfl, ?_⟩) (by assumption) ?_; rotate_left 1; (focus (intro w hSw; (try dsimp only at hSw); (try simp only [List.getElem_toArray, List.getElem_cons_zero, List.getElem_cons_succ]); go_simp; (try with_reducible rfl))); (try simp only [Act.put, List.setIfInBounds_toArray, List.set_cons_zero, List.set_cons_succ, List.getElem_toArray, List.getElem_cons_zero, List.getElem_cons_succ]))
                  refine wpAnyH_done (by kernel_rfl) ?_ _
                  go_wp2_with fail
                  go_meet
                  exact ⟨_, [⟨p, m1, 1⟩, ⟨wi, m2, (-1)⟩], rfl, Lib.hid (fac_two M111 (hq1.below B110) q112 den_one den_neg1 limR_one limR_neg1), Lib.hid (numAt_two _ _ hpw), B110⟩
              case g91x7 =>
                (try simp only [List.getElem_toArray, List.getElem_cons_zero, List.getElem_cons_succ])
                obtain ⟨es113, c114, e115, f116⟩ := M87
                have hn117 := ins_int un_map un_int e115 (MapIs.keys (w := wm88) f116) wi (ratV m2) (mget_none f116 _ (by simp))
                obtain ⟨wi118, e119⟩ : ∃ W9 : World, W9 = setBlock wm88 (wn82.heap.size) (.map (es113.push { key := .int .i64 (wi), val := ratV m2, born := c114 }) (c114 + 1)) := ⟨_, rfl⟩
                rw [← e119] at hn117
                replace e119 := Lib.hid e119
                simp only [ratV] at hn117
                go_simp
                have B120 : Below w6.heap.size w6 wi118 := by rw [e119.out]; exact below_setBlock B86 e115 hbb _
                have M121 : MapIs wi118 (wn82.heap.size) [⟨wi, m2, (-1)⟩] := by rw [e119.out]; exact MapIs.pushed e115 f116 ⟨wi, m2, (-1)⟩
                have q122 := q90.keeps (show Keeps 0 137 wm88 wi118 from by rw [e119.out]; exact keeps_setBlock e115 _ _)
                clear e119 hn117
                (refine hK.out _ _ ?_ (fun hHeld => ?_); (focus (exact ⟨cell_below B120 o0, cell_below B120 o1, cell_below B120 o2, cell_below B120 o3⟩)); clear hK K; (try simp only [Act.put, List.setIfInBounds_toArray, List.set_cons_zero, List.set_cons_succ, List.getElem_toArray, List.getElem_cons_zero, List.getElem_cons_succ]))
                refine wpAnyH_ready (rs := [3]) (by kernel_rfl) (by simp) (AllReadyH.cons rfl (fun K hK => ?g123x3) AllReadyH.nil)
                case g123x3 =>
                  (try simp only [List.getElem_toArray, List.getElem_cons_zero, List.getElem_cons_succ])
                  obtain ⟨es124, c125, e126, f127⟩ := M121
                  have hn128 := ins_int un_map un_int e126 (MapIs.keys (w := wi118) f127) p (ratV m1) (mget_none f127 _ (fun f hf => by simp only [List.mem_cons, List.not_mem_nil, or_false] at hf; subst hf; exact Ne.symm hpw))
                  obtain ⟨wi129, e130⟩ : ∃ W9 : World, W9 = setBlock wi118 (wn82.heap.size) (.map (es124.push { key := .int .i64 (p), val := ratV m1, born := c125 }) (c125 + 1)) := ⟨_, rfl⟩
                  rw [← e130] at hn128
                  replace e130 := Lib.hid e130
                  simp only [ratV] at hn128
                  go_simp
                  have B131 : Below w6.heap.size w6 wi129 := by rw [e130.out]; exact below_setBlock B120 e126 hbb _
                  have M132 : MapIs wi129 (wn82.heap.size) [⟨wi, m2, (-1)⟩, ⟨p, m1, 1⟩] := by rw [e130.out]; exact MapIs.pushed e126 f127 ⟨p, m1, 1⟩
                  have q133 := q122.keeps (show Keeps 0 137 wi118 wi129 from by rw [e130.out]; exact keeps_setBlock e126 _ _)
                  clear e130 hn128
                  (refine hK.out _ _ ?_ (fun hHeld => ?_); (focus (exact ⟨cell_below B131 o0, cell_below B131 o1, cell_below B131 o2, cell_below B131 o3⟩)); clear hK K; (try simp only [Act.put, List.setIfInBounds_toArray, List.set_cons_zero, List.set_cons_succ, List.getElem_toArray, List.getElem_cons_zero, List.getElem_cons_succ]))
                  (refine wpAnyH_take (i := 8) (v := ?_) rfl (by kernel_rfl) (by kernel_rfl) (by kernel_rfl) (fun _ _ _ h => h) (Or.inl ⟨by rfl, ?_⟩) (by assumption) ?_; rotate_left 1; (focus (intro w hSw; (try dsimp only at hSw); (try simp only [List.getElem_toArray, List.getElem_cons_zero, List.getElem_cons_succ]); go_simp; (try with_reducible rfl))); (try simp only [Act.put, List.setIfInBounds_toArray, List.set_cons_zero, List.set_cons_succ, List.getElem_toArray, List.getElem_cons_zero, List.getElem_cons_succ])); (refine wpAnyH_take (i := 9) (v := ?_) rfl (by kernel_rfl) (by kernel_rfl) (by kernel_rfl) (fun _ _ _ h => h) (Or.inl ⟨by rfl, ?_⟩) (by assumption) ?_; rotate_left 1; (focus (intro w hSw; (try dsimp only at hSw); (try simp only [List.getElem_toArray, List.getElem_cons_zero, List.getElem_cons_succ]); go_simp; (try with_reducible rfl))); (try simp only [Act.put, List.setIfInBounds_toArray, List.set_cons_zero, List.set_cons_succ, List.getElem_toArray, List.getElem_cons_zero, List.getElem_cons_succ]))
                  refine wpAnyH_done (by kernel_rfl) ?_ _
                  go_wp2_with fail
                  go_meet
                  exact ⟨_, [⟨wi, m2, (-1)⟩, ⟨p, m1, 1⟩], rfl, Lib.hid (fac_two M132 q133 (hq1.below B131) den_neg1 den_one limR_neg1 limR_one), Lib.hid ((numAt_two _ _ (Ne.symm hpw)).trans (two_comm _ _ _ _ (Ne.symm hpw))), B131⟩
        case rest =>
          obtain ⟨b1, l1, rfl, hF1, hN1, B7⟩ := hcut
          obtain ⟨w7, e7⟩ : ∃ W9 : World, W9 = wc := ⟨_, rfl⟩
          subst e7
          have t2 := cell_below B7 t2
          have t3 := cell_below B7 t3
          have v0 := cell_below B7 v0
          have v4 := cell_below B7 v4
          have v5 := cell_below B7 v5
          have o0 := cell_below B7 o0
          have o1 := cell_below B7 o1
          have o2 := cell_below B7 o2
          have o3 := cell_below B7 o3
          have O := Lib.hid (own_below O.out B7)
          have R := Lib.hid (R.out.keeps (Keeps.of_below B7))
          have B := Lib.hid (below_then B.out B7)
          have hq1 := hq1.below B7
          have HN := Lib.hid (fun W (hW : Below w7.heap.size w7 W) => rNeg_any 0 m1 1 W (Nat.zero_le _) (hq1.below hW) (Nat.le_trans limR_one (by decide)))
          clear B7
          go_wp2_with fail
          go_cut [13] (fun u13 wx => ∃ (b : Nat) (l : List Fac), u13 = .map (some b) ∧ Hid (IsFac 0 wx b l) ∧ Hid (numAt l = two p (-1) wi (-1)) ∧ Below w7.heap.size w7 wx)
          case first =>
            refine wp_region_held_drew (S := fun w' => w'.cell? ⟨g, 0, none⟩ = some (.bool m1.a.p) ∧ w'.cell? ⟨g, 1, none⟩ = some (.slice m1.a.A m1.a.n m1.a.c) ∧ w'.cell? ⟨g, 2, none⟩ = some (.bool m1.b.p) ∧ w'.cell? ⟨g, 3, none⟩ = some (.slice m1.b.A m1.b.n m1.b.c)) (by kernel_rfl) ⟨o0, o1, o2, o3⟩ (fun hHeld => ?_)
            (refine wpAnyH_take (i := 1) (v := ?_) rfl (by kernel_rfl) (by kernel_rfl) (by kernel_rfl) (fun _ _ _ h => h) (Or.inl ⟨by rfl, ?_⟩) (by assumption) ?_; rotate_left 1; (focus (intro w hSw; (try dsimp only at hSw); (try simp only [List.getElem_toArray, List.getElem_cons_zero, List.getElem_cons_succ]); go_simp; (try with_reducible rfl))); (try simp only [Act.put, List.setIfInBounds_toArray, List.set_cons_zero, List.set_cons_succ, List.getElem_toArray, List.getElem_cons_zero, List.getElem_cons_succ])); (refine wpAnyH_take (i := 2) (v := ?_) rfl (by kernel_rfl) (by kernel_rfl) (by kernel_rfl) (fun _ _ _ h => h) (Or.inl ⟨by rfl, ?_⟩) (by assumption) ?_; rotate_left 1; (focus (intro w hSw; (try dsimp only at hSw); (try simp only [List.getElem_toArray, List.getElem_cons_zero, List.getElem_cons_succ]); go_simp; (try with_reducible rfl))); (try simp only [Act.put, List.setIfInBounds_toArray, List.set_cons_zero, List.set_cons_succ, List.getElem_toArray, List.getElem_cons_zero, List.getElem_cons_succ])); (refine wpAnyH_take (i := 5) (v := ?_) rfl (by kernel_rfl) (by kernel_rfl) (by kernel_rfl) (fun _ _ _ h => h) (Or.inl ⟨by rfl, ?_⟩) (by assumption) ?_; rotate_left 1; (focus (intro w hSw; (try dsimp only at hSw); (try simp only [List.getElem_toArray, List.getElem_cons_zero, List.getElem_cons_succ]); go_simp; (try with_reducible rfl))); (try simp only [Act.put, List.setIfInBounds_toArray, List.set_cons_zero, List.set_cons_succ, List.getElem_toArray, List.getElem_cons_zero, List.getElem_cons_succ])); (refine wpAnyH_take (i := 6) (v := ?_) rfl (by kernel_rfl) (by kernel_rfl) (by kernel_rfl) (fun _ _ _ h => h) (Or.inl ⟨by rfl, ?_⟩) (by assumption) ?_; rotate_left 1; (focus (intro w hSw; (try dsimp only at hSw); (try simp only [List.getElem_toArray, List.getElem_cons_zero, List.getElem_cons_succ]); go_simp; (try with_reducible rfl))); (try simp only [Act.put, List.setIfInBounds_toArray, List.set_cons_zero, List.set_cons_succ, List.getElem_toArray, List.getElem_cons_zero, List.getElem_cons_succ]))
            have B0 : Below w7.heap.size w7 w7.drew := below_drew (Below.refl _ _)
            refine wpAnyH_ready (rs := [0, 3]) (by kernel_rfl) (by simp) (AllReadyH.cons rfl (fun K hK => ?g1x0) (AllReadyH.cons rfl (fun K hK => ?g1x3) AllReadyH.nil))
            case g1x0 =>
              (try simp only [List.getElem_toArray, List.getElem_cons_zero, List.getElem_cons_succ])
              go_simp
              obtain ⟨wm4, e5⟩ : ∃ W9 : World, W9 = w7.drew.alloc (.map #[] 0) := ⟨_, rfl⟩
              show K _ (w7.drew.alloc (.map #[] 0))
              rw [← e5]
              have B2 : Below w7.heap.size w7 wm4 := by rw [e5]; exact below_alloc B0
              have M3 : MapIs wm4 (w7.heap.size) [] := by rw [e5]; exact ⟨#[], 0, heap_alloc_new _ _, rfl⟩
              have hbb : w7.heap.size ≤ (w7.heap.size) := B0.size
              clear e5
              (refine hK.out _ _ ?_ (fun hHeld => ?_); (focus (exact ⟨cell_below B2 o0, cell_below B2 o1, cell_below B2 o2, cell_below B2 o3⟩)); clear hK K; (try simp only [Act.put, List.setIfInBounds_toArray, List.set_cons_zero, List.set_cons_succ, List.getElem_toArray, List.getElem_cons_zero, List.getElem_cons_succ]))
              refine wpAnyH_ready (rs := [3]) (by kernel_rfl) (by simp) (AllReadyH.cons rfl (fun K hK => ?g6x3) AllReadyH.nil)
              case g6x3 =>
                (try simp only [List.getElem_toArray, List.getElem_cons_zero, List.getElem_cons_succ])
                go_simp
                refine (HN.out _ B2).mono ?_
                intro e wn8 hret
                unfold RetRat at hret
                obtain ⟨m3, rfl, q9, hb10⟩ := hret
                have B7 := below_then B2 hb10
                have M11 := M3.below hb10
                go_wp2_with fail
                (refine hK.out _ _ ?_ (fun hHeld => ?_); (focus (exact ⟨cell_below B7 o0, cell_below B7 o1, cell_below B7 o2, cell_below B7 o3⟩)); clear hK K; (try simp only [Act.put, List.setIfInBounds_toArray, List.set_cons_zero, List.set_cons_succ, List.getElem_toArray, List.getElem_cons_zero, List.getElem_cons_succ]))
                refine wpAnyH_ready (rs := [4, 7]) (by kernel_rfl) (by simp) (AllReadyH.cons rfl (fun K hK => ?g12x4) (AllReadyH.cons rfl (fun K hK => ?g12x7) AllReadyH.nil))
                case g12x4 =>
                  (try simp only [List.getElem_toArray, List.getElem_cons_zero, List.getElem_cons_succ])
                  obtain ⟨es13, c14, e15, f16⟩ := M11
                  have hn17 := ins_int un_map un_int e15 (MapIs.keys (w := wn8) f16) p (ratV m3) (mget_none f16 _ (by simp))
                  obtain ⟨wi18, e19⟩ : ∃ W9 : World, W9 = setBlock wn8 (w7.heap.size) (.map (es13.push { key := .int .i64 (p), val := ratV m3, born := c14 }) (c14 + 1)) := ⟨_, rfl⟩
                  rw [← e19] at hn17
                  replace e19 := Lib.hid e19
                  simp only [ratV] at hn17
                  go_simp
                  have B20 : Below w7.heap.size w7 wi18 := by rw [e19.out]; exact below_setBlock B7 e15 hbb _
                  have M21 : MapIs wi18 (w7.heap.size) [⟨p, m3, (-1)⟩] := by rw [e19.out]; exact MapIs.pushed e15 f16 ⟨p, m3, (-1)⟩
                  have q22 := q9.keeps (show Keeps 0 137 wn8 wi18 from by rw [e19.out]; exact keeps_setBlock e15 _ _)
                  clear e19 hn17
                  (refine hK.out _ _ ?_ (fun hHeld => ?_); (focus (exact ⟨cell_below B20 o0, cell_below B20 o1, cell_below B20 o2, cell_below B20 o3⟩)); clear hK K; (try simp only [Act.put, List.setIfInBounds_toArray, List.set_cons_zero, List.set_cons_succ, List.getElem_toArray, List.getElem_cons_zero, List.getElem_cons_succ]))
                  refine wpAnyH_ready (rs := [7]) (by kernel_rfl) (by simp) (AllReadyH.cons rfl (fun K hK => ?g23x7) AllReadyH.nil)
                  case g23x7 =>
                    (try simp only [List.getElem_toArray, List.getElem_cons_zero, List.getElem_cons_succ])
                    go_simp
                    refine (HN.out _ B20).mono ?_
                    intro e wn25 hret
                    unfold RetRat at hret
                    obtain ⟨m4, rfl, q26, hb27⟩ := hret
                    have B24 := below_then B20 hb27
                    have M28 := M21.below hb27
                    have q29 := q22.below hb27
                    go_wp2_with fail
                    (refine hK.out _ _ ?_ (fun hHeld => ?_); (focus (exact ⟨cell_below B24 o0, cell_below B24 o1, cell_below B24 o2, cell_below B24 o3⟩)); clear hK K; (try simp only [Act.put, List.setIfInBounds_toArray, List.set_cons_zero, List.set_cons_succ, List.getElem_toArray, List.getElem_cons_zero, List.getElem_cons_succ]))
                    refine wpAnyH_ready (rs := [8]) (by kernel_rfl) (by simp) (AllReadyH.cons rfl (fun K hK => ?g30x8) AllReadyH.nil)
                    case g30x8 =>
                      (try simp only [List.getElem_toArray, List.getElem_cons_zero, List.getElem_cons_succ])
                      obtain ⟨es31, c32, e33, f34⟩ := M28
                      have hn35 := ins_int un_map un_int e33 (MapIs.keys (w := wn25) f34) wi (ratV m4) (mget_none f34 _ (fun f hf => by simp only [List.mem_cons, List.not_mem_nil, or_false] at hf; subst hf; exact hpw))
                      obtain ⟨wi36, e37⟩ : ∃ W9 : World, W9 = setBlock wn25 (w7.heap.size) (.map (es31.push { key := .int .i64 (wi), val := ratV m4, born := c32 }) (c32 + 1)) := ⟨_, rfl⟩
                      rw [← e37] at hn35
                      replace e37 := Lib.hid e37
                      simp only [ratV] at hn35
                      go_simp
                      have B38 : Below w7.heap.size w7 wi36 := by rw [e37.out]; exact below_setBlock B24 e33 hbb _
                      have M39 : MapIs wi36 (w7.heap.size) [⟨p, m3, (-1)⟩, ⟨wi, m4, (-1)⟩] := by rw [e37.out]; exact MapIs.pushed e33 f34 ⟨wi, m4, (-1)⟩
                      have q40 := q29.keeps (show Keeps 0 137 wn25 wi36 from by rw [e37.out]; exact keeps_setBlock e33 _ _)
                      have q41 := q26.keeps (show Keeps 0 137 wn25 wi36 from by rw [e37.out]; exact keeps_setBlock e33 _ _)
                      clear e37 hn35
                      (refine hK.out _ _ ?_ (fun hHeld => ?_); (focus (exact ⟨cell_below B38 o0, cell_below B38 o1, cell_below B38 o2, cell_below B38 o3⟩)); clear hK K; (try simp only [Act.put, List.setIfInBounds_toArray, List.set_cons_zero, List.set_cons_succ, List.getElem_toArray, List.getElem_cons_zero, List.getElem_cons_succ]))
                      (refine wpAnyH_take (i := 9) (v := ?_) rfl (by kernel_rfl) (by kernel_rfl) (by kernel_rfl) (fun _ _ _ h => h) (Or.inl ⟨by rfl, ?_⟩) (by assumption) ?_; rotate_left 1; (focus (intro w hSw; (try dsimp only at hSw); (try simp only [List.getElem_toArray, List.getElem_cons_zero, List.getElem_cons_succ]); go_simp; (try with_reducible rfl))); (try simp only [Act.put, List.setIfInBounds_toArray, List.set_cons_zero, List.set_cons_succ, List.getElem_toArray, List.getElem_cons_zero, List.getElem_cons_succ])); (refine wpAnyH_take (i := 10) (v := ?_) rfl (by kernel_rfl) (by kernel_rfl) (by kernel_rfl) (fun _ _ _ h => h) (Or.inl ⟨by rfl, ?_⟩) (by assumption) ?_; rotate_left 1; (focus (intro w hSw; (try dsimp only at hSw); (try simp only [List.getElem_toArray, List.getElem_cons_zero, List.getElem_cons_succ]); go_simp; (try with_reducible rfl))); (try simp only [Act.put, List.setIfInBounds_toArray, List.set_cons_zero, List.set_cons_succ, List.getElem_toArray, List.getElem_cons_zero, List.getElem_cons_succ]))
                      refine wpAnyH_done (by kernel_rfl) ?_ _
                      go_wp2_with fail
                      go_meet
                      exact ⟨_, [⟨p, m3, (-1)⟩, ⟨wi, m4, (-1)⟩], rfl, Lib.hid (fac_two M39 q40 q41 den_neg1 den_neg1 limR_neg1 limR_neg1), Lib.hid (numAt_two _ _ hpw), B38⟩
                case g12x7 =>
                  (try simp only [List.getElem_toArray, List.getElem_cons_zero, List.getElem_cons_succ])
                  go_simp
                  refine (HN.out _ B7).mono ?_
                  intro e wn43 hret
                  unfold RetRat at hret
                  obtain ⟨m4, rfl, q44, hb45⟩ := hret
                  have B42 := below_then B7 hb45
                  have M46 := M11.below hb45
                  have q47 := q9.below hb45
                  go_wp2_with fail
                  (refine hK.out _ _ ?_ (fun hHeld => ?_); (focus (exact ⟨cell_below B42 o0, cell_below B42 o1, cell_below B42 o2, cell_below B42 o3⟩)); clear hK K; (try simp only [Act.put, List.setIfInBounds_toArray, List.set_cons_zero, List.set_cons_succ, List.getElem_toArray, List.getElem_cons_zero, List.getElem_cons_succ]))
                  refine wpAnyH_ready (rs := [4, 8]) (by kernel_rfl) (by simp) (AllReadyH.cons rfl (fun K hK => ?g48x4) (AllReadyH.cons rfl (fun K hK => ?g48x8) AllReadyH.nil))
                  case g48x4 =>
                    (try simp only [List.getElem_toArray, List.getElem_cons_zero, List.getElem_cons_succ])
                    obtain ⟨es49, c50, e51, f52⟩ := M46
                    have hn53 := ins_int un_map un_int e51 (MapIs.keys (w := wn43) f52) p (ratV m3) (mget_none f52 _ (by simp))
                    obtain ⟨wi54, e55⟩ : ∃ W9 : World, W9 = setBlock wn43 (w7.heap.size) (.map (es49.push { key := .int .i64 (p), val := ratV m3, born := c50 }) (c50 + 1)) := ⟨_, rfl⟩
                    rw [← e55] at hn53
                    replace e55 := Lib.hid e55
                    simp only [ratV] at hn53
                    go_simp
                    have B56 : Below w7.heap.size w7 wi54 := by rw [e55.out]; exact below_setBlock B42 e51 hbb _
                    have M57 : MapIs wi54 (w7.heap.size) [⟨p, m3, (-1)⟩] := by rw [e55.out]; exact MapIs.pushed e51 f52 ⟨p, m3, (-1)⟩
                    have q58 := q47.keeps (show Keeps 0 137 wn43 wi54 from by rw [e55.out]; exact keeps_setBlock e51 _ _)
                    have q59 := q44.keeps (show Keeps 0 137 wn43 wi54 from by rw [e55.out]; exact keeps_setBlock e51 _ _)
                    clear e55 hn53
                    (refine hK.out _ _ ?_ (fun hHeld => ?_); (focus (exact ⟨cell_below B56 o0, cell_below B56 o1, cell_below B56 o2, cell_below B56 o3⟩)); clear hK K; (try simp only [Act.put, List.setIfInBounds_toArray, List.set_cons_zero, List.set_cons_succ, List.getElem_toArray, List.getElem_cons_zero, List.getElem_cons_succ]))
                    refine wpAnyH_ready (rs := [8]) (by kernel_rfl) (by simp) (AllReadyH.cons rfl (fun K hK => ?g60x8) AllReadyH.nil)
                    case g60x8 =>
                      (try simp only [List.getElem_toArray, List.getElem_cons_zero, List.getElem_cons_succ])
                      obtain ⟨es61, c62, e63, f64⟩ := M57
                      have hn65 := ins_int un_map un_int e63 (MapIs.keys (w := wi54) f64) wi (ratV m4) (mget_none f64 _ (fun f hf => by simp only [List.mem_cons, List.not_mem_nil, or_false] at hf; subst hf; exact hpw))
                      obtain ⟨wi66, e67⟩ : ∃ W9 : World, W9 = setBlock wi54 (w7.heap.size) (.map (es61.push { key := .int .i64 (wi), val := ratV m4, born := c62 }) (c62 + 1)) := ⟨_, rfl⟩
                      rw [← e67] at hn65
                      replace e67 := Lib.hid e67
                      simp only [ratV] at hn65
                      go_simp
                      have B68 : Below w7.heap.size w7 wi66 := by rw [e67.out]; exact below_setBlock B56 e63 hbb _
                      have M69 : MapIs wi66 (w7.heap.size) [⟨p, m3, (-1)⟩, ⟨wi, m4, (-1)⟩] := by rw [e67.out]; exact MapIs.pushed e63 f64 ⟨wi, m4, (-1)⟩
                      have q70 := q58.keeps (show Keeps 0 137 wi54 wi66 from by rw [e67.out]; exact keeps_setBlock e63 _ _)
                      have q71 := q59.keeps (show Keeps 0 137 wi54 wi66 from by rw [e67.out]; exact keeps_setBlock e63 _ _)
                      clear e67 hn65
                      (refine hK.out _ _ ?_ (fun hHeld => ?_); (focus (exact ⟨cell_below B68 o0, cell_below B68 o1, cell_below B68 o2, cell_below B68 o3⟩)); clear hK K; (try simp only [Act.put, List.setIfInBounds_toArray, List.set_cons_zero, List.set_cons_succ, List.getElem_toArray, List.getElem_cons_zero, List.getElem_cons_succ]))
                      (refine wpAnyH_take (i := 9) (v := ?_) rfl (by kernel_rfl) (by kernel_rfl) (by kernel_rfl) (fun _ _ _ h => h) (Or.inl ⟨by rfl, ?_⟩) (by assumption) ?_; rotate_left 1; (focus (intro w hSw; (try dsimp only at hSw); (try simp only [List.getElem_toArray, List.getElem_cons_zero, List.getElem_cons_succ]); go_simp; (try with_reducible rfl))); (try simp only [Act.put, List.setIfInBounds_toArray, List.set_cons_zero, List.set_cons_succ, List.getElem_toArray, List.getElem_cons_zero, List.getElem_cons_succ])); (refine wpAnyH_take (i := 10) (v := ?_) rfl (by kernel_rfl) (by kernel_rfl) (by kernel_rfl) (fun _ _ _ h => h) (Or.inl ⟨by rfl, ?_⟩) (by assumption) ?_; rotate_left 1; (focus (intro w hSw; (try dsimp only at hSw); (try simp only [List.getElem_toArray, List.getElem_cons_zero, List.getElem_cons_succ]); go_simp; (try with_reducible rfl))); (try simp only [Act.put, List.setIfInBounds_toArray, List.set_cons_zero, List.set_cons_succ, List.getElem_toArray, List.getElem_cons_zero, List.getElem_cons_succ]))
                      refine wpAnyH_done (by kernel_rfl) ?_ _
                      go_wp2_with fail
                      go_meet
                      exact ⟨_, [⟨p, m3, (-1)⟩, ⟨wi, m4, (-1)⟩], rfl, Lib.hid (fac_two M69 q70 q71 den_neg1 den_neg1 limR_neg1 limR_neg1), Lib.hid (numAt_two _ _ hpw), B68⟩
                  case g48x8 =>
                    (try simp only [List.getElem_toArray, List.getElem_cons_zero, List.getElem_cons_succ])
                    obtain ⟨es72, c73, e74, f75⟩ := M46
                    have hn76 := ins_int un_map un_int e74 (MapIs.keys (w := wn43) f75) wi (ratV m4) (mget_none f75 _ (by simp))
                    obtain ⟨wi77, e78⟩ : ∃ W9 : World, W9 = setBlock wn43 (w7.heap.size) (.map (es72.push { key := .int .i64 (wi), val := ratV m4, born := c73 }) (c73 + 1)) := ⟨_, rfl⟩
                    rw [← e78] at hn76
                    replace e78 := Lib.hid e78
                    simp only [ratV] at hn76
                    go_simp
                    have B79 : Below w7.heap.size w7 wi77 := by rw [e78.out]; exact below_setBlock B42 e74 hbb _
                    have M80 : MapIs wi77 (w7.heap.size) [⟨wi, m4, (-1)⟩] := by rw [e78.out]; exact MapIs.pushed e74 f75 ⟨wi, m4, (-1)⟩
                    have q81 := q47.keeps (show Keeps 0 137 wn43 wi77 from by rw [e78.out]; exact keeps_setBlock e74 _ _)
                    have q82 := q44.keeps (show Keeps 0 137 wn43 wi77 from by rw [e78.out]; exact keeps_setBlock e74 _ _)
                    clear e78 hn76
                    (refine hK.out _ _ ?_ (fun hHeld => ?_); (focus (exact ⟨cell_below B79 o0, cell_below B79 o1, cell_below B79 o2, cell_below B79 o3⟩)); clear hK K; (try simp only [Act.put, List.setIfInBounds_toArray, List.set_cons_zero, List.set_cons_succ, List.getElem_toArray, List.getElem_cons_zero, List.getElem_cons_succ]))
                    refine wpAnyH_ready (rs := [4]) (by kernel_rfl) (by simp) (AllReadyH.cons rfl (fun K hK => ?g83x4) AllReadyH.nil)
                    case g83x4 =>
                      (try simp only [List.getElem_toArray, List.getElem_cons_zero, List.getElem_cons_succ])
                      obtain ⟨es84, c85, e86, f87⟩ := M80
                      have hn88 := ins_int un_map un_int e86 (MapIs.keys (w := wi77) f87) p (ratV m3) (mget_none f87 _ (fun f hf => by simp only [List.mem_cons, List.not_mem_nil, or_false] at hf; subst hf; exact Ne.symm hpw))
                      obtain ⟨wi89, e90⟩ : ∃ W9 : World, W9 = setBlock wi77 (w7.heap.size) (.map (es84.push { key := .int .i64 (p), val := ratV m3, born := c85 }) (c85 + 1)) := ⟨_, rfl⟩
                      rw [← e90] at hn88
                      replace e90 := Lib.hid e90
                      simp only [ratV] at hn88
                      go_simp
                      have B91 : Below w7.heap.size w7 wi89 := by rw [e90.out]; exact below_setBlock B79 e86 hbb _
                      have M92 : MapIs wi89 (w7.heap.size) [⟨wi, m4, (-1)⟩, ⟨p, m3, (-1)⟩] := by rw [e90.out]; exact MapIs.pushed e86 f87 ⟨p, m3, (-1)⟩
                      have q93 := q81.keeps (show Keeps 0 137 wi77 wi89 from by rw [e90.out]; exact keeps_setBlock e86 _ _)
                      have q94 := q82.keeps (show Keeps 0 137 wi77 wi89 from by rw [e90.out]; exact keeps_setBlock e86 _ _)
                      clear e90 hn88
                      (refine hK.out _ _ ?_ (fun hHeld => ?_); (focus (exact ⟨cell_below B91 o0, cell_below B91 o1, cell_below B91 o2, cell_below B91 o3⟩)); clear hK K; (try simp only [Act.put, List.setIfInBounds_toArray, List.set_cons_zero, List.set_cons_succ, List.getElem_toArray, List.getElem_cons_zero, List.getElem_cons_succ]))
                      (refine wpAnyH_take (i := 9) (v := ?_) rfl (by kernel_rfl) (by kernel_rfl) (by kernel_rfl) (fun _ _ _ h => h) (Or.inl ⟨by rfl, ?_⟩) (by assumption) ?_; rotate_left 1; (focus (intro w hSw; (try dsimp only at hSw); (try simp only [List.getElem_toArray, List.getElem_cons_zero, List.getElem_cons_succ]); go_simp; (try with_reducible rfl))); (try simp only [Act.put, List.setIfInBounds_toArray, List.set_cons_zero, List.set_cons_succ, List.getElem_toArray, List.getElem_cons_zero, List.getElem_cons_succ])); (refine wpAnyH_take (i := 10) (v := ?_) rfl (by kernel_rfl) (by kernel_rfl) (by kernel_rfl) (fun _ _ _ h => h) (Or.inl ⟨by rfl, ?_⟩) (by assumption) ?_; rotate_left 1; (focus (intro w hSw; (try dsimp only at hSw); (try simp only [List.getElem_toArray, List.getElem_cons_zero, List.getElem_cons_succ]); go_simp; (try with_reducible rfl))); (try simp only [Act.put, List.setIfInBounds_toArray, List.set_cons_zero, List.set_cons_succ, List.getElem_toArray, List.getElem_cons_zero, List.getElem_cons_succ]))
                      refine wpAnyH_done (by kernel_rfl) ?_ _
                      go_wp2_with fail
                      go_meet
                      exact ⟨_, [⟨wi, m4, (-1)⟩, ⟨p, m3, (-1)⟩], rfl, Lib.hid (fac_two M92 q94 q93 den_neg1 den_neg1 limR_neg1 limR_neg1), Lib.hid ((numAt_two _ _ (Ne.symm hpw)).trans (two_comm _ _ _ _ (Ne.symm hpw))), B91⟩
            case g1x3 =>
              (try simp only [List.getElem_toArray, List.getElem_cons_zero, List.getElem_cons_succ])
              go_simp
              refine (HN.out _ B0).mono ?_
              intro e wn96 hret
              unfold RetRat at hret
              obtain ⟨m3, rfl, q97, hb98⟩ := hret
              have B95 := below_then B0 hb98
              go_wp2_with fail
              (refine hK.out _ _ ?_ (fun hHeld => ?_); (focus (exact ⟨cell_below B95 o0, cell_below B95 o1, cell_below B95 o2, cell_below B95 o3⟩)); clear hK K; (try simp only [Act.put, List.setIfInBounds_toArray, List.set_cons_zero, List.set_cons_succ, List.getElem_toArray, List.getElem_cons_zero, List.getElem_cons_succ]))
              refine wpAnyH_ready (rs := [0, 7]) (by kernel_rfl) (by simp) (AllReadyH.cons rfl (fun K hK => ?g99x0) (AllReadyH.cons rfl (fun K hK => ?g99x7) AllReadyH.nil))
              case g99x0 =>
                (try simp only [List.getElem_toArray, List.getElem_cons_zero, List.getElem_cons_succ])
                go_simp
                obtain ⟨wm102, e103⟩ : ∃ W9 : World, W9 = wn96.alloc (.map #[] 0) := ⟨_, rfl⟩
                show K _ (wn96.alloc (.map #[] 0))
                rw [← e103]
                have B100 : Below w7.heap.size w7 wm102 := by rw [e103]; exact below_alloc B95
                have M101 : MapIs wm102 (wn96.heap.size) [] := by rw [e103]; exact ⟨#[], 0, heap_alloc_new _ _, rfl⟩
                have hbb : w7.heap.size ≤ (wn96.heap.size) := B95.size
                have q104 := q97.below (show Below wn96.heap.size wn96 wm102 from by rw [e103]; exact below_alloc (Below.refl _ _))
                clear e103
                (refine hK.out _ _ ?_ (fun hHeld => ?_); (focus (exact ⟨cell_below B100 o0, cell_below B100 o1, cell_below B100 o2, cell_below B100 o3⟩)); clear hK K; (try simp only [Act.put, List.setIfInBounds_toArray, List.set_cons_zero, List.set_cons_succ, List.getElem_toArray, List.getElem_cons_zero, List.getElem_cons_succ]))
                refine wpAnyH_ready (rs := [4, 7]) (by kernel_rfl) (by simp) (AllReadyH.cons rfl (fun K hK => ?g105x4) (AllReadyH.cons rfl (fun K hK => ?g105x7) AllReadyH.nil))
                case g105x4 =>
                  (try simp only [List.getElem_toArray, List.getElem_cons_zero, List.getElem_cons_succ])
                  obtain ⟨es106, c107, e108, f109⟩ := M101
                  have hn110 := ins_int un_map un_int e108 (MapIs.keys (w := wm102) f109) p (ratV m3) (mget_none f109 _ (by simp))
                  obtain ⟨wi111, e112⟩ : ∃ W9 : World, W9 = setBlock wm102 (wn96.heap.size) (.map (es106.push { key := .int .i64 (p), val := ratV m3, born := c107 }) (c107 + 1)) := ⟨_, rfl⟩
                  rw [← e112] at hn110
                  replace e112 := Lib.hid e112
                  simp only [ratV] at hn110
                  go_simp
                  have B113 : Below w7.heap.size w7 wi111 := by rw [e112.out]; exact below_setBlock B100 e108 hbb _
                  have M114 : MapIs wi111 (wn96.heap.size) [⟨p, m3, (-1)⟩] := by rw [e112.out]; exact MapIs.pushed e108 f109 ⟨p, m3, (-1)⟩
                  have q115 := q104.keeps (show Keeps 0 137 wm102 wi111 from by rw [e112.out]; exact keeps_setBlock e108 _ _)
                  clear e112 hn110
                  (refine hK.out _ _ ?_ (fun hHeld => ?_); (focus (exact ⟨cell_below B113 o0, cell_below B113 o1, cell_below B113 o2, cell_below B113 o3⟩)); clear hK K; (try simp only [Act.put, List.setIfInBounds_toArray, List.set_cons_zero, List.set_cons_succ, List.getElem_toArray, List.getElem_cons_zero, List.getElem_cons_succ]))
                  refine wpAnyH_ready (rs := [7]) (by kernel_rfl) (by simp) (AllReadyH.cons rfl (fun K hK => ?g116x7) AllReadyH.nil)
                  case g116x7 =>
                    (try simp only [List.getElem_toArray, List.getElem_cons_zero, List.getElem_cons_succ])
                    go_simp
                    refine (HN.out _ B113).mono ?_
                    intro e wn118 hret
                    unfold RetRat at hret
                    obtain ⟨m4, rfl, q119, hb120⟩ := hret
                    have B117 := below_then B113 hb120
                    have M121 := M114.below hb120
                    have q122 := q115.below hb120
                    go_wp2_with fail
                    (refine hK.out _ _ ?_ (fun hHeld => ?_); (focus (exact ⟨cell_below B117 o0, cell_below B117 o1, cell_below B117 o2, cell_below B117 o3⟩)); clear hK K; (try simp only [Act.put, List.setIfInBounds_toArray, List.set_cons_zero, List.set_cons_succ, List.getElem_toArray, List.getElem_cons_zero, List.getElem_cons_succ]))
                    refine wpAnyH_ready (rs := [8]) (by kernel_rfl) (by simp) (AllReadyH.cons rfl (fun K hK => ?g123x8) AllReadyH.nil)
                    case g123x8 =>
                      (try simp only [List.getElem_toArray, List.getElem_cons_zero, List.getElem_cons_succ])
                      obtain ⟨es124, c125, e126, f127⟩ := M121
                      have hn128 := ins_int un_map un_int e126 (MapIs.keys (w := wn118) f127) wi (ratV m4) (mget_none f127 _ (fun f hf => by simp only [List.mem_cons, List.not_mem_nil, or_false] at hf; subst hf; exact hpw))
                      obtain ⟨wi129, e130⟩ : ∃ W9 : World, W9 = setBlock wn118 (wn96.heap.size) (.map (es124.push { key := .int .i64 (wi), val := ratV m4, born := c125 }) (c125 + 1)) := ⟨_, rfl⟩
                      rw [← e130] at hn128
                      replace e130 := Lib.hid e130
                      simp only [ratV] at hn128
                      go_simp
                      have B131 : Below w7.heap.size w7 wi129 := by rw [e130.out]; exact below_setBlock B117 e126 hbb _
                      have M132 : MapIs wi129 (wn96.heap.size) [⟨p, m3, (-1)⟩, ⟨wi, m4, (-1)⟩] := by rw [e130.out]; exact MapIs.pushed e126 f127 ⟨wi, m4, (-1)⟩
                      have q133 := q122.keeps (show Keeps 0 137 wn118 wi129 from by rw [e130.out]; exact keeps_setBlock e126 _ _)
                      have q134 := q119.keeps (show Keeps 0 137 wn118 wi129 from by rw [e130.out]; exact keeps_setBlock e126 _ _)
                      clear e130 hn128
                      (refine hK.out _ _ ?_ (fun hHeld => ?_); (focus (exact ⟨cell_below B131 o0, cell_below B131 o1, cell_below B131 o2, cell_below B131 o3⟩)); clear hK K; (try simp only [Act.put, List.setIfInBounds_toArray, List.set_cons_zero, List.set_cons_succ, List.getElem_toArray, List.getElem_cons_zero, List.getElem_cons_succ]))
                      (refine wpAnyH_take (i := 9) (v := ?_) rfl (by kernel_rfl) (by kernel_rfl) (by kernel_rfl) (fun _ _ _ h => h) (Or.inl ⟨by rfl, ?_⟩) (by assumption) ?_; rotate_left 1; (focus (intro w hSw; (try dsimp only at hSw); (try simp only [List.getElem_toArray, List.getElem_cons_zero, List.getElem_cons_succ]); go_simp; (try with_reducible rfl))); (try simp only [Act.put, List.setIfInBounds_toArray, List.set_cons_zero, List.set_cons_succ, List.getElem_toArray, List.getElem_cons_zero, List.getElem_cons_succ])); (refine wpAnyH_take (i := 10) (v := ?_) rfl (by kernel_rfl) (by kernel_rfl) (by kernel_rfl) (fun _ _ _ h => h) (Or.inl ⟨by rfl, ?_⟩) (by assumption) ?_; rotate_left 1; (focus (intro w hSw; (try dsimp only at hSw); (try simp only [List.getElem_toArray, List.getElem_cons_zero, List.getElem_cons_succ]); go_simp; (try with_reducible rfl))); (try simp only [Act.put, List.setIfInBounds_toArray, List.set_cons_zero, List.set_cons_succ, List.getElem_toArray, List.getElem_cons_zero, List.getElem_cons_succ]))
                      refine wpAnyH_done (by kernel_rfl) ?_ _
                      go_wp2_with fail
                      go_meet
                      exact ⟨_, [⟨p, m3, (-1)⟩, ⟨wi, m4, (-1)⟩], rfl, Lib.hid (fac_two M132 q133 q134 den_neg1 den_neg1 limR_neg1 limR_neg1), Lib.hid (numAt_two _ _ hpw), B131⟩
                case g105x7 =>
                  (try simp only [List.getElem_toArray, List.getElem_cons_zero, List.getElem_cons_succ])
                  go_simp
                  refine (HN.out _ B100).mono ?_
                  intro e wn136 hret
                  unfold RetRat at hret
                  obtain ⟨m4, rfl, q137, hb138⟩ := hret
                  have B135 := below_then B100 hb138
                  have M139 := M101.below hb138
                  have q140 := q104.below hb138
                  go_wp2_with fail
                  (refine hK.out _ _ ?_ (fun hHeld => ?_); (focus (exact ⟨cell_below B135 o0, cell_below B135 o1, cell_below B135 o2, cell_below B135 o3⟩)); clear hK K; (try simp only [Act.put, List.setIfInBounds_toArray, List.set_cons_zero, List.set_cons_succ, List.getElem_toArray, List.getElem_cons_zero, List.getElem_cons_succ]))
                  refine wpAnyH_ready (rs := [4, 8]) (by kernel_rfl) (by simp) (AllReadyH.cons rfl (fun K hK => ?g141x4) (AllReadyH.cons rfl (fun K hK => ?g141x8) AllReadyH.nil))
                  case g141x4 =>
                    (try simp only [List.getElem_toArray, List.getElem_cons_zero, List.getElem_cons_succ])
                    obtain ⟨es142, c143, e144, f145⟩ := M139
                    have hn146 := ins_int un_map un_int e144 (MapIs.keys (w := wn136) f145) p (ratV m3) (mget_none f145 _ (by simp))
                    obtain ⟨wi147, e148⟩ : ∃ W9 : World, W9 = setBlock wn136 (wn96.heap.size) (.map (es142.push { key := .int .i64 (p), val := ratV m3, born := c143 }) (c143 + 1)) := ⟨_, rfl⟩
                    rw [← e148] at hn146
                    replace e148 := Lib.hid e148
                    simp only [ratV] at hn146
                    go_simp
                    have B149 : Below w7.heap.size w7 wi147 := by rw [e148.out]; exact below_setBlock B135 e144 hbb _
                    have M150 : MapIs wi147 (wn96.heap.size) [⟨p, m3, (-1)⟩] := by rw [e148.out]; exact MapIs.pushed e144 f145 ⟨p, m3, (-1)⟩
                    have q151 := q140.keeps (show Keeps 0 137 wn136 wi147 from by rw [e148.out]; exact keeps_setBlock e144 _ _)
                    have q152 := q137.keeps (show Keeps 0 137 wn136 wi147 from by rw [e148.out]; exact keeps_setBlock e144 _ _)
                    clear e148 hn146
                    (refine hK.out _ _ ?_ (fun hHeld => ?_); (focus (exact ⟨cell_below B149 o0, cell_below B149 o1, cell_below B149 o2, cell_below B149 o3⟩)); clear hK K; (try simp only [Act.put, List.setIfInBounds_toArray, List.set_cons_zero, List.set_cons_succ, List.getElem_toArray, List.getElem_cons_zero, List.getElem_cons_succ]))
                    refine wpAnyH_ready (rs := [8]) (by kernel_rfl) (by simp) (AllReadyH.cons rfl (fun K hK => ?g153x8) AllReadyH.nil)
                    case g153x8 =>
                      (try simp only [List.getElem_toArray, List.getElem_cons_zero, List.getElem_cons_succ])
                      obtain ⟨es154, c155, e156, f157⟩ := M150
                      have hn158 := ins_int un_map un_int e156 (MapIs.keys (w := wi147) f157) wi (ratV m4) (mget_none f157 _ (fun f hf => by simp only [List.mem_cons, List.not_mem_nil, or_false] at hf; subst hf; exact hpw))
                      obtain ⟨wi159, e160⟩ : ∃ W9 : World, W9 = setBlock wi147 (wn96.heap.size) (.map (es154.push { key := .int .i64 (wi), val := ratV m4, born := c155 }) (c155 + 1)) := ⟨_, rfl⟩
                      rw [← e160] at hn158
                      replace e160 := Lib.hid e160
                      simp only [ratV] at hn158
                      go_simp
                      have B161 : Below w7.heap.size w7 wi159 := by rw [e160.out]; exact below_setBlock B149 e156 hbb _
                      have M162 : MapIs wi159 (wn96.heap.size) [⟨p, m3, (-1)⟩, ⟨wi, m4, (-1)⟩] := by rw [e160.out]; exact MapIs.pushed e156 f157 ⟨wi, m4, (-1)⟩
                      have q163 := q151.keeps (show Keeps 0 137 wi147 wi159 from by rw [e160.out]; exact keeps_setBlock e156 _ _)
                      have q164 := q152.keeps (show Keeps 0 137 wi147 wi159 from by rw [e160.out]; exact keeps_setBlock e156 _ _)
                      clear e160 hn158
                      (refine hK.out _ _ ?_ (fun hHeld => ?_); (focus (exact ⟨cell_below B161 o0, cell_below B161 o1, cell_below B161 o2, cell_below B161 o3⟩)); clear hK K; (try simp only [Act.put, List.setIfInBounds_toArray, List.set_cons_zero, List.set_cons_succ, List.getElem_toArray, List.getElem_cons_zero, List.getElem_cons_succ]))
                      (refine wpAnyH_take (i := 9) (v := ?_) rfl (by kernel_rfl) (by kernel_rfl) (by kernel_rfl) (fun _ _ _ h => h) (Or.inl ⟨by rfl, ?_⟩) (by assumption) ?_; rotate_left 1; (focus (intro w hSw; (try dsimp only at hSw); (try simp only [List.getElem_toArray, List.getElem_cons_zero, List.getElem_cons_succ]); go_simp; (try with_reducible rfl))); (try simp only [Act.put, List.setIfInBounds_toArray, List.set_cons_zero, List.set_cons_succ, List.getElem_toArray, List.getElem_cons_zero, List.getElem_cons_succ])); (refine wpAnyH_take (i := 10) (v := ?_) rfl (by kernel_rfl) (by kernel_rfl) (by kernel_rfl) (fun _ _ _ h => h) (Or.inl ⟨by rfl, ?_⟩) (by assumption) ?_; rotate_left 1; (focus (intro w hSw; (try dsimp only at hSw); (try simp only [List.getElem_toArray, List.getElem_cons_zero, List.getElem_cons_succ]); go_simp; (try with_reducible rfl))); (try simp only [Act.put, List.setIfInBounds_toArray, List.set_cons_zero, List.set_cons_succ, List.getElem_toArray, List.getElem_cons_zero, List.getElem_cons_succ]))
                      refine wpAnyH_done (by kernel_rfl) ?_ _
                      go_wp2_with fail
                      go_meet
                      exact ⟨_, [⟨p, m3, (-1)⟩, ⟨wi, m4, (-1)⟩], rfl, Lib.hid (fac_two M162 q163 q164 den_neg1 den_neg1 limR_neg1 limR_neg1), Lib.hid (numAt_two _ _ hpw), B161⟩
                  case g141x8 =>
                    (try simp only [List.getElem_toArray, List.getElem_cons_zero, List.getElem_cons_succ])
                    obtain ⟨es165, c166, e167, f168⟩ := M139
                    have hn169 := ins_int un_map un_int e167 (MapIs.keys (w := wn136) f168) wi (ratV m4) (mget_none f168 _ (by simp))
                    obtain ⟨wi170, e171⟩ : ∃ W9 : World, W9 = setBlock wn136 (wn96.heap.size) (.map (es165.push { key := .int .i64 (wi), val := ratV m4, born := c166 }) (c166 + 1)) := ⟨_, rfl⟩
                    rw [← e171] at hn169
                    replace e171 := Lib.hid e171
                    simp only [ratV] at hn169
                    go_simp
                    have B172 : Below w7.heap.size w7 wi170 := by rw [e171.out]; exact below_setBlock B135 e167 hbb _
                    have M173 : MapIs wi170 (wn96.heap.size) [⟨wi, m4, (-1)⟩] := by rw [e171.out]; exact MapIs.pushed e167 f168 ⟨wi, m4, (-1)⟩
                    have q174 := q140.keeps (show Keeps 0 137 wn136 wi170 from by rw [e171.out]; exact keeps_setBlock e167 _ _)
                    have q175 := q137.keeps (show Keeps 0 137 wn136 wi170 from by rw [e171.out]; exact keeps_setBlock e167 _ _)
                    clear e171 hn169
                    (refine hK.out _ _ ?_ (fun hHeld => ?_); (focus (exact ⟨cell_below B172 o0, cell_below B172 o1, cell_below B172 o2, cell_below B172 o3⟩)); clear hK K; (try simp only [Act.put, List.setIfInBounds_toArray, List.set_cons_zero, List.set_cons_succ, List.getElem_toArray, List.getElem_cons_zero, List.getElem_cons_succ]))
                    refine wpAnyH_ready (rs := [4]) (by kernel_rfl) (by simp) (AllReadyH.cons rfl (fun K hK => ?g176x4) AllReadyH.nil)
                    case g176x4 =>
                      (try simp only [List.getElem_toArray, List.getElem_cons_zero, List.getElem_cons_succ])
                      obtain ⟨es177, c178, e179, f180⟩ := M173
                      have hn181 := ins_int un_map un_int e179 (MapIs.keys (w := wi170) f180) p (ratV m3) (mget_none f180 _ (fun f hf => by simp only [List.mem_cons, List.not_mem_nil, or_false] at hf; subst hf; exact Ne.symm hpw))
                      obtain ⟨wi182, e183⟩ : ∃ W9 : World, W9 = setBlock wi170 (wn96.heap.size) (.map (es177.push { key := .int .i64 (p), val := ratV m3, born := c178 }) (c178 + 1)) := ⟨_, rfl⟩
                      rw [← e183] at hn181
                      replace e183 := Lib.hid e183
                      simp only [ratV] at hn181
                      go_simp
                      have B184 : Below w7.heap.size w7 wi182 := by rw [e183.out]; exact below_setBlock B172 e179 hbb _
                      have M185 : MapIs wi182 (wn96.heap.size) [⟨wi, m4, (-1)⟩, ⟨p, m3, (-1)⟩] := by rw [e183.out]; exact MapIs.pushed e179 f180 ⟨p, m3, (-1)⟩
                      have q186 := q174.keeps (show Keeps 0 137 wi170 wi182 from by rw [e183.out]; exact keeps_setBlock e179 _ _)
                      have q187 := q175.keeps (show Keeps 0 137 wi170 wi182 from by rw [e183.out]; exact keeps_setBlock e179 _ _)
                      clear e183 hn181
                      (refine hK.out _ _ ?_ (fun hHeld => ?_); (focus (exact ⟨cell_below B184 o0, cell_below B184 o1, cell_below B184 o2, cell_below B184 o3⟩)); clear hK K; (try simp only [Act.put, List.setIfInBounds_toArray, List.set_cons_zero, List.set_cons_succ, List.getElem_toArray, List.getElem_cons_zero, List.getElem_cons_succ]))
                      (refine wpAnyH_take (i := 9) (v := ?_) rfl (by kernel_rfl) (by kernel_rfl) (by kernel_rfl) (fun _ _ _ h => h) (Or.inl ⟨by rfl, ?_⟩) (by assumption) ?_; rotate_left 1; (focus (intro w hSw; (try dsimp only at hSw); (try simp only [List.getElem_toArray, List.getElem_cons_zero, List.getElem_cons_succ]); go_simp; (try with_reducible rfl))); (try simp only [Act.put, List.setIfInBounds_toArray, List.set_cons_zero, List.set_cons_succ, List.getElem_toArray, List.getElem_cons_zero, List.getElem_cons_succ])); (refine wpAnyH_take (i := 10) (v := ?_) rfl (by kernel_rfl) (by kernel_rfl) (by kernel_rfl) (fun _ _ _ h => h) (Or.inl ⟨by rfl, ?_⟩) (by assumption) ?_; rotate_left 1; (focus (intro w hSw; (try dsimp only at hSw); (try simp only [List.getElem_toArray, List.getElem_cons_zero, List.getElem_cons_succ]); go_simp; (try with_reducible rfl))); (try simp only [Act.put, List.setIfInBounds_toArray, List.set_cons_zero, List.set_cons_succ, List.getElem_toArray, List.getElem_cons_zero, List.getElem_cons_succ]))
                      refine wpAnyH_done (by kernel_rfl) ?_ _
                      go_wp2_with fail
                      go_meet
                      exact ⟨_, [⟨wi, m4, (-1)⟩, ⟨p, m3, (-1)⟩], rfl, Lib.hid (fac_two M185 q187 q186 den_neg1 den_neg1 limR_neg1 limR_neg1), Lib.hid ((numAt_two _ _ (Ne.symm hpw)).trans (two_comm _ _ _ _ (Ne.symm hpw))), B184⟩
              case g99x7 =>
                (try simp only [List.getElem_toArray, List.getElem_cons_zero, List.getElem_cons_succ])
                go_simp
                refine (HN.out _ B95).mono ?_
                intro e wn189 hret
                unfold RetRat at hret
                obtain ⟨m4, rfl, q190, hb191⟩ := hret
                have B188 := below_then B95 hb191
                have q192 := q97.below hb191
                go_wp2_with fail
                (refine hK.out _ _ ?_ (fun hHeld => ?_); (focus (exact ⟨cell_below B188 o0, cell_below B188 o1, cell_below B188 o2, cell_below B188 o3⟩)); clear hK K; (try simp only [Act.put, List.setIfInBounds_toArray, List.set_cons_zero, List.set_cons_succ, List.getElem_toArray, List.getElem_cons_zero, List.getElem_cons_succ]))
                refine wpAnyH_ready (rs := [0]) (by kernel_rfl) (by simp) (AllReadyH.cons rfl (fun K hK => ?g193x0) AllReadyH.nil)
                case g193x0 =>
                  (try simp only [List.getElem_toArray, List.getElem_cons_zero, List.getElem_cons_succ])
                  go_simp
                  obtain ⟨wm196, e197⟩ : ∃ W9 : World, W9 = wn189.alloc (.map #[] 0) := ⟨_, rfl⟩
                  show K _ (wn189.alloc (.map #[] 0))
                  rw [← e197]
                  have B194 : Below w7.heap.size w7 wm196 := by rw [e197]; exact below_alloc B188
                  have M195 : MapIs wm196 (wn189.heap.size) [] := by rw [e197]; exact ⟨#[], 0, heap_alloc_new _ _, rfl⟩
                  have hbb : w7.heap.size ≤ (wn189.heap.size) := B188.size
                  have q198 := q192.below (show Below wn189.heap.size wn189 wm196 from by rw [e197]; exact below_alloc (Below.refl _ _))
                  have q199 := q190.below (show Below wn189.heap.size wn189 wm196 from by rw [e197]; exact below_alloc (Below.refl _ _))
                  clear e197
                  (refine hK.out _ _ ?_ (fun hHeld => ?_); (focus (exact ⟨cell_below B194 o0, cell_below B194 o1, cell_below B194 o2, cell_below B194 o3⟩)); clear hK K; (try simp only [Act.put, List.setIfInBounds_toArray, List.set_cons_zero, List.set_cons_succ, List.getElem_toArray, List.getElem_cons_zero, List.getElem_cons_succ]))
                  refine wpAnyH_ready (rs := [4, 8]) (by kernel_rfl) (by simp) (AllReadyH.cons rfl (fun K hK => ?g200x4) (AllReadyH.cons rfl (fun K hK => ?g200x8) AllReadyH.nil))
                  case g200x4 =>
                    (try simp only [List.getElem_toArray, List.getElem_cons_zero, List.getElem_cons_succ])
                    obtain ⟨es201, c202, e203, f204⟩ := M195
                    have hn205 := ins_int un_map un_int e203 (MapIs.keys (w := wm196) f204) p (ratV m3) (mget_none f204 _ (by simp))
                    obtain ⟨wi206, e207⟩ : ∃ W9 : World, W9 = setBlock wm196 (wn189.heap.size) (.map (es201.push { key := .int .i64 (p), val := ratV m3, born := c202 }) (c202 + 1)) := ⟨_, rfl⟩
                    rw [← e207] at hn205
                    replace e207 := Lib.hid e207
                    simp only [ratV] at hn205
                    go_simp
                    have B208 : Below w7.heap.size w7 wi206 := by rw [e207.out]; exact below_setBlock B194 e203 hbb _
                    have M209 : MapIs wi206 (wn189.heap.size) [⟨p, m3, (-1)⟩] := by rw [e207.out]; exact MapIs.pushed e203 f204 ⟨p, m3, (-1)⟩
                    have q210 := q198.keeps (show Keeps 0 137 wm196 wi206 from by rw [e207.out]; exact keeps_setBlock e203 _ _)
                    have q211 := q199.keeps (show Keeps 0 137 wm196 wi206 from by rw [e207.out]; exact keeps_setBlock e203 _ _)
                    clear e207 hn205
                    (refine hK.out _ _ ?_ (fun hHeld => ?_); (focus (exact ⟨cell_below B208 o0, cell_below B208 o1, cell_below B208 o2, cell_below B208 o3⟩)); clear hK K; (try simp only [Act.put, List.setIfInBounds_toArray, List.set_cons_zero, List.set_cons_succ, List.getElem_toArray, List.getElem_cons_zero, List.getElem_cons_succ]))
                    refine wpAnyH_ready (rs := [8]) (by kernel_rfl) (by simp) (AllReadyH.cons rfl (fun K hK => ?g212x8) AllReadyH.nil)
                    case g212x8 =>
                      (try simp only [List.getElem_toArray, List.getElem_cons_zero, List.getElem_cons_succ])
                      obtain ⟨es213, c214, e215, f216⟩ := M209
                      have hn217 := ins_int un_map un_int e215 (MapIs.keys (w := wi206) f216) wi (ratV m4) (mget_none f216 _ (fun f hf => by simp only [List.mem_cons, List.not_mem_nil, or_false] at hf; subst hf; exact hpw))
                      obtain ⟨wi218, e219⟩ : ∃ W9 : World, W9 = setBlock wi206 (wn189.heap.size) (.map (es213.push { key := .int .i64 (wi), val := ratV m4, born := c214 }) (c214 + 1)) := ⟨_, rfl⟩
                      rw [← e219] at hn217
                      replace e219 := Lib.hid e219
                      simp only [ratV] at hn217
                      go_simp
                      have B220 : Below w7.heap.size w7 wi218 := by rw [e219.out]; exact below_setBlock B208 e215 hbb _
                      have M221 : MapIs wi218 (wn189.heap.size) [⟨p, m3, (-1)⟩, ⟨wi, m4, (-1)⟩] := by rw [e219.out]; exact MapIs.pushed e215 f216 ⟨wi, m4, (-1)⟩
                      have q222 := q210.keeps (show Keeps 0 137 wi206 wi218 from by rw [e219.out]; exact keeps_setBlock e215 _ _)
                      have q223 := q211.keeps (show Keeps 0 137 wi206 wi218 from by rw [e219.out]; exact keeps_setBlock e215 _ _)
                      clear e219 hn217
                      (refine hK.out _ _ ?_ (fun hHeld => ?_); (focus (exact ⟨cell_below B220 o0, cell_below B220 o1, cell_below B220 o2, cell_below B220 o3⟩)); clear hK K; (try simp only [Act.put, List.setIfInBounds_toArray, List.set_cons_zero, List.set_cons_succ, List.getElem_toArray, List.getElem_cons_zero, List.getElem_cons_succ]))
                      (refine wpAnyH_take (i := 9) (v := ?_) rfl (by kernel_rfl) (by kernel_rfl) (by kernel_rfl) (fun _ _ _ h => h) (Or.inl ⟨by rfl, ?_⟩) (by assumption) ?_; rotate_left 1; (focus (intro w hSw; (try dsimp only at hSw); (try simp only [List.getElem_toArray, List.getElem_cons_zero, List.getElem_cons_succ]); go_simp; (try with_reducible rfl))); (try simp only [Act.put, List.setIfInBounds_toArray, List.set_cons_zero, List.set_cons_succ, List.getElem_toArray, List.getElem_cons_zero, List.getElem_cons_succ])); (refine wpAnyH_take (i := 10) (v := ?_) rfl (by kernel_rfl) (by kernel_rfl) (by kernel_rfl) (fun _ _ _ h => h) (Or.inl ⟨by rfl, ?_⟩) (by assumption) ?_; rotate_left 1; (focus (intro w hSw; (try dsimp only at hSw); (try simp only [List.getElem_toArray, List.getElem_cons_zero, List.getElem_cons_succ]); go_simp; (try with_reducible rfl))); (try simp only [Act.put, List.setIfInBounds_toArray, List.set_cons_zero, List.set_cons_succ, List.getElem_toArray, List.getElem_cons_zero, List.getElem_cons_succ]))
                      refine wpAnyH_done (by kernel_rfl) ?_ _
                      go_wp2_with fail
                      go_meet
                      exact ⟨_, [⟨p, m3, (-1)⟩, ⟨wi, m4, (-1)⟩], rfl, Lib.hid (fac_two M221 q222 q223 den_neg1 den_neg1 limR_neg1 limR_neg1), Lib.hid (numAt_two _ _ hpw), B220⟩
                  case g200x8 =>
                    (try simp only [List.getElem_toArray, List.getElem_cons_zero, List.getElem_cons_succ])
                    obtain ⟨es224, c225, e226, f227⟩ := M195
                    have hn228 := ins_int un_map un_int e226 (MapIs.keys (w := wm196) f227) wi (ratV m4) (mget_none f227 _ (by simp))
                    obtain ⟨wi229, e230⟩ : ∃ W9 : World, W9 = setBlock wm196 (wn189.heap.size) (.map (es224.push { key := .int .i64 (wi), val := ratV m4, born := c225 }) (c225 + 1)) := ⟨_, rfl⟩
                    rw [← e230] at hn228
                    replace e230 := Lib.hid e230
                    simp only [ratV] at hn228
                    go_simp
                    have B231 : Below w7.heap.size w7 wi229 := by rw [e230.out]; exact below_setBlock B194 e226 hbb _
                    have M232 : MapIs wi229 (wn189.heap.size) [⟨wi, m4, (-1)⟩] := by rw [e230.out]; exact MapIs.pushed e226 f227 ⟨wi, m4, (-1)⟩
                    have q233 := q198.keeps (show Keeps 0 137 wm196 wi229 from by rw [e230.out]; exact keeps_setBlock e226 _ _)
                    have q234 := q199.keeps (show Keeps 0 137 wm196 wi229 from by rw [e230.out]; exact keeps_setBlock e226 _ _)
                    clear e230 hn228
                    (refine hK.out _ _ ?_ (fun hHeld => ?_); (focus (exact ⟨cell_below B231 o0, cell_below B231 o1, cell_below B231 o2, cell_below B231 o3⟩)); clear hK K; (try simp only [Act.put, List.setIfInBounds_toArray, List.set_cons_zero, List.set_cons_succ, List.getElem_toArray, List.getElem_cons_zero, List.getElem_cons_succ]))
                    refine wpAnyH_ready (rs := [4]) (by kernel_rfl) (by simp) (AllReadyH.cons rfl (fun K hK => ?g235x4) AllReadyH.nil)
                    case g235x4 =>
                      (try simp only [List.getElem_toArray, List.getElem_cons_zero, List.getElem_cons_succ])
                      obtain ⟨es236, c237, e238, f239⟩ := M232
                      have hn240 := ins_int un_map un_int e238 (MapIs.keys (w := wi229) f239) p (ratV m3) (mget_none f239 _ (fun f hf => by simp only [List.mem_cons, List.not_mem_nil, or_false] at hf; subst hf; exact Ne.symm hpw))
                      obtain ⟨wi241, e242⟩ : ∃ W9 : World, W9 = setBlock wi229 (wn189.heap.size) (.map (es236.push { key := .int .i64 (p), val := ratV m3, born := c237 }) (c237 + 1)) := ⟨_, rfl⟩
                      rw [← e242] at hn240
                      replace e242 := Lib.hid e242
                      simp only [ratV] at hn240
                      go_simp
                      have B243 : Below w7.heap.size w7 wi241 := by rw [e242.out]; exact below_setBlock B231 e238 hbb _
                      have M244 : MapIs wi241 (wn189.heap.size) [⟨wi, m4, (-1)⟩, ⟨p, m3, (-1)⟩] := by rw [e242.out]; exact MapIs.pushed e238 f239 ⟨p, m3, (-1)⟩
                      have q245 := q233.keeps (show Keeps 0 137 wi229 wi241 from by rw [e242.out]; exact keeps_setBlock e238 _ _)
                      have q246 := q234.keeps (show Keeps 0 137 wi229 wi241 from by rw [e242.out]; exact keeps_setBlock e238 _ _)
                      clear e242 hn240
                      (refine hK.out _ _ ?_ (fun hHeld => ?_); (focus (exact ⟨cell_below B243 o0, cell_below B243 o1, cell_below B243 o2, cell_below B243 o3⟩)); clear hK K; (try simp only [Act.put, List.setIfInBounds_toArray, List.set_cons_zero, List.set_cons_succ, List.getElem_toArray, List.getElem_cons_zero, List.getElem_cons_succ]))
                      (refine wpAnyH_take (i := 9) (v := ?_) rfl (by kernel_rfl) (by kernel_rfl) (by kernel_rfl) (fun _ _ _ h => h) (Or.inl ⟨by rfl, ?_⟩) (by assumption) ?_; rotate_left 1; (focus (intro w hSw; (try dsimp only at hSw); (try simp only [List.getElem_toArray, List.getElem_cons_zero, List.getElem_cons_succ]); go_simp; (try with_reducible rfl))); (try simp only [Act.put, List.setIfInBounds_toArray, List.set_cons_zero, List.set_cons_succ, List.getElem_toArray, List.getElem_cons_zero, List.getElem_cons_succ])); (refine wpAnyH_take (i := 10) (v := ?_) rfl (by kernel_rfl) (by kernel_rfl) (by kernel_rfl) (fun _ _ _ h => h) (Or.inl ⟨by rfl, ?_⟩) (by assumption) ?_; rotate_left 1; (focus (intro w hSw; (try dsimp only at hSw); (try simp only [List.getElem_toArray, List.getElem_cons_zero, List.getElem_cons_succ]); go_simp; (try with_reducible rfl))); (try simp only [Act.put, List.setIfInBounds_toArray, List.set_cons_zero, List.set_cons_succ, List.getElem_toArray, List.getElem_cons_zero, List.getElem_cons_succ]))
                      refine wpAnyH_done (by kernel_rfl) ?_ _
                      go_wp2_with fail
                      go_meet
                      exact ⟨_, [⟨wi, m4, (-1)⟩, ⟨p, m3, (-1)⟩], rfl, Lib.hid (fac_two M244 q246 q245 den_neg1 den_neg1 limR_neg1 limR_neg1), Lib.hid ((numAt_two _ _ (Ne.symm hpw)).trans (two_comm _ _ _ _ (Ne.symm hpw))), B243⟩
          case rest =>
            obtain ⟨b2, l2, rfl, hF2, hN2, B8⟩ := hcut
            obtain ⟨w8, e8⟩ : ∃ W9 : World, W9 = wc := ⟨_, rfl⟩
            subst e8
            have t2 := cell_below B8 t2
            have t3 := cell_below B8 t3
            have v0 := cell_below B8 v0
            have v4 := cell_below B8 v4
            have v5 := cell_below B8 v5
            have O := Lib.hid (own_below O.out B8)
            have R := Lib.hid (R.out.keeps (Keeps.of_below B8))
            have B := Lib.hid (below_then B.out B8)
            have hF1 := hF1.out.below B8
            have hG8 := HG.out w8 (below_then B1.out B.out)
            have HM1 := Lib.hid (fun W (hW : Below w8.heap.size w8 W) => form_any 0 b1 (wide + yl - at_ - up) l1 W (Nat.zero_le _) (hG8.below hW) (hF1.below hW) (by omega) (by omega))
            have HM2 := Lib.hid (fun W (hW : Below w8.heap.size w8 W) => form_any 0 b2 (at_ + lo + wide + yl) l2 W (Nat.zero_le _) (hG8.below hW) (hF2.out.below hW) (by omega) (by omega))
            rw [terms_two hN1.out hp48 hw48] at HM1
            rw [terms_two hN2.out hp48 hw48] at HM2
            have hs1 : ¬ 9223372036854775807 < name.size + 6 := by omega
            have u1 : IntKind.i64.wrap (wide + yl) = wide + yl := by rw [IntKind.wrap_i64]; omega
            have u2 : IntKind.i64.wrap (wide + yl - at_) = wide + yl - at_ := by rw [IntKind.wrap_i64]; omega
            have u3w : IntKind.i64.wrap (wide + yl - at_ - up) = wide + yl - at_ - up := by rw [IntKind.wrap_i64]; omega
            have u4 : IntKind.i64.wrap (at_ + lo) = at_ + lo := by rw [IntKind.wrap_i64]; omega
            have u5 : IntKind.i64.wrap (at_ + lo + wide) = at_ + lo + wide := by rw [IntKind.wrap_i64]; omega
            have u6 : IntKind.i64.wrap (at_ + lo + wide + yl) = at_ + lo + wide + yl := by rw [IntKind.wrap_i64]; omega
            have hB8s : W2.heap.size ≤ w8.heap.size := B.out.size
            clear B8 hF1 hF2 hN1 hN2 HN o0 o1 o2 o3 c0 c1 hG8
            go_wp2_with fail
            go_region_held3 (fun w' => w'.cell? ⟨wr.heap.size + 1, 0, none⟩ = some (.string name) ∧ w'.cell? ⟨wr.heap.size + 1, 4, none⟩ = some (.int .i64 at_) ∧ w'.cell? ⟨wr.heap.size + 1, 5, none⟩ = some (.int .i64 wide) ∧ w'.cell? ⟨wr.heap.size, 2, none⟩ = some (.int .i64 lo) ∧ w'.cell? ⟨wr.heap.size, 3, none⟩ = some (.int .i64 up))
              (first
                | exact ⟨q0, q4, q5, q2, q3⟩
                | exact ⟨cell_below B10 v0, cell_below B10 v4, cell_below B10 v5, cell_below B10 t2, cell_below B10 t3⟩
                | exact ⟨cell_below B9 v0, cell_below B9 v4, cell_below B9 v5, cell_below B9 t2, cell_below B9 t3⟩
                | exact ⟨cell_below (by repeat (first | exact Below.refl _ _ | apply below_alloc | apply below_drewN | apply below_drew)) (cell_below B10 v0), cell_below (by repeat (first | exact Below.refl _ _ | apply below_alloc | apply below_drewN | apply below_drew)) (cell_below B10 v4), cell_below (by repeat (first | exact Below.refl _ _ | apply below_alloc | apply below_drewN | apply below_drew)) (cell_below B10 v5), cell_below (by repeat (first | exact Below.refl _ _ | apply below_alloc | apply below_drewN | apply below_drew)) (cell_below B10 t2), cell_below (by repeat (first | exact Below.refl _ _ | apply below_alloc | apply below_drewN | apply below_drew)) (cell_below B10 t3)⟩
                | exact ⟨v0, v4, v5, t2, t3⟩)
              (first
                | (go_at_call 44; with_reducible refine (HM1.out _ ?hb9).mono ?_; (case hb9 => exact below_drew (Below.refl _ _)); intro e w9 hret; unfold RetForm at hret; dsimp only at hret; obtain ⟨A1, n1, c1', rfl, hr1, hb9⟩ := hret; have B9 := below_then (w := w8) (by repeat (first | exact Below.refl _ _ | apply below_alloc | apply below_drewN | apply below_drew)) hb9; clear hb9)
                | (go_at_call 44; with_reducible refine (HM2.out _ ?hb9).mono ?_; (case hb9 => exact B9); intro e w10 hret; unfold RetForm at hret; dsimp only at hret; obtain ⟨A2, n2, c2', rfl, hr2, hb10⟩ := hret; have B10 := below_then B9 hb10; have hr1 := hr1.below hb10; have O10 := Lib.hid (own_below O.out B10); have R10 := Lib.hid (R.out.keeps (Keeps.of_below B10)); have hsz10 : W2.heap.size ≤ w10.heap.size := Nat.le_trans hB8s B10.size; clear hb10)
                | (refine step_append_two W2.heap.size rfl (.tmp 61) (.tmp 94) 38 53 (.agg #[.string ByteArray.empty, .string ByteArray.empty, .slice none 0 0]) 3 56 rfl Tryz.underlying38 info_con rfl (by decide) (by decide) u3 rs.length (flat encC rs) [.string (name ++ ⟨#[46, 97, 98, 111, 118, 101]⟩), .string (bs (Lib.itoa (wide + yl - at_ - up))), .slice A1 n1 c1', .string (name ++ ⟨#[46, 98, 101, 108, 111, 119]⟩), .string (bs (Lib.itoa (at_ + lo + wide + yl))), .slice A2 n2 c2'] rfl rfl rfl (by simp [Value.oneCell']) O10.out hsz10 (by omega) ?_; intro v11 w11 hown11 hgr11; have q0 := grown_cell hgr11 (cell_below B10 v0) (fun k hk => by have := hk5.out k hk; show k ≠ wr.heap.size + 1; omega); have q4 := grown_cell hgr11 (cell_below B10 v4) (fun k hk => by have := hk5.out k hk; show k ≠ wr.heap.size + 1; omega); have q5 := grown_cell hgr11 (cell_below B10 v5) (fun k hk => by have := hk5.out k hk; show k ≠ wr.heap.size + 1; omega); have q2 := grown_cell hgr11 (cell_below B10 t2) (fun k hk => by have := hk5.out k hk; show k ≠ wr.heap.size; omega); have q3 := grown_cell hgr11 (cell_below B10 t3) (fun k hk => by have := hk5.out k hk; show k ≠ wr.heap.size; omega); have O11 := Lib.hid hown11; have G11 := Lib.hid hgr11; clear hown11 hgr11))
            go_wp2_with fail
            go_roundw
            case rel =>
              refine ⟨i + 1, rs ++ [⟨name ++ ⟨#[46, 97, 98, 111, 118, 101]⟩, wide + yl - at_ - up, A1, n1, c1'⟩, ⟨name ++ ⟨#[46, 98, 101, 108, 111, 119]⟩, at_ + lo + wide + yl, A2, n2, c2'⟩], by omega, by go_num, Lib.hid (own_cast O11.out (by simp) (by rw [flat_app]; rfl)), Lib.hid ?_, below_grownB (below_then B.out B10) hsz10 G11.out (fun k hk => (hk5.out k hk).1)⟩
              rw [hct.out]
              have K := Keeps.of_grown (base := 0) (e := 100) G11.out O10.out (Nat.zero_le _) (by decide)
              exact RowsOk.app (R10.out.keeps K) ⟨rfl, rfl, hr1.keeps K, rfl, by dsimp only; omega, hr2.keeps K, trivial⟩
            case measure => simp [intOf]; omega
    · obtain rfl : i = m := by omega
      have hl := hlenz.out
      obtain ⟨A9, c9, rfl, hc9⟩ := own_slice hown.out
      have B2 := below_then B1.out hb
      clear hb
      go_wp2_with fail
      go_ret
      exact ⟨A9, _, c9, rs, rfl, fun b => ⟨rfl, hc9, Reads.of_own hown.out⟩, by unfold consOf; rw [hl]; exact hrows.out, B2⟩
end Go.Proofs.YtpifbaiibhaklaaGreatDoor
