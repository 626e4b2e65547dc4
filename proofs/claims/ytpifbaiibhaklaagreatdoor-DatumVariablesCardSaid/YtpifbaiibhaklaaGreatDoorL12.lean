/- The model's variables: the limits of a zone; the closure that lays a variable and its key.
  The model's variables: the state of its loop; the closure in its words.
  The model's variables: the walk. -/
import Derived.Test.YtpifbaiibhaklaaGreatDoorL9
import Derived.Test.YtpifbaiibhaklaaGreatDoorL4
import Derived.Test.YtpifbaiibhaklaaGreatDoorL5
namespace Go.Proofs.YtpifbaiibhaklaaGreatDoor
open Go.RowKit Big
set_option maxHeartbeats 4000000
set_option linter.unusedVariables false
set_option linter.unusedSimpArgs false

set_option maxRecDepth 100000 in
theorem limits_any (base : Nat) (A Bz : Option Addr) (n c m d : Nat) (zs : List Zon) (fe ki : Int) (w : World) (hz : IsZs base 30 w Bz m d zs) (hm : m ≤ 1000000) :
    Calls Tryz.prog 41 #[.agg #[.slice A n c, .slice Bz m d], .int .i64 fe, .int .i64 ki] w fun e w' => e = .returned (.tuple #[.int .i64 ((zoneOf zs fe ki).getD zd).lower, .int .i64 ((zoneOf zs fe ki).getD zd).upper]) ∧ Below w.heap.size w w' := by
  have H := Lib.hid (fun W (hW : Below w.heap.size w W) => mzone_any base A Bz n c m d zs fe ki W (hz.below hW) hm)
  rcases idxI_cases (zoneP fe ki) zs zd with ⟨_, hi, hf⟩ | ⟨i, hl, hi, hf⟩
  · rw [show zoneOf zs fe ki = none from hf]
    rw [hi] at H
    clear hz hi hf
    go_enter Tryz.func41, Tryz.ntmps41
    go_wp2_with fail
    refine (H.out _ (by repeat (first | exact Below.refl _ _ | with_reducible assumption | apply below_alloc | apply below_drewN | apply below_drew | refine below_set ?_ (by simp; try omega) _ | refine below_then ?_ (by with_reducible assumption)))).mono ?_
    rintro e w1 ⟨rfl, hb⟩
    have B1 := Lib.hid (below_then (w := w) (by repeat (first | exact Below.refl _ _ | with_reducible assumption | apply below_alloc | apply below_drewN | apply below_drew | refine below_set ?_ (by simp; try omega) _ | refine below_then ?_ (by with_reducible assumption))) hb)
    clear hb H
    go_wp2_with fail
    go_ret2
    exact ⟨rfl, B1.out⟩
  · rw [show zoneOf zs fe ki = some _ from hf]
    rw [hi] at H
    have hlm : i < m := by rw [← hz.len]; exact hl
    have i0 : (0 : Int) ≤ (i : Int) := by omega
    have i1 : (i : Int) < (m : Int) := by omega
    obtain ⟨ad, ea, c0, c1, c2, c3, c4⟩ := IsZs.cells hz i hlm
    subst ea
    clear hz hi hf hl c0 c1 c4
    generalize zs.getD i zd = z at *
    obtain ⟨zk, zf, zl, zu, zb⟩ := z
    dsimp only at c2 c3
    go_enter Tryz.func41, Tryz.ntmps41
    go_wp2_with fail
    refine (H.out _ (by repeat (first | exact Below.refl _ _ | with_reducible assumption | apply below_alloc | apply below_drewN | apply below_drew | refine below_set ?_ (by simp; try omega) _ | refine below_then ?_ (by with_reducible assumption)))).mono ?_
    rintro e w1 ⟨rfl, hb⟩
    have a0 := keptc hb w.heap.size 0 (.slice A n c) (by simp [go_sem])
    have a1 := keptc hb w.heap.size 1 (.slice (some ad) m d) (by simp [go_sem])
    have B1 := Lib.hid (below_then (w := w) (by repeat (first | exact Below.refl _ _ | with_reducible assumption | apply below_alloc | apply below_drewN | apply below_drew | refine below_set ?_ (by simp; try omega) _ | refine below_then ?_ (by with_reducible assumption))) hb)
    have c2 := cell_below B1.out c2
    have c3 := cell_below B1.out c3
    clear hb H
    go_wp2_with fail
    go_quiet (fail)
    go_wp2_with fail
    go_ret2
    exact ⟨rfl, by have := B1.out; exact (by repeat (first | exact Below.refl _ _ | with_reducible assumption | apply below_alloc | apply below_drewN | apply below_drew | refine below_set ?_ (by simp; try omega) _ | refine below_then ?_ (by with_reducible assumption)))⟩

/-- What a call leaves of memory: the blocks that B names are as they were. -/
structure Only (B : Nat → Prop) (w w' : World) : Prop where
  os : w'.os = w.os
  tape : w'.tape = w.tape
  output : w'.output = w.output
  size : w.heap.size ≤ w'.heap.size
  block : ∀ k, k < w.heap.size → B k → w'.heap[k]? = w.heap[k]?
theorem Only.below {B : Nat → Prop} {w w' : World} (h : Only B w w') {n : Nat} (hn : n ≤ w.heap.size) (hB : ∀ k, k < n → B k) : Below n w w' := ⟨h.os, h.tape, h.output, h.size, fun k hk => h.block k (by omega) (hB k hk)⟩
theorem Only.cell {B : Nat → Prop} {w w' : World} (h : Only B w w') {a : Addr} {v : Value} (hc : w.cell? a = some v) (hB : B a.block) : w'.cell? a = some v :=
  (World.cell?_of_block (h.block a.block (World.block_lt_of_cell? w a hc) hB)).trans hc
theorem Only.frozen {B : Nat → Prop} {w w' : World} (h : Only B w w') {a : Addr} {b : Bool} (hlt : a.block < w.heap.size) (hB : B a.block) (hf : w.frozen? a = b) : w'.frozen? a = b :=
  (World.frozen?_of_block (h.block a.block hlt hB)).trans hf
theorem setC_size (w : World) (p : Addr) (u : Value) : (w.setCell p u).heap.size = w.heap.size := by simp [World.setCell]
theorem own_disj {w : World} {b b' : Nat} {e e' : TypeId} {s s' n n' : Nat} {v v' : Value} {xs ys : List Value} (h : w.ownsRow b e s v n xs) (h' : w.ownsRow b' e' s' v' n' ys) (hne : e ≠ e') : v'.ownBlock = none ∨ v'.ownBlock ≠ v.ownBlock := by
  rcases h'.2 with ⟨rfl, _⟩ | ⟨g, cap, cur, rfl, _, hh, _⟩
  · exact .inl rfl
  · exact .inr (own_ne h (show typ w g = some e' by simp [typ, hh, otyp]) hne)
theorem info_key : (Tryz.prog.info? 61).map (fun i => (i.zero, i.size, i.bytes)) = some (some (.agg #[.int .i64 0, .int .i64 0]), 2, 16) := by kernel_rfl

set_option maxRecDepth 100000 in
theorem add_any (base b1 b2 : Nat) (v1 v2 : Value) (n1 n2 : Nat) (xs ys : List Value) (i ki nom lo up : Int) (name : ByteArray) (w : World)
    (p1 : w.cell? ⟨b1, 0, none⟩ = some v1) (p2 : w.cell? ⟨b2, 0, none⟩ = some v2) (f1 : w.frozen? ⟨b1, 0, none⟩ = false) (f2 : w.frozen? ⟨b2, 0, none⟩ = false) (h1 : b1 < base) (h2 : b2 < base) (h12 : b1 ≠ b2) (hbase : base ≤ w.heap.size)
    (o1 : w.ownsRow base 46 4 v1 n1 xs) (o2 : w.ownsRow base 61 2 v2 n2 ys) (hn1 : n1 ≤ 1000) (hn2 : n2 ≤ 1000) :
    Calls Tryz.prog 40 #[.int .i64 i, .int .i64 ki, .string name, .int .i64 nom, .int .i64 lo, .int .i64 up, .pointer (some ⟨b1, 0, none⟩), .pointer (some ⟨b2, 0, none⟩)] w fun e w' => e = .returned (.tuple #[]) ∧ ∃ u1 u2,
      w'.cell? ⟨b1, 0, none⟩ = some u1 ∧ w'.cell? ⟨b2, 0, none⟩ = some u2 ∧ w'.frozen? ⟨b1, 0, none⟩ = false ∧ w'.frozen? ⟨b2, 0, none⟩ = false ∧
      (∀ k, u1.ownBlock = some k → v1.ownBlock = some k ∨ w.heap.size ≤ k) ∧ (∀ k, u2.ownBlock = some k → v2.ownBlock = some k ∨ w.heap.size ≤ k) ∧
      w'.ownsRow base 46 4 u1 (n1 + 1) (xs ++ [.string name, .int .i64 nom, .int .i64 lo, .int .i64 up]) ∧ w'.ownsRow base 61 2 u2 (n2 + 1) (ys ++ [.int .i64 i, .int .i64 ki]) ∧
      Only (fun k => k ≠ b1 ∧ k ≠ b2 ∧ some k ≠ v1.ownBlock ∧ some k ≠ v2.ownBlock) w w' := by
  have hl1 : b1 < w.heap.size := by omega
  have hl2 : b2 < w.heap.size := by omega
  have hd1 : ¬ b1 = w.heap.size := by omega
  have hd2 : ¬ b2 = w.heap.size := by omega
  have h21 : ¬ b2 = b1 := fun e => h12 e.symm
  have h12' : ¬ b1 = b2 := h12
  have hO1 := Lib.hid o1
  have hO2 := Lib.hid o2
  clear o1 o2
  go_enter Tryz.func40, Tryz.ntmps40
  have hdis := own_disj hO1.out hO2.out (by decide)
  go_wp2_with (first
    | (at_builtin; (refine append_cells base rfl (.tmp 14) (.tmp 20) 31 46 (.agg #[.string ByteArray.empty, .int .i64 0, .int .i64 0, .int .i64 0]) 4 40 rfl Tryz.underlying31 info_dim rfl (by decide) (by decide) v1 n1 xs [.string name, .int .i64 nom, .int .i64 lo, .int .i64 up] rfl rfl rfl (by simp [Value.oneCell']) hO1.out hbase (by omega) ?_); intro v8 w8 hown8 hgr8 hat8; obtain ⟨A8, c8, rfl, hc8⟩ := own_slice hown8; have q1 := grown_cell hgr8 p1 (fun k hk => by have := own_base hO1.out k hk; show k ≠ b1; omega); have q2 := grown_cell hgr8 p2 (fun k hk => by have := own_base hO1.out k hk; show k ≠ b2; omega); have g1 := (hgr8.frozen_far ⟨b1, 0, none⟩ hl1 (fun e => by have := own_base hO1.out _ e.symm; simp at this; omega)).trans f1; have g2 := (hgr8.frozen_far ⟨b2, 0, none⟩ hl2 (fun e => by have := own_base hO1.out _ e.symm; simp at this; omega)).trans f2; have O1 := Lib.hid hown8; have O2 := Lib.hid (hO2.out.kept hgr8 hdis); have G8 := Lib.hid hgr8; have T8 := Lib.hid hat8; clear hat8; have hs8 : w.heap.size ≤ w8.heap.size := hgr8.size; have hx1 : ¬ b1 = w8.heap.size := (by omega); have hx2 : ¬ b2 = w8.heap.size := (by omega); have hy1 : b1 < w8.heap.size := (by omega); have hy2 : b2 < w8.heap.size := (by omega); clear hown8 hgr8)
    | (at_builtin; go_must (refine append_cells base rfl (.tmp 22) (.tmp 26) 41 61 (.agg #[.int .i64 0, .int .i64 0]) 2 16 rfl Tryz.underlying41 info_key rfl (by decide) (by decide) v2 n2 ys [.int .i64 i, .int .i64 ki] rfl (by rw [setC_size]; rfl) rfl (by simp [Value.oneCell']) (own_set O2.out (p := ⟨b1, 0, none⟩) (fun e => by have := own_base O2.out _ e.symm; simp at this; omega) _) (by simp [World.setCell]; omega) (by omega) ?_); intro v9 w9 hown9 hgr9 hat9; obtain ⟨A9, c9, rfl, hc9⟩ := own_slice hown9; have O2s := own_set O2.out (p := ⟨b1, 0, none⟩) (fun e => by have := own_base O2.out _ e.symm; simp at this; omega) (.slice A8 (n1 + 1) c8); have O1s := own_set O1.out (p := ⟨b1, 0, none⟩) (fun e => by have := own_base O1.out _ e.symm; simp at this; omega) (.slice A8 (n1 + 1) c8); have O1k := Lib.hid (O1s.kept hgr9 (own_disj O2s O1s (by decide))); have r1 := grown_cell hgr9 (World.cell?_setCell_same w8 ⟨b1, 0, none⟩ (.slice A8 (n1 + 1) c8) q1) (fun k hk => by have := own_base O2.out k hk; show k ≠ b1; omega); have r2 := grown_cell hgr9 ((World.cell?_setCell_other w8 ⟨b1, 0, none⟩ ⟨b2, 0, none⟩ (.slice A8 (n1 + 1) c8) (fun e => by have := congrArg Addr.block e; simp at this; omega)).trans q2) (fun k hk => by have := own_base O2.out k hk; show k ≠ b2; omega); have k1 := (hgr9.frozen_far ⟨b1, 0, none⟩ (by rw [setC_size]; exact hy1) (fun e => by have := own_base O2.out _ e.symm; simp at this; omega)).trans ((World.frozen?_setCell _ _ _ _).trans g1); have k2 := (hgr9.frozen_far ⟨b2, 0, none⟩ (by rw [setC_size]; exact hy2) (fun e => by have := own_base O2.out _ e.symm; simp at this; omega)).trans ((World.frozen?_setCell _ _ _ _).trans g2); have O2k := Lib.hid hown9; have G9 := Lib.hid hgr9; have T9 := Lib.hid hat9; clear hat9; clear hown9 hgr9 O2s O1s))
  go_end0
  refine ⟨rfl, .slice A8 (n1 + 1) c8, .slice A9 (n2 + 1) c9, (World.cell?_setCell_other _ _ _ _ (fun e => by have := congrArg Addr.block e; simp at this; omega)).trans r1, World.cell?_setCell_same _ _ _ r2, (World.frozen?_setCell _ _ _ _).trans k1, (World.frozen?_setCell _ _ _ _).trans k2, T8.out, fun k hk => (T9.out k hk).imp_right fun h => by rw [setC_size] at h; omega,
    own_set O1k.out (fun e => by have := own_base O1k.out _ e.symm; simp at this; omega) _, own_set O2k.out (fun e => by have := own_base O2k.out _ e.symm; simp at this; omega) _, ?_⟩
  refine ⟨(G9.out.os.trans G8.out.os : _), (G9.out.tape.trans G8.out.tape : _), (G9.out.output.trans G8.out.output : _), ?_, fun k hk ⟨e1, e2, e3, e4⟩ => ?_⟩
  · have := G9.out.size
    rw [setC_size] at this ⊢
    omega
  · rw [Below.heap_setCell _ _ _ _ (by simpa using e2), G9.out.block k (by rw [setC_size]; omega) e4, Below.heap_setCell _ _ _ _ (by simpa using e1)]
    exact G8.out.block k hk e3
end Go.Proofs.YtpifbaiibhaklaaGreatDoor
namespace Go.Proofs.YtpifbaiibhaklaaGreatDoor
open Go.RowKit Big
set_option maxHeartbeats 4000000
set_option linter.unusedVariables false
set_option linter.unusedSimpArgs false

theorem ba_nil (s : ByteArray) : s ++ (⟨#[]⟩ : ByteArray) = s := by
  apply ByteArray.ext
  simp [ByteArray.data_append]
def zo (s : Sch) (i : Nat) (k : Int) : Zon := (zoneOf s.zs i k).getD zd
theorem dim_1 (s : Sch) (i : Nat) : dimOf s ⟨i, 1⟩ = ⟨(s.fs.getD i fd).name, (s.fs.getD i fd).at_, if (zo s i 1).bonus = true then (zo s i 1).lower - ((zo s i 2).upper - (zo s i 2).lower) else (zo s i 1).lower, if (zo s i 1).bonus = true then (zo s i 1).upper + ((zo s i 2).upper - (zo s i 2).lower) else (zo s i 1).upper⟩ := by
  unfold dimOf zo nominalOf
  simp [suf, ba_nil]
theorem Fine.nobonus {s : Sch} (h : Fine s) (fe k : Int) (hk : k ≠ 1) : ((Go.Proofs.YtpifbaiibhaklaaGreatDoor.zoneOf s.zs fe k).getD zd).bonus = false := by
  cases hz : Go.Proofs.YtpifbaiibhaklaaGreatDoor.zoneOf s.zs fe k with
  | none => rfl
  | some z =>
    obtain ⟨h1, _, h3⟩ := h.zoneOf fe k hz
    cases hb : z.bonus with
    | false => simpa using hb
    | true => exact absurd (.inr (.inr ⟨hb, .inl (by omega)⟩)) h1.form
theorem Fine.noform {s : Sch} (h : Fine s) (i : Nat) (hk : (s.fs.getD i fd).kind = 2) : Go.Proofs.YtpifbaiibhaklaaGreatDoor.zoneOf s.zs i 3 = none := by
  cases hz : Go.Proofs.YtpifbaiibhaklaaGreatDoor.zoneOf s.zs i 3 with
  | none => rfl
  | some z =>
    obtain ⟨h1, h2, h3⟩ := h.zoneOf i 3 hz
    refine absurd (.inr (.inl ⟨h3, ?_⟩)) h1.form
    rw [h2, Int.toNat_natCast, hk]; rfl
theorem dim_2 {s : Sch} (h : Fine s) (i : Nat) : dimOf s ⟨i, 2⟩ = ⟨(s.fs.getD i fd).name ++ ⟨#[46, 115, 105, 122, 101]⟩, (s.fs.getD i fd).wide, (zo s i 2).lower, (zo s i 2).upper⟩ := by
  have hb := h.nobonus i 2 (by decide)
  unfold dimOf zo nominalOf
  simp [suf, hb]
theorem dim_3 {s : Sch} (h : Fine s) (i : Nat) : dimOf s ⟨i, 3⟩ = ⟨(s.fs.getD i fd).name ++ ⟨#[46, 102, 111, 114, 109]⟩, 0, (zo s i 3).lower, (zo s i 3).upper⟩ := by
  have hb := h.nobonus i 3 (by decide)
  unfold dimOf zo nominalOf
  simp [suf, hb]

/-- The state within a round: the boxes of the scheme, of the two rows and of the feature, and the two rows. -/
structure MV (A : Option Addr) (n c : Nat) (Bz : Option Addr) (m d : Nat) (s : Sch) (w : World) (f : Feat) (g : Nat) (l : List Vr) (W : World) : Prop where
  st : ∃ v1 v2, W.cell? ⟨w.heap.size + 1, 0, none⟩ = some v1 ∧ W.cell? ⟨w.heap.size + 1 + 1, 0, none⟩ = some v2 ∧ W.ownsRow (w.heap.size + 3) 46 4 v1 l.length (flat encD (l.map (dimOf s))) ∧ W.ownsRow (w.heap.size + 3) 61 2 v2 l.length (flat encV l) ∧
    (∀ k, v1.ownBlock = some k → k ≠ g) ∧ (∀ k, v2.ownBlock = some k → k ≠ g)
  k1 : W.frozen? ⟨w.heap.size + 1, 0, none⟩ = false
  k2 : W.frozen? ⟨w.heap.size + 1 + 1, 0, none⟩ = false
  c0 : W.cell? ⟨w.heap.size, 0, none⟩ = some (.slice A n c)
  c1 : W.cell? ⟨w.heap.size, 1, none⟩ = some (.slice Bz m d)
  y : ∀ j u, (encF f)[j]? = some u → W.cell? ⟨g, j, none⟩ = some u
  hg : w.heap.size + 1 + 1 < g
  hgl : g < W.heap.size
  B : Below w.heap.size w W
section
variable {A : Option Addr} {n c : Nat} {Bz : Option Addr} {m d : Nat} {s : Sch} {w : World} {f : Feat} {g : Nat} {l : List Vr} {W W' : World}
theorem MV.below (h : MV A n c Bz m d s w f g l W) (hb : Below W.heap.size W W') : MV A n c Bz m d s w f g l W' := by
  have hg := h.hg
  have hgl := h.hgl
  obtain ⟨v1, v2, p1, p2, o1, o2, e1, e2⟩ := h.st
  exact ⟨⟨v1, v2, cell_below hb p1, cell_below hb p2, own_below o1 hb, own_below o2 hb, e1, e2⟩, (hb.frozen (p := ⟨w.heap.size + 1, 0, none⟩) (by simp; omega)).trans h.k1, (hb.frozen (p := ⟨w.heap.size + 1 + 1, 0, none⟩) (by simp; omega)).trans h.k2, cell_below hb h.c0, cell_below hb h.c1,
    fun j u hu => cell_below hb (h.y j u hu), hg, Nat.lt_of_lt_of_le hgl hb.size, below_then h.B hb⟩
theorem MV.cells (h : MV A n c Bz m d s w f g l W) : W.cell? ⟨w.heap.size, 0, none⟩ = some (.slice A n c) ∧ W.cell? ⟨w.heap.size, 1, none⟩ = some (.slice Bz m d) ∧ W.cell? ⟨g, 0, none⟩ = some (.string f.name) ∧ W.cell? ⟨g, 1, none⟩ = some (.int .i64 f.kind) ∧ W.cell? ⟨g, 4, none⟩ = some (.int .i64 f.at_) ∧ W.cell? ⟨g, 5, none⟩ = some (.int .i64 f.wide) :=
  ⟨h.c0, h.c1, h.y 0 _ rfl, h.y 1 _ rfl, h.y 4 _ rfl, h.y 5 _ rfl⟩
theorem MV.add (h : MV A n c Bz m d s w f g l W) (hl : l.length ≤ 1000) (i : Nat) (ki nom lo up : Int) (name : ByteArray) (hd : dimOf s ⟨i, ki⟩ = ⟨name, nom, lo, up⟩) :
    Calls Tryz.prog 40 #[.int .i64 (i : Int), .int .i64 ki, .string name, .int .i64 nom, .int .i64 lo, .int .i64 up, .pointer (some ⟨w.heap.size + 1, 0, none⟩), .pointer (some ⟨w.heap.size + 1 + 1, 0, none⟩)] W fun e W' => e = .returned (.tuple #[]) ∧ MV A n c Bz m d s w f g (l ++ [⟨i, ki⟩]) W' := by
  have hg := h.hg
  have hgl := h.hgl
  obtain ⟨v1, v2, p1, p2, o1, o2, e1, e2⟩ := h.st
  refine (add_any (w.heap.size + 3) _ _ v1 v2 _ _ _ _ i ki nom lo up name W p1 p2 h.k1 h.k2 (by omega) (by omega) (by omega) (by omega) o1 o2 hl hl).mono ?_
  rintro e W' ⟨rfl, u1, u2, q1, q2, j1, j2, t1, t2, r1, r2, hO⟩
  refine ⟨rfl, ⟨⟨u1, u2, q1, q2, ?_, ?_, ?_, ?_⟩, j1, j2, hO.cell h.c0 ⟨by simp, by simp; omega, ?_, ?_⟩, hO.cell h.c1 ⟨by simp, by simp; omega, ?_, ?_⟩, fun j u hu => hO.cell (h.y j u hu) ⟨by simp; omega, by simp; omega, fun e => e1 _ e.symm rfl, fun e => e2 _ e.symm rfl⟩, hg, Nat.lt_of_lt_of_le hgl hO.size, h.B.trans (hO.below (by omega) (fun k hk => ⟨by omega, by omega, ?_, ?_⟩))⟩⟩
  · exact own_cast r1 (by simp) (by rw [List.map_append, flat_app, List.map_cons, hd]; rfl)
  · exact own_cast r2 (by simp) (by rw [flat_app]; rfl)
  · intro k hk
    rcases t1 k hk with h1 | h1
    · exact e1 k h1
    · omega
  · intro k hk
    rcases t2 k hk with h1 | h1
    · exact e2 k h1
    · omega
  · intro e; have := own_base o1 _ e.symm; simp at this; omega
  · intro e; have := own_base o2 _ e.symm; simp at this; omega
  · intro e; have := own_base o1 _ e.symm; simp at this; omega
  · intro e; have := own_base o2 _ e.symm; simp at this; omega
  · intro e; have := own_base o1 _ e.symm; omega
  · intro e; have := own_base o2 _ e.symm; omega
end
end Go.Proofs.YtpifbaiibhaklaaGreatDoor
namespace Go.Proofs.YtpifbaiibhaklaaGreatDoor
open Go.RowKit Big
set_option maxHeartbeats 40000000
set_option linter.unusedVariables false
set_option linter.unusedSimpArgs false

/-- The variables, and their keys. -/
def RetMV (s : Sch) (w : World) (e : Ending) (w' : World) : Prop := ∃ A1 n1 c1 A2 n2 c2, e = .returned (.tuple #[.slice A1 n1 c1, .slice A2 n2 c2]) ∧ (∀ b, IsRow encD 4 b 46 w' A1 n1 c1 (dimsOf s)) ∧ (∀ b, IsRow encV 2 b 61 w' A2 n2 c2 (varsOf s)) ∧ Below w.heap.size w w'

set_option maxRecDepth 100000 in
theorem mvariables_any (base : Nat) (A Bz : Option Addr) (n c m d : Nat) (s : Sch) (w : World) (hf : IsFs base 28 w A n c s.fs) (hz : IsZs base 30 w Bz m d s.zs) (hfine : Fine s) :
    Calls Tryz.prog 13 #[.agg #[.slice A n c, .slice Bz m d]] w (RetMV s w) := by
  have hn : n ≤ 16 := by have := hfine.nf; rw [hf.len] at this; exact this
  have hm : m ≤ 32 := by have := hfine.nz; rw [hz.len] at this; exact this
  have HZ := Lib.hid (fun (fe ki : Int) W (hW : Below w.heap.size w W) => mzone_any base A Bz n c m d s.zs fe ki W (hz.below hW) (by omega))
  have HL := Lib.hid (fun (fe ki : Int) W (hW : Below w.heap.size w W) => limits_any base A Bz n c m d s.zs fe ki W (hz.below hW) (by omega))
  have HF := Lib.hid (fun (i : Nat) (hi : i < n) => IsFs.cells hf i hi)
  have HC := Lib.hid (fun (j : Nat) (hj : j < m) => IsZs.cells hz j hj)
  have hlen := Lib.hid hf.len
  have hzl := Lib.hid hz.len
  have hfine := Lib.hid hfine
  clear hf hz
  go_enter Tryz.func13, Tryz.ntmps13
  go_wp2_with fail
  go_loopw [20] (fun q wr => ∃ (i : Nat) (v1 v2 : Value), i ≤ n ∧ q = .int .i64 (i : Int) ∧ wr.cell? ⟨w.heap.size + 1, 0, none⟩ = some v1 ∧ wr.cell? ⟨w.heap.size + 1 + 1, 0, none⟩ = some v2 ∧ wr.frozen? ⟨w.heap.size + 1, 0, none⟩ = false ∧ wr.frozen? ⟨w.heap.size + 1 + 1, 0, none⟩ = false ∧
      Hid (wr.ownsRow (w.heap.size + 3) 46 4 v1 (varsTo s i).length (flat encD ((varsTo s i).map (dimOf s)))) ∧ Hid (wr.ownsRow (w.heap.size + 3) 61 2 v2 (varsTo s i).length (flat encV (varsTo s i))) ∧
      wr.cell? ⟨w.heap.size, 0, none⟩ = some (.slice A n c) ∧ wr.cell? ⟨w.heap.size, 1, none⟩ = some (.slice Bz m d) ∧ Below w.heap.size w wr) (fun q _ => n - (intOf q).toNat)
  case atStart => exact ⟨0, .slice none 0 0, .slice none 0 0, Nat.zero_le _, rfl, by simp [go_sem], by simp [go_sem], by simp [go_sem], by simp [go_sem], Lib.hid (own_nil _ _ _ _), Lib.hid (own_nil _ _ _ _), by simp [go_sem], by simp [go_sem], (by repeat (first | exact Below.refl _ _ | with_reducible assumption | apply below_alloc | apply below_drewN | apply below_drew | refine below_set ?_ (by simp; try omega) _ | refine below_then ?_ (by with_reducible assumption)))⟩
  case round =>
    obtain ⟨i, v1, v2, hi, rfl, p1, p2, k1, k2, o1, o2, c0, c1, hb⟩ := hrel
    by_cases hlt : i < n
    · have hcnt := varsTo_len s i
      have hl2 := World.block_lt_of_cell? wr _ p2
      have hl1 := World.block_lt_of_cell? wr _ p1
      have hl0 := World.block_lt_of_cell? wr _ c0
      dsimp only at hl0 hl1 hl2
      obtain ⟨ad, ea, x0, x1, x2, x3, x4, x5⟩ := HF.out i hlt
      subst ea
      have x0 := cell_below hb x0
      have x1 := cell_below hb x1
      have x2 := cell_below hb x2
      have x3 := cell_below hb x3
      have x4 := cell_below hb x4
      have x5 := cell_below hb x5
      have hok := hfine.out.featOk i (by rw [hlen.out]; exact hlt)
      have hVT : varsTo s (i + 1) = varsTo s i ++ ([⟨i, 1⟩] ++ (if (s.fs.getD i fd).kind = 2 then [⟨i, 2⟩] else []) ++ (if (zoneOf s.zs i 3).isSome = true then [⟨i, 3⟩] else [])) := rfl
      have hd1 := dim_1 s i
      have hd2 := dim_2 hfine.out i
      have hd3 := dim_3 hfine.out i
      have hnf := hfine.out.noform i
      have b1 := hfine.out.bounds i 1
      have b2 := hfine.out.bounds i 2
      have HZ1 := Lib.hid (fun W (hW : Below w.heap.size w W) => HZ.out i 1 W hW)
      have HZ3 := Lib.hid (fun W (hW : Below w.heap.size w W) => HZ.out i 3 W hW)
      have HL1 := Lib.hid (fun W (hW : Below w.heap.size w W) => HL.out i 1 W hW)
      have HL2 := Lib.hid (fun W (hW : Below w.heap.size w W) => HL.out i 2 W hW)
      have HL3 := Lib.hid (fun W (hW : Below w.heap.size w W) => HL.out i 3 W hW)
      rw [show (zoneOf s.zs i 1).getD zd = zo s i 1 from rfl] at b1 HL1
      rw [show (zoneOf s.zs i 2).getD zd = zo s i 2 from rfl] at b2 HL2
      rw [show (zoneOf s.zs i 3).getD zd = zo s i 3 from rfl] at HL3
      have e1 := idxI_cases (zoneP i 1) s.zs zd
      have e3 := idxI_cases (zoneP i 3) s.zs zd
      rw [show s.zs.find? (zoneP i 1) = zoneOf s.zs i 1 from rfl] at e1
      rw [show s.zs.find? (zoneP i 3) = zoneOf s.zs i 3 from rfl] at e3
      have hz1 : ∀ o, zoneOf s.zs i 1 = o → zo s i 1 = o.getD zd := fun o h => by unfold zo; rw [h]
      have hi0 : (0 : Int) ≤ (i : Int) := by omega
      have hin : (i : Int) < (n : Int) := by omega
      have hne0 : ¬ w.heap.size = wr.heap.size := by omega
      generalize (s.fs.getD i fd) = f at *
      obtain ⟨name, kind, axis, datum, at_, wide⟩ := f
      dsimp only at x0 x1 x2 x3 x4 x5 hd1 hd2 hd3 hVT hnf
      have hnm : name.size ≤ 30 := hok.len
      have hs1 : ¬ 9223372036854775807 < name.size := by omega
      have hs2 : ¬ 9223372036854775807 < name.size + 5 := by omega
      have hkd := hok.kind
      dsimp only at hkd
      have hA : Below wr.heap.size wr (wr.alloc (.cells #[.string name, .int .i64 kind, .int .i64 axis, .int .i64 datum, .int .i64 at_, .int .i64 wide] 28)) := below_alloc (Below.refl _ _)
      have M0 : MV (some ad) n c Bz m d s w ⟨name, kind, axis, datum, at_, wide⟩ wr.heap.size (varsTo s i) (wr.alloc (.cells #[.string name, .int .i64 kind, .int .i64 axis, .int .i64 datum, .int .i64 at_, .int .i64 wide] 28)) :=
        ⟨⟨v1, v2, cell_below hA p1, cell_below hA p2, own_below o1.out hA, own_below o2.out hA, fun k hk => Nat.ne_of_lt (own_lt o1.out k hk), fun k hk => Nat.ne_of_lt (own_lt o2.out k hk)⟩, (hA.frozen (p := ⟨w.heap.size + 1, 0, none⟩) hl1).trans k1, (hA.frozen (p := ⟨w.heap.size + 1 + 1, 0, none⟩) hl2).trans k2, cell_below hA c0, cell_below hA c1,
          fun j u hu => by
            have hh := heap_alloc_new wr (.cells #[.string name, .int .i64 kind, .int .i64 axis, .int .i64 datum, .int .i64 at_, .int .i64 wide] 28)
            simp only [World.cell?, hh]
            simpa [encF] using hu, by omega, by rw [alloc_size]; omega, below_then hb hA⟩
      have M0 := Lib.hid M0
      have hl : (varsTo s i).length ≤ 100 := by omega
      clear hok HZ HL HF hA p1 p2 k1 k2 o1 o2
      rcases e1 with ⟨_, g1, g2⟩ | ⟨j, gl, g1, g2⟩
      · have hb0 : (zo s i 1).bonus = false := by rw [hz1 _ g2]; rfl
        rw [g1] at HZ1
        clear g1 g2 hz1 HC
        generalize zo s i 1 = z1 at *
        generalize zo s i 2 = z2 at *
        obtain ⟨zk1, zf1, lo1, up1, bo1⟩ := z1
        obtain ⟨zk2, zf2, lo2, up2, bo2⟩ := z2
        dsimp only at hb0 hd1 hd2 b1 b2 HL1 HL2
        subst hb0
        rw [if_neg (by decide), if_neg (by decide)] at hd1
        obtain ⟨b11, b12, b13, b14⟩ := b1
        obtain ⟨b21, b22, b23, b24⟩ := b2
        rcases hkd with rfl | rfl
        · rw [if_neg (by decide), List.append_nil] at hVT
          rcases e3 with ⟨_, g3, g4⟩ | ⟨j3, gl3, g3, g4⟩
          · rw [g3] at HZ3
            rw [g4] at hVT
            rw [if_neg (by simp), List.append_nil] at hVT
            clear HL3 hd2 hd3 hnf g3 g4
            go_wp2_with fail
            refine (HL1.out _ M0.out.B).mono ?_
            rintro e w1 ⟨rfl, hb1⟩
            clear c0 c1 x0 x1 x2 x3 x4 x5 hb
            have M := Lib.hid (M0.out.below hb1)
            obtain ⟨c0, c1, y0, y1, y4, y5⟩ := M.out.cells; have hgl := M.out.hgl
            clear hb1
            go_wp2_with fail
            refine (HL2.out _ M.out.B).mono ?_
            rintro e w2 ⟨rfl, hb2⟩
            clear c0 c1 y0 y1 y4 y5 hgl
            have M := Lib.hid (M.out.below hb2)
            obtain ⟨c0, c1, y0, y1, y4, y5⟩ := M.out.cells; have hgl := M.out.hgl
            clear hb2
            go_wp2_with fail
            refine (HZ1.out _ M.out.B).mono ?_
            rintro e w3 ⟨rfl, hb3⟩
            clear c0 c1 y0 y1 y4 y5 hgl
            have M := Lib.hid (M.out.below hb3)
            obtain ⟨c0, c1, y0, y1, y4, y5⟩ := M.out.cells; have hgl := M.out.hgl
            clear hb3
            go_wp2_with fail
            refine (M.out.add (by first | omega | (simp; omega)) i 1 _ _ _ _ hd1).mono ?_
            rintro e w4 ⟨rfl, hM⟩
            clear c0 c1 y0 y1 y4 y5 hgl
            have M := Lib.hid hM
            obtain ⟨c0, c1, y0, y1, y4, y5⟩ := M.out.cells; have hgl := M.out.hgl
            clear hM
            go_wp2_with fail
            refine (HZ3.out _ M.out.B).mono ?_
            rintro e w5 ⟨rfl, hb5⟩
            clear c0 c1 y0 y1 y4 y5 hgl
            have M := Lib.hid (M.out.below hb5)
            obtain ⟨c0, c1, y0, y1, y4, y5⟩ := M.out.cells; have hgl := M.out.hgl
            clear hb5
            go_wp2_with fail
            obtain ⟨u1, u2, p1, p2, o1, o2, _, _⟩ := M.out.st
            go_roundw
            case rel => exact ⟨i + 1, u1, u2, by omega, by go_num, p1, p2, M.out.k1, M.out.k2, Lib.hid (own_cast o1 (by rw [hVT]) (by rw [hVT])), Lib.hid (own_cast o2 (by rw [hVT]) (by rw [hVT])), M.out.c0, M.out.c1, M.out.B⟩
            case measure => simp [intOf]; omega
          · rw [g3] at HZ3
            rw [g4] at hVT
            rw [if_pos (by rfl), ← List.append_assoc] at hVT
            have j30 : (0 : Int) ≤ (j3 : Int) := by omega
            clear hd2 hnf g3 g4 gl3
            generalize zo s i 3 = z3 at HL3 hd3
            obtain ⟨zk3, zf3, lo3, up3, bo3⟩ := z3
            dsimp only at HL3 hd3
            go_wp2_with fail
            refine (HL1.out _ M0.out.B).mono ?_
            rintro e w1 ⟨rfl, hb1⟩
            clear c0 c1 x0 x1 x2 x3 x4 x5 hb
            have M := Lib.hid (M0.out.below hb1)
            obtain ⟨c0, c1, y0, y1, y4, y5⟩ := M.out.cells; have hgl := M.out.hgl
            clear hb1
            go_wp2_with fail
            refine (HL2.out _ M.out.B).mono ?_
            rintro e w2 ⟨rfl, hb2⟩
            clear c0 c1 y0 y1 y4 y5 hgl
            have M := Lib.hid (M.out.below hb2)
            obtain ⟨c0, c1, y0, y1, y4, y5⟩ := M.out.cells; have hgl := M.out.hgl
            clear hb2
            go_wp2_with fail
            refine (HZ1.out _ M.out.B).mono ?_
            rintro e w3 ⟨rfl, hb3⟩
            clear c0 c1 y0 y1 y4 y5 hgl
            have M := Lib.hid (M.out.below hb3)
            obtain ⟨c0, c1, y0, y1, y4, y5⟩ := M.out.cells; have hgl := M.out.hgl
            clear hb3
            go_wp2_with fail
            refine (M.out.add (by first | omega | (simp; omega)) i 1 _ _ _ _ hd1).mono ?_
            rintro e w4 ⟨rfl, hM⟩
            clear c0 c1 y0 y1 y4 y5 hgl
            have M := Lib.hid hM
            obtain ⟨c0, c1, y0, y1, y4, y5⟩ := M.out.cells; have hgl := M.out.hgl
            clear hM
            go_wp2_with fail
            refine (HZ3.out _ M.out.B).mono ?_
            rintro e w5 ⟨rfl, hb5⟩
            clear c0 c1 y0 y1 y4 y5 hgl
            have M := Lib.hid (M.out.below hb5)
            obtain ⟨c0, c1, y0, y1, y4, y5⟩ := M.out.cells; have hgl := M.out.hgl
            clear hb5
            go_wp2_with fail
            refine (HL3.out _ M.out.B).mono ?_
            rintro e w6 ⟨rfl, hb6⟩
            clear c0 c1 y0 y1 y4 y5 hgl
            have M := Lib.hid (M.out.below hb6)
            obtain ⟨c0, c1, y0, y1, y4, y5⟩ := M.out.cells; have hgl := M.out.hgl
            clear hb6
            go_wp2_with fail
            refine (M.out.add (by first | omega | (simp; omega)) i 3 _ _ _ _ hd3).mono ?_
            rintro e w7 ⟨rfl, hM⟩
            clear c0 c1 y0 y1 y4 y5 hgl
            have M := Lib.hid hM
            obtain ⟨c0, c1, y0, y1, y4, y5⟩ := M.out.cells; have hgl := M.out.hgl
            clear hM
            go_wp2_with fail
            obtain ⟨u1, u2, p1, p2, o1, o2, _, _⟩ := M.out.st
            go_roundw
            case rel => exact ⟨i + 1, u1, u2, by omega, by go_num, p1, p2, M.out.k1, M.out.k2, Lib.hid (own_cast o1 (by rw [hVT]) (by rw [hVT])), Lib.hid (own_cast o2 (by rw [hVT]) (by rw [hVT])), M.out.c0, M.out.c1, M.out.B⟩
            case measure => simp [intOf]; omega
        · rw [hnf rfl, if_pos rfl] at hVT
          rw [if_neg (by simp), List.append_nil, ← List.append_assoc] at hVT
          clear HL3 hd3 hnf e3 HZ3
          go_wp2_with fail
          refine (HL1.out _ M0.out.B).mono ?_
          rintro e w1 ⟨rfl, hb1⟩
          clear c0 c1 x0 x1 x2 x3 x4 x5 hb
          have M := Lib.hid (M0.out.below hb1)
          obtain ⟨c0, c1, y0, y1, y4, y5⟩ := M.out.cells; have hgl := M.out.hgl
          clear hb1
          go_wp2_with fail
          refine (HL2.out _ M.out.B).mono ?_
          rintro e w2 ⟨rfl, hb2⟩
          clear c0 c1 y0 y1 y4 y5 hgl
          have M := Lib.hid (M.out.below hb2)
          obtain ⟨c0, c1, y0, y1, y4, y5⟩ := M.out.cells; have hgl := M.out.hgl
          clear hb2
          go_wp2_with fail
          refine (HZ1.out _ M.out.B).mono ?_
          rintro e w3 ⟨rfl, hb3⟩
          clear c0 c1 y0 y1 y4 y5 hgl
          have M := Lib.hid (M.out.below hb3)
          obtain ⟨c0, c1, y0, y1, y4, y5⟩ := M.out.cells; have hgl := M.out.hgl
          clear hb3
          go_wp2_with fail
          refine (M.out.add (by first | omega | (simp; omega)) i 1 _ _ _ _ hd1).mono ?_
          rintro e w4 ⟨rfl, hM⟩
          clear c0 c1 y0 y1 y4 y5 hgl
          have M := Lib.hid hM
          obtain ⟨c0, c1, y0, y1, y4, y5⟩ := M.out.cells; have hgl := M.out.hgl
          clear hM
          go_wp2_with fail
          refine (M.out.add (by first | omega | (simp; omega)) i 2 _ _ _ _ hd2).mono ?_
          rintro e w5 ⟨rfl, hM⟩
          clear c0 c1 y0 y1 y4 y5 hgl
          have M := Lib.hid hM
          obtain ⟨c0, c1, y0, y1, y4, y5⟩ := M.out.cells; have hgl := M.out.hgl
          clear hM
          go_wp2_with fail
          obtain ⟨u1, u2, p1, p2, o1, o2, _, _⟩ := M.out.st
          go_roundw
          case rel => exact ⟨i + 1, u1, u2, by omega, by go_num, p1, p2, M.out.k1, M.out.k2, Lib.hid (own_cast o1 (by rw [hVT]) (by rw [hVT])), Lib.hid (own_cast o2 (by rw [hVT]) (by rw [hVT])), M.out.c0, M.out.c1, M.out.B⟩
          case measure => simp [intOf]; omega
      · have hjm : j < m := by rw [← hzl.out]; exact gl
        obtain ⟨az, ez, z0, z1, z2, z3, z4⟩ := HC.out j hjm
        subst ez
        rw [show s.zs.getD j zd = zo s i 1 from (hz1 _ g2).symm] at z4
        rw [g1] at HZ1
        have j0 : (0 : Int) ≤ (j : Int) := by omega
        have j1 : (j : Int) < (m : Int) := by omega
        clear g1 g2 hz1 HC z0 z1 z2 z3 gl hjm
        generalize zo s i 1 = z1 at *
        generalize zo s i 2 = z2 at *
        obtain ⟨zk1, zf1, lo1, up1, bo1⟩ := z1
        obtain ⟨zk2, zf2, lo2, up2, bo2⟩ := z2
        dsimp only at z4 hd1 hd2 b1 b2 HL1 HL2
        obtain ⟨b11, b12, b13, b14⟩ := b1
        obtain ⟨b21, b22, b23, b24⟩ := b2
        cases bo1
        · rw [if_neg (by decide), if_neg (by decide)] at hd1
          rcases hkd with rfl | rfl
          · rw [if_neg (by decide), List.append_nil] at hVT
            rcases e3 with ⟨_, g3, g4⟩ | ⟨j3, gl3, g3, g4⟩
            · rw [g3] at HZ3
              rw [g4] at hVT
              rw [if_neg (by simp), List.append_nil] at hVT
              clear HL3 hd2 hd3 hnf g3 g4
              go_wp2_with fail
              refine (HL1.out _ M0.out.B).mono ?_
              rintro e w1 ⟨rfl, hb1⟩
              clear c0 c1 x0 x1 x2 x3 x4 x5 hb
              have M := Lib.hid (M0.out.below hb1)
              obtain ⟨c0, c1, y0, y1, y4, y5⟩ := M.out.cells; have hgl := M.out.hgl
              clear hb1
              go_wp2_with fail
              refine (HL2.out _ M.out.B).mono ?_
              rintro e w2 ⟨rfl, hb2⟩
              clear c0 c1 y0 y1 y4 y5 hgl
              have M := Lib.hid (M.out.below hb2)
              obtain ⟨c0, c1, y0, y1, y4, y5⟩ := M.out.cells; have hgl := M.out.hgl
              clear hb2
              go_wp2_with fail
              refine (HZ1.out _ M.out.B).mono ?_
              rintro e w3 ⟨rfl, hb3⟩
              clear c0 c1 y0 y1 y4 y5 hgl
              have M := Lib.hid (M.out.below hb3)
              obtain ⟨c0, c1, y0, y1, y4, y5⟩ := M.out.cells; have hgl := M.out.hgl
              clear hb3
              have z4 := cell_below M.out.B z4
              go_wp2_with fail
              refine (M.out.add (by first | omega | (simp; omega)) i 1 _ _ _ _ hd1).mono ?_
              rintro e w4 ⟨rfl, hM⟩
              clear c0 c1 y0 y1 y4 y5 hgl
              have M := Lib.hid hM
              obtain ⟨c0, c1, y0, y1, y4, y5⟩ := M.out.cells; have hgl := M.out.hgl
              clear hM
              go_wp2_with fail
              refine (HZ3.out _ M.out.B).mono ?_
              rintro e w5 ⟨rfl, hb5⟩
              clear c0 c1 y0 y1 y4 y5 hgl
              have M := Lib.hid (M.out.below hb5)
              obtain ⟨c0, c1, y0, y1, y4, y5⟩ := M.out.cells; have hgl := M.out.hgl
              clear hb5
              go_wp2_with fail
              obtain ⟨u1, u2, p1, p2, o1, o2, _, _⟩ := M.out.st
              go_roundw
              case rel => exact ⟨i + 1, u1, u2, by omega, by go_num, p1, p2, M.out.k1, M.out.k2, Lib.hid (own_cast o1 (by rw [hVT]) (by rw [hVT])), Lib.hid (own_cast o2 (by rw [hVT]) (by rw [hVT])), M.out.c0, M.out.c1, M.out.B⟩
              case measure => simp [intOf]; omega
            · rw [g3] at HZ3
              rw [g4] at hVT
              rw [if_pos (by rfl), ← List.append_assoc] at hVT
              have j30 : (0 : Int) ≤ (j3 : Int) := by omega
              clear hd2 hnf g3 g4 gl3
              generalize zo s i 3 = z3 at HL3 hd3
              obtain ⟨zk3, zf3, lo3, up3, bo3⟩ := z3
              dsimp only at HL3 hd3
              go_wp2_with fail
              refine (HL1.out _ M0.out.B).mono ?_
              rintro e w1 ⟨rfl, hb1⟩
              clear c0 c1 x0 x1 x2 x3 x4 x5 hb
              have M := Lib.hid (M0.out.below hb1)
              obtain ⟨c0, c1, y0, y1, y4, y5⟩ := M.out.cells; have hgl := M.out.hgl
              clear hb1
              go_wp2_with fail
              refine (HL2.out _ M.out.B).mono ?_
              rintro e w2 ⟨rfl, hb2⟩
              clear c0 c1 y0 y1 y4 y5 hgl
              have M := Lib.hid (M.out.below hb2)
              obtain ⟨c0, c1, y0, y1, y4, y5⟩ := M.out.cells; have hgl := M.out.hgl
              clear hb2
              go_wp2_with fail
              refine (HZ1.out _ M.out.B).mono ?_
              rintro e w3 ⟨rfl, hb3⟩
              clear c0 c1 y0 y1 y4 y5 hgl
              have M := Lib.hid (M.out.below hb3)
              obtain ⟨c0, c1, y0, y1, y4, y5⟩ := M.out.cells; have hgl := M.out.hgl
              clear hb3
              have z4 := cell_below M.out.B z4
              go_wp2_with fail
              refine (M.out.add (by first | omega | (simp; omega)) i 1 _ _ _ _ hd1).mono ?_
              rintro e w4 ⟨rfl, hM⟩
              clear c0 c1 y0 y1 y4 y5 hgl
              have M := Lib.hid hM
              obtain ⟨c0, c1, y0, y1, y4, y5⟩ := M.out.cells; have hgl := M.out.hgl
              clear hM
              go_wp2_with fail
              refine (HZ3.out _ M.out.B).mono ?_
              rintro e w5 ⟨rfl, hb5⟩
              clear c0 c1 y0 y1 y4 y5 hgl
              have M := Lib.hid (M.out.below hb5)
              obtain ⟨c0, c1, y0, y1, y4, y5⟩ := M.out.cells; have hgl := M.out.hgl
              clear hb5
              go_wp2_with fail
              refine (HL3.out _ M.out.B).mono ?_
              rintro e w6 ⟨rfl, hb6⟩
              clear c0 c1 y0 y1 y4 y5 hgl
              have M := Lib.hid (M.out.below hb6)
              obtain ⟨c0, c1, y0, y1, y4, y5⟩ := M.out.cells; have hgl := M.out.hgl
              clear hb6
              go_wp2_with fail
              refine (M.out.add (by first | omega | (simp; omega)) i 3 _ _ _ _ hd3).mono ?_
              rintro e w7 ⟨rfl, hM⟩
              clear c0 c1 y0 y1 y4 y5 hgl
              have M := Lib.hid hM
              obtain ⟨c0, c1, y0, y1, y4, y5⟩ := M.out.cells; have hgl := M.out.hgl
              clear hM
              go_wp2_with fail
              obtain ⟨u1, u2, p1, p2, o1, o2, _, _⟩ := M.out.st
              go_roundw
              case rel => exact ⟨i + 1, u1, u2, by omega, by go_num, p1, p2, M.out.k1, M.out.k2, Lib.hid (own_cast o1 (by rw [hVT]) (by rw [hVT])), Lib.hid (own_cast o2 (by rw [hVT]) (by rw [hVT])), M.out.c0, M.out.c1, M.out.B⟩
              case measure => simp [intOf]; omega
          · rw [hnf rfl, if_pos rfl] at hVT
            rw [if_neg (by simp), List.append_nil, ← List.append_assoc] at hVT
            clear HL3 hd3 hnf e3 HZ3
            go_wp2_with fail
            refine (HL1.out _ M0.out.B).mono ?_
            rintro e w1 ⟨rfl, hb1⟩
            clear c0 c1 x0 x1 x2 x3 x4 x5 hb
            have M := Lib.hid (M0.out.below hb1)
            obtain ⟨c0, c1, y0, y1, y4, y5⟩ := M.out.cells; have hgl := M.out.hgl
            clear hb1
            go_wp2_with fail
            refine (HL2.out _ M.out.B).mono ?_
            rintro e w2 ⟨rfl, hb2⟩
            clear c0 c1 y0 y1 y4 y5 hgl
            have M := Lib.hid (M.out.below hb2)
            obtain ⟨c0, c1, y0, y1, y4, y5⟩ := M.out.cells; have hgl := M.out.hgl
            clear hb2
            go_wp2_with fail
            refine (HZ1.out _ M.out.B).mono ?_
            rintro e w3 ⟨rfl, hb3⟩
            clear c0 c1 y0 y1 y4 y5 hgl
            have M := Lib.hid (M.out.below hb3)
            obtain ⟨c0, c1, y0, y1, y4, y5⟩ := M.out.cells; have hgl := M.out.hgl
            clear hb3
            have z4 := cell_below M.out.B z4
            go_wp2_with fail
            refine (M.out.add (by first | omega | (simp; omega)) i 1 _ _ _ _ hd1).mono ?_
            rintro e w4 ⟨rfl, hM⟩
            clear c0 c1 y0 y1 y4 y5 hgl
            have M := Lib.hid hM
            obtain ⟨c0, c1, y0, y1, y4, y5⟩ := M.out.cells; have hgl := M.out.hgl
            clear hM
            go_wp2_with fail
            refine (M.out.add (by first | omega | (simp; omega)) i 2 _ _ _ _ hd2).mono ?_
            rintro e w5 ⟨rfl, hM⟩
            clear c0 c1 y0 y1 y4 y5 hgl
            have M := Lib.hid hM
            obtain ⟨c0, c1, y0, y1, y4, y5⟩ := M.out.cells; have hgl := M.out.hgl
            clear hM
            go_wp2_with fail
            obtain ⟨u1, u2, p1, p2, o1, o2, _, _⟩ := M.out.st
            go_roundw
            case rel => exact ⟨i + 1, u1, u2, by omega, by go_num, p1, p2, M.out.k1, M.out.k2, Lib.hid (own_cast o1 (by rw [hVT]) (by rw [hVT])), Lib.hid (own_cast o2 (by rw [hVT]) (by rw [hVT])), M.out.c0, M.out.c1, M.out.B⟩
            case measure => simp [intOf]; omega
        · rw [if_pos rfl, if_pos rfl] at hd1
          rcases hkd with rfl | rfl
          · rw [if_neg (by decide), List.append_nil] at hVT
            rcases e3 with ⟨_, g3, g4⟩ | ⟨j3, gl3, g3, g4⟩
            · rw [g3] at HZ3
              rw [g4] at hVT
              rw [if_neg (by simp), List.append_nil] at hVT
              clear HL3 hd2 hd3 hnf g3 g4
              go_wp2_with fail
              refine (HL1.out _ M0.out.B).mono ?_
              rintro e w1 ⟨rfl, hb1⟩
              clear c0 c1 x0 x1 x2 x3 x4 x5 hb
              have M := Lib.hid (M0.out.below hb1)
              obtain ⟨c0, c1, y0, y1, y4, y5⟩ := M.out.cells; have hgl := M.out.hgl
              clear hb1
              go_wp2_with fail
              refine (HL2.out _ M.out.B).mono ?_
              rintro e w2 ⟨rfl, hb2⟩
              clear c0 c1 y0 y1 y4 y5 hgl
              have M := Lib.hid (M.out.below hb2)
              obtain ⟨c0, c1, y0, y1, y4, y5⟩ := M.out.cells; have hgl := M.out.hgl
              clear hb2
              go_wp2_with fail
              refine (HZ1.out _ M.out.B).mono ?_
              rintro e w3 ⟨rfl, hb3⟩
              clear c0 c1 y0 y1 y4 y5 hgl
              have M := Lib.hid (M.out.below hb3)
              obtain ⟨c0, c1, y0, y1, y4, y5⟩ := M.out.cells; have hgl := M.out.hgl
              clear hb3
              have z4 := cell_below M.out.B z4
              go_wp2_with fail
              refine (M.out.add (by first | omega | (simp; omega)) i 1 _ _ _ _ hd1).mono ?_
              rintro e w4 ⟨rfl, hM⟩
              clear c0 c1 y0 y1 y4 y5 hgl
              have M := Lib.hid hM
              obtain ⟨c0, c1, y0, y1, y4, y5⟩ := M.out.cells; have hgl := M.out.hgl
              clear hM
              go_wp2_with fail
              refine (HZ3.out _ M.out.B).mono ?_
              rintro e w5 ⟨rfl, hb5⟩
              clear c0 c1 y0 y1 y4 y5 hgl
              have M := Lib.hid (M.out.below hb5)
              obtain ⟨c0, c1, y0, y1, y4, y5⟩ := M.out.cells; have hgl := M.out.hgl
              clear hb5
              go_wp2_with fail
              obtain ⟨u1, u2, p1, p2, o1, o2, _, _⟩ := M.out.st
              go_roundw
              case rel => exact ⟨i + 1, u1, u2, by omega, by go_num, p1, p2, M.out.k1, M.out.k2, Lib.hid (own_cast o1 (by rw [hVT]) (by rw [hVT])), Lib.hid (own_cast o2 (by rw [hVT]) (by rw [hVT])), M.out.c0, M.out.c1, M.out.B⟩
              case measure => simp [intOf]; omega
            · rw [g3] at HZ3
              rw [g4] at hVT
              rw [if_pos (by rfl), ← List.append_assoc] at hVT
              have j30 : (0 : Int) ≤ (j3 : Int) := by omega
              clear hd2 hnf g3 g4 gl3
              generalize zo s i 3 = z3 at HL3 hd3
              obtain ⟨zk3, zf3, lo3, up3, bo3⟩ := z3
              dsimp only at HL3 hd3
              go_wp2_with fail
              refine (HL1.out _ M0.out.B).mono ?_
              rintro e w1 ⟨rfl, hb1⟩
              clear c0 c1 x0 x1 x2 x3 x4 x5 hb
              have M := Lib.hid (M0.out.below hb1)
              obtain ⟨c0, c1, y0, y1, y4, y5⟩ := M.out.cells; have hgl := M.out.hgl
              clear hb1
              go_wp2_with fail
              refine (HL2.out _ M.out.B).mono ?_
              rintro e w2 ⟨rfl, hb2⟩
              clear c0 c1 y0 y1 y4 y5 hgl
              have M := Lib.hid (M.out.below hb2)
              obtain ⟨c0, c1, y0, y1, y4, y5⟩ := M.out.cells; have hgl := M.out.hgl
              clear hb2
              go_wp2_with fail
              refine (HZ1.out _ M.out.B).mono ?_
              rintro e w3 ⟨rfl, hb3⟩
              clear c0 c1 y0 y1 y4 y5 hgl
              have M := Lib.hid (M.out.below hb3)
              obtain ⟨c0, c1, y0, y1, y4, y5⟩ := M.out.cells; have hgl := M.out.hgl
              clear hb3
              have z4 := cell_below M.out.B z4
              go_wp2_with fail
              refine (M.out.add (by first | omega | (simp; omega)) i 1 _ _ _ _ hd1).mono ?_
              rintro e w4 ⟨rfl, hM⟩
              clear c0 c1 y0 y1 y4 y5 hgl
              have M := Lib.hid hM
              obtain ⟨c0, c1, y0, y1, y4, y5⟩ := M.out.cells; have hgl := M.out.hgl
              clear hM
              go_wp2_with fail
              refine (HZ3.out _ M.out.B).mono ?_
              rintro e w5 ⟨rfl, hb5⟩
              clear c0 c1 y0 y1 y4 y5 hgl
              have M := Lib.hid (M.out.below hb5)
              obtain ⟨c0, c1, y0, y1, y4, y5⟩ := M.out.cells; have hgl := M.out.hgl
              clear hb5
              go_wp2_with fail
              refine (HL3.out _ M.out.B).mono ?_
              rintro e w6 ⟨rfl, hb6⟩
              clear c0 c1 y0 y1 y4 y5 hgl
              have M := Lib.hid (M.out.below hb6)
              obtain ⟨c0, c1, y0, y1, y4, y5⟩ := M.out.cells; have hgl := M.out.hgl
              clear hb6
              go_wp2_with fail
              refine (M.out.add (by first | omega | (simp; omega)) i 3 _ _ _ _ hd3).mono ?_
              rintro e w7 ⟨rfl, hM⟩
              clear c0 c1 y0 y1 y4 y5 hgl
              have M := Lib.hid hM
              obtain ⟨c0, c1, y0, y1, y4, y5⟩ := M.out.cells; have hgl := M.out.hgl
              clear hM
              go_wp2_with fail
              obtain ⟨u1, u2, p1, p2, o1, o2, _, _⟩ := M.out.st
              go_roundw
              case rel => exact ⟨i + 1, u1, u2, by omega, by go_num, p1, p2, M.out.k1, M.out.k2, Lib.hid (own_cast o1 (by rw [hVT]) (by rw [hVT])), Lib.hid (own_cast o2 (by rw [hVT]) (by rw [hVT])), M.out.c0, M.out.c1, M.out.B⟩
              case measure => simp [intOf]; omega
          · rw [hnf rfl, if_pos rfl] at hVT
            rw [if_neg (by simp), List.append_nil, ← List.append_assoc] at hVT
            clear HL3 hd3 hnf e3 HZ3
            go_wp2_with fail
            refine (HL1.out _ M0.out.B).mono ?_
            rintro e w1 ⟨rfl, hb1⟩
            clear c0 c1 x0 x1 x2 x3 x4 x5 hb
            have M := Lib.hid (M0.out.below hb1)
            obtain ⟨c0, c1, y0, y1, y4, y5⟩ := M.out.cells; have hgl := M.out.hgl
            clear hb1
            go_wp2_with fail
            refine (HL2.out _ M.out.B).mono ?_
            rintro e w2 ⟨rfl, hb2⟩
            clear c0 c1 y0 y1 y4 y5 hgl
            have M := Lib.hid (M.out.below hb2)
            obtain ⟨c0, c1, y0, y1, y4, y5⟩ := M.out.cells; have hgl := M.out.hgl
            clear hb2
            go_wp2_with fail
            refine (HZ1.out _ M.out.B).mono ?_
            rintro e w3 ⟨rfl, hb3⟩
            clear c0 c1 y0 y1 y4 y5 hgl
            have M := Lib.hid (M.out.below hb3)
            obtain ⟨c0, c1, y0, y1, y4, y5⟩ := M.out.cells; have hgl := M.out.hgl
            clear hb3
            have z4 := cell_below M.out.B z4
            go_wp2_with fail
            refine (M.out.add (by first | omega | (simp; omega)) i 1 _ _ _ _ hd1).mono ?_
            rintro e w4 ⟨rfl, hM⟩
            clear c0 c1 y0 y1 y4 y5 hgl
            have M := Lib.hid hM
            obtain ⟨c0, c1, y0, y1, y4, y5⟩ := M.out.cells; have hgl := M.out.hgl
            clear hM
            go_wp2_with fail
            refine (M.out.add (by first | omega | (simp; omega)) i 2 _ _ _ _ hd2).mono ?_
            rintro e w5 ⟨rfl, hM⟩
            clear c0 c1 y0 y1 y4 y5 hgl
            have M := Lib.hid hM
            obtain ⟨c0, c1, y0, y1, y4, y5⟩ := M.out.cells; have hgl := M.out.hgl
            clear hM
            go_wp2_with fail
            obtain ⟨u1, u2, p1, p2, o1, o2, _, _⟩ := M.out.st
            go_roundw
            case rel => exact ⟨i + 1, u1, u2, by omega, by go_num, p1, p2, M.out.k1, M.out.k2, Lib.hid (own_cast o1 (by rw [hVT]) (by rw [hVT])), Lib.hid (own_cast o2 (by rw [hVT]) (by rw [hVT])), M.out.c0, M.out.c1, M.out.B⟩
            case measure => simp [intOf]; omega
    · obtain rfl : i = n := by omega
      obtain ⟨A1, c1', rfl, hc1⟩ := own_slice o1.out
      obtain ⟨A2, c2', rfl, hc2⟩ := own_slice o2.out
      have hl := hlen.out
      have Hb := Lib.hid hb
      clear hb
      go_wp2_with fail
      go_quiet (fail)
      go_wp2_with fail
      go_ret2
      have B := Hb.out
      refine ⟨A1, _, c1', A2, _, c2', rfl, fun b => ⟨by unfold dimsOf varsOf; rw [hl, List.length_map], hc1, ?_⟩, fun b => ⟨by unfold varsOf; rw [hl], hc2, ?_⟩, (by repeat (first | exact Below.refl _ _ | with_reducible assumption | apply below_alloc | apply below_drewN | apply below_drew | refine below_set ?_ (by simp; try omega) _ | refine below_then ?_ (by with_reducible assumption)))⟩
      · unfold dimsOf varsOf; rw [hl]; exact Reads.of_own (own_drewN o1.out _)
      · unfold varsOf; rw [hl]; exact Reads.of_own (own_drewN o2.out _)
end Go.Proofs.YtpifbaiibhaklaaGreatDoor
