/- Walk of val.Copy at a value without parts: what it makes ahead of its parts, whatever order is drawn. -/
import Derived.Test.YticgdjnekbobgaaDoorKeyCt
import Derived.Deep.RegionHeld3
import Derived.Deep.DeepCutAuto
set_option linter.unusedVariables false
set_option linter.unusedSimpArgs false
namespace Go.Proofs.YticgdjnekbobgaaDoor
open Go.RowKit Go.Shelf Go.WideShapes
theorem make_v0 (W : World) : (Instr.makeSlice 24 (.int .i64 0) (.int .i64 0)).run Tryd.prog W = .ok (.slice (some ⟨W.heap.size, 0, none⟩) 0 0) (W.alloc (.cells #[] 27)) := by kernel_rfl
theorem make_f0 (W : World) : (Instr.makeSlice 25 (.int .i64 0) (.int .i64 0)).run Tryd.prog W = .ok (.slice (some ⟨W.heap.size, 0, none⟩) 0 0) (W.alloc (.cells #[] 58)) := by kernel_rfl

/-- Where the copy stands ahead of its parts. -/
def CpEnd (W0 : World) (c : Cv) (b : List UInt8) (p : Value) (wx : World) : Prop :=
  ∃ gO A cB aL cL aF cF, p = .pointer (some ⟨gO, 0, none⟩) ∧ Blk wx gO 27 #[.int .i64 c.k, .int .u64 c.n, .slice A b.length cB, .slice aL 0 cL, .slice aF 0 cF] ∧ Row wx W0.heap.size (.slice A b.length cB) b.length b ∧ Grow W0 wx ∧ W0.heap.size ≤ gO

theorem row_cap {W : World} {base n c : Nat} {A : Option Addr} {xs : List UInt8} (h : Row W base (.slice A n c) n xs) : n ≤ c := by
  rcases h.2 with ⟨hv, h0⟩ | ⟨g, cap', cur, hv, _, _, hc, _⟩
  · omega
  · injection hv with _ _ e; omega
theorem cp_ne {W : World} {A : Option Addr} {n c gA gO : Nat} (hO : gO < W.heap.size) (hAO : gA ≠ gO) (hob : Value.ownBlock (.slice A n c) = some gA ∨ Value.ownBlock (.slice A n c) = some W.heap.size) : ∀ k, Value.ownBlock (.slice A n c) = some k → k ≠ gO := fun k e => by
  rcases hob with q | q
  · rw [q] at e; injection e with e; omega
  · rw [q] at e; injection e with e; omega
theorem CpEnd.make {W0 W : World} {k : Int} {n : Int} {b : List UInt8} {A : Option Addr} {cC gO : Nat} {gL gF : Nat} {c0 c1 c2 c3 c4 : Value} (hg : Grow W0 W) (hC : Row W W0.heap.size (.slice A b.length cC) b.length b)
    (hO : Blk W gO 27 #[c0, c1, c2, c3, c4]) (hOz : W0.heap.size ≤ gO) (hCO : ∀ k, Value.ownBlock (.slice A b.length cC) = some k → k ≠ gO) {c : Cv} (hk : c.k = k) (hn : c.n = n) :
    CpEnd W0 c b (.pointer (some ⟨gO, 0, none⟩)) (set5 W gO ⟨k, n, A, b.length, cC, some ⟨gL, 0, none⟩, 0, 0, some ⟨gF, 0, none⟩, 0, 0⟩) := by
  subst hk hn
  have hs := set5_grown W gO ⟨c.k, c.n, A, b.length, cC, some ⟨gL, 0, none⟩, 0, 0, some ⟨gF, 0, none⟩, 0, 0⟩
  have hC2 : Row (set5 W gO ⟨c.k, c.n, A, b.length, cC, some ⟨gL, 0, none⟩, 0, 0, some ⟨gF, 0, none⟩, 0, 0⟩) W0.heap.size (.slice A b.length cC) b.length b := by
    refine World.ownsRow.kept hC hs ?_
    cases hv : Value.ownBlock (.slice A b.length cC) with
    | none => exact .inl rfl
    | some k => right; intro e; injection e with e; exact hCO k hv e
  exact ⟨gO, A, cC, _, 0, _, 0, rfl, set5_from hO, hC2, hg.set5v hOz _, hOz⟩

theorem row_cf {W : World} {base n c : Nat} {A : Option Addr} {xs : List UInt8} (h : Row W base (.slice A n c) n xs) : Reads (fun p u => CF W p u ∧ base ≤ p.block ∧ p.block < W.heap.size) 1 A n (u8s xs) := by
  have hl : xs.length = n := by simpa [u8s] using h.1
  refine ⟨by rw [u8s_length, Nat.mul_one, hl], fun hn => ?_⟩
  obtain ⟨g, cap, hv, hb, hlt⟩ := World.ownsRow.form h (by omega)
  have hA : A = some ⟨g, 0, none⟩ := by injection hv
  subst hA
  refine ⟨g, 0, rfl, fun j u hu => ⟨⟨?_, World.ownsRow.frozenAt h _⟩, hb, hlt⟩⟩
  have := World.ownsRow.cells h (g := g) rfl j u hu
  rwa [add_lit] at this
theorem copy_end {w W : World} {k : Int} {n : Nat} {b : List UInt8} {A aL aF : Option Addr} {cC cL cF : Nat} {c : Cv} (hC : Row W (w.heap.size + 2) (.slice A b.length cC) b.length b) (hg : Grow w W) (hn : n < 18446744073709551616) (h1 : -9223372036854775808 ≤ k) (h2 : k ≤ 9223372036854775807) (hb : b.length ≤ 140737488355328)
    (hc : c = ⟨k, n, A, b.length, cC, aL, 0, cL, aF, 0, cF⟩) {e : Ending} (he : e = .returned c.agg) : CopyC w (.mk k n b [] []) e (set5 W (w.heap.size + 1) c) := by
  subst hc he
  have hC2 : Row (set5 W (w.heap.size + 1) ⟨k, n, A, b.length, cC, aL, 0, cL, aF, 0, cF⟩) (w.heap.size + 2) (.slice A b.length cC) b.length b := by
    refine World.ownsRow.kept hC (set5_grown W _ _) ?_
    cases hv : Value.ownBlock (.slice A b.length cC) with
    | none => exact .inl rfl
    | some k => right; intro e; injection e with e; have := (World.ownsRow.lt hC k hv).1; omega
  refine ⟨_, rfl, ⟨Nat.le_refl _, ?_⟩, hg.set5v (by omega) _⟩
  rw [IsS]
  refine ⟨rfl, rfl, rfl, rfl, rfl, h1, h2, hn, row_cap hC, hb, by simp, by simp, by simp, by simp, ?_, ⟨fun _ _ => False, fun i hi => absurd hi (by simp), fun _ _ _ _ _ h => h.elim⟩, ⟨fun _ _ => False, fun i hi => absurd hi (by simp), fun _ _ _ _ _ h => h.elim⟩⟩
  exact Reads.mono (fun p u h => ⟨h.1, by have := h.2.1; omega, h.2.2⟩) (row_cf hC2)

/-- Whatever order is drawn of five operations: the states merge. -/
theorem merge5 {P : Program} {md : Region.Mode} {ops : Array Oper} {Q : Exit → Act → World → Prop} {S : World → Prop} (L : Bool → Bool → Bool → Bool → Bool → Array Bool) (A : Value → Value → Value → Value → Value → Act)
    (I : Bool → Bool → Bool → Bool → Bool → Value → Value → Value → Value → Value → World → Prop) {l : Array Bool} {a : Act} {W : World} {n : Nat} (hn : n = 7)
    (hl : l = L false false false false false) (ha : a = A undef undef undef undef undef) (h0 : I false false false false false undef undef undef undef undef W)
    (h : ∀ (f : Nat) b1 b2 b3 b4 b5 x1 x2 x3 x4 x5 W, f = (!b1).toNat + (!b2).toNat + (!b3).toNat + (!b4).toNat + (!b5).toNat + 1 → I b1 b2 b3 b4 b5 x1 x2 x3 x4 x5 W →
      (∀ c1 c2 c3 c4 c5 y1 y2 y3 y4 y5 W', f = (!c1).toNat + (!c2).toNat + (!c3).toNat + (!c4).toNat + (!c5).toNat + 2 → I c1 c2 c3 c4 c5 y1 y2 y3 y4 y5 W' → wpAnyH P md ops Q S f (L c1 c2 c3 c4 c5) (A y1 y2 y3 y4 y5) W') →
      wpAnyH P md ops Q S (f + 1) (L b1 b2 b3 b4 b5) (A x1 x2 x3 x4 x5) W) : wpAnyH P md ops Q S n l a W := by
  have key : ∀ (f : Nat) b1 b2 b3 b4 b5 x1 x2 x3 x4 x5 W, f = (!b1).toNat + (!b2).toNat + (!b3).toNat + (!b4).toNat + (!b5).toNat + 2 → I b1 b2 b3 b4 b5 x1 x2 x3 x4 x5 W → wpAnyH P md ops Q S f (L b1 b2 b3 b4 b5) (A x1 x2 x3 x4 x5) W := by
    intro f
    induction f with
    | zero => intro b1 b2 b3 b4 b5 x1 x2 x3 x4 x5 W e; omega
    | succ f ih =>
      intro b1 b2 b3 b4 b5 x1 x2 x3 x4 x5 W e hI
      exact h f b1 b2 b3 b4 b5 x1 x2 x3 x4 x5 W (by omega) hI (fun c1 c2 c3 c4 c5 y1 y2 y3 y4 y5 W' e' h' => ih c1 c2 c3 c4 c5 y1 y2 y3 y4 y5 W' e' h')
  subst hl ha hn
  exact key 7 _ _ _ _ _ _ _ _ _ _ _ rfl h0

/-- How far the copy is: bytes made, bytes laid, list made, fields made, cell made. -/
def CpI (W0 : World) (b : List UInt8) (b1 b2 b3 b4 b5 : Bool) (x1 x2 x3 x4 x5 : Value) (W : World) : Prop :=
  Grow W0 W ∧ (b2 = true → b1 = true) ∧
  (b1 = true → b2 = false → ∃ g, x1 = .slice (some ⟨g, 0, none⟩) 0 b.length ∧ Row W W0.heap.size (.slice (some ⟨g, 0, none⟩) 0 b.length) 0 [] ∧ (b5 = true → x5 ≠ .pointer (some ⟨g, 0, none⟩))) ∧
  (b2 = true → ∃ A c, x2 = .slice A b.length c ∧ Row W W0.heap.size (.slice A b.length c) b.length b ∧ (b5 = true → ∀ k, Value.ownBlock (.slice A b.length c) = some k → x5 ≠ .pointer (some ⟨k, 0, none⟩))) ∧
  (b3 = true → ∃ g, x3 = .slice (some ⟨g, 0, none⟩) 0 0) ∧ (b4 = true → ∃ g, x4 = .slice (some ⟨g, 0, none⟩) 0 0) ∧
  (b5 = true → ∃ g, x5 = .pointer (some ⟨g, 0, none⟩) ∧ Blk W g 27 #[.int .i64 0, .int .u64 0, .slice none 0 0, .slice none 0 0, .slice none 0 0] ∧ W0.heap.size ≤ g)
theorem CpI.alloc {W0 W : World} {b : List UInt8} {b1 b2 b3 b4 b5 : Bool} {x1 x2 x3 x4 x5 : Value} (h : CpI W0 b b1 b2 b3 b4 b5 x1 x2 x3 x4 x5 W) (o : Obj) : CpI W0 b b1 b2 b3 b4 b5 x1 x2 x3 x4 x5 (W.alloc o) := by
  obtain ⟨hg, h12, h1, h2, h3, h4, h5⟩ := h
  refine ⟨hg.alloc o, h12, fun e e' => ?_, fun e => ?_, h3, h4, fun e => ?_⟩
  · obtain ⟨g, r1, r2, r3⟩ := h1 e e'; exact ⟨g, r1, r2.alloc o, r3⟩
  · obtain ⟨A, c, r1, r2, r3⟩ := h2 e; exact ⟨A, c, r1, r2.alloc o, r3⟩
  · obtain ⟨g, r1, r2, r3⟩ := h5 e; exact ⟨g, r1, r2.alloc o, r3⟩
theorem CpI.mk1 {W0 W : World} {b : List UInt8} {b3 b4 b5 : Bool} {x1 x2 x3 x4 x5 : Value} {cur : Array Value} (h : CpI W0 b false false b3 b4 b5 x1 x2 x3 x4 x5 W) (hcur : cur.size = b.length) (hb : b.length ≤ 1000000000) :
    CpI W0 b true false b3 b4 b5 (.slice (some ⟨W.heap.size, 0, none⟩) 0 b.length) x2 x3 x4 x5 (W.alloc (.cells cur 5)) := by
  have hA : Row (W.alloc (.cells cur 5)) W0.heap.size (.slice (some ⟨W.heap.size, 0, none⟩) 0 b.length) 0 [] := World.ownsRow_made W cur b.length h.1.size (by simp only [maxLen]; omega) (by omega)
  have h5 := h.2.2.2.2.2.2
  obtain ⟨hg, h12, h1, h2, h3, h4, h5'⟩ := h.alloc (.cells cur 5)
  refine ⟨hg, fun e => (by cases e), fun _ _ => ⟨_, rfl, hA, fun e q => ?_⟩, fun e => (by cases e), h3, h4, h5'⟩
  obtain ⟨g, r1, r2, r3⟩ := h5 e
  rw [r1] at q
  injection q with q; injection q with q; injection q with q
  have := r2.lt
  omega
theorem CpI.mk2 {W0 W W' : World} {b : List UInt8} {b3 b4 b5 : Bool} {x1 x2 x3 x4 x5 : Value} {g : Nat} {A : Option Addr} {c : Nat} (h : CpI W0 b true false b3 b4 b5 x1 x2 x3 x4 x5 W) (hx : x1 = .slice (some ⟨g, 0, none⟩) 0 b.length)
    (hown : Row W' W0.heap.size (.slice A b.length c) b.length b) (hgr : W.grownBy W' (some g)) (hob : Value.ownBlock (.slice A b.length c) = some g ∨ Value.ownBlock (.slice A b.length c) = some W.heap.size) :
    CpI W0 b true true b3 b4 b5 x1 (.slice A b.length c) x3 x4 x5 W' := by
  obtain ⟨hg, h12, h1, h2, h3, h4, h5⟩ := h
  obtain ⟨g', r1, r2, r3⟩ := h1 rfl rfl
  rw [hx] at r1
  injection r1 with r1; injection r1 with r1; injection r1 with r1
  subst r1
  have hlt := World.ownsRow.lt r2 g rfl
  refine ⟨hg.grown hgr (fun k e => by injection e with e; omega), fun _ => rfl, fun _ e => (by cases e), fun _ => ⟨A, c, rfl, hown, fun e k hk q => ?_⟩, h3, h4, fun e => ?_⟩
  · rcases hob with z | z
    · rw [z] at hk; injection hk with hk; subst hk; exact r3 e q
    · rw [z] at hk; injection hk with hk; subst hk
      obtain ⟨g5, s1, s2, s3⟩ := h5 e
      rw [s1] at q; injection q with q; injection q with q; injection q with q
      have := s2.lt; omega
  · obtain ⟨g5, s1, s2, s3⟩ := h5 e
    refine ⟨g5, s1, Blk.own s2 hgr (fun k e2 => ?_), s3⟩
    injection e2 with e2
    subst e2
    exact fun e3 => r3 e (by rw [s1, e3])
theorem CpI.mk3 {W0 W : World} {b : List UInt8} {b1 b2 b4 b5 : Bool} {x1 x2 x3 x4 x5 : Value} (h : CpI W0 b b1 b2 false b4 b5 x1 x2 x3 x4 x5 W) (o : Obj) : CpI W0 b b1 b2 true b4 b5 x1 x2 (.slice (some ⟨W.heap.size, 0, none⟩) 0 0) x4 x5 (W.alloc o) := by
  obtain ⟨hg, h12, h1, h2, h3, h4, h5⟩ := h.alloc o
  exact ⟨hg, h12, h1, h2, fun _ => ⟨_, rfl⟩, h4, h5⟩
theorem CpI.mk4 {W0 W : World} {b : List UInt8} {b1 b2 b3 b5 : Bool} {x1 x2 x3 x4 x5 : Value} (h : CpI W0 b b1 b2 b3 false b5 x1 x2 x3 x4 x5 W) (o : Obj) : CpI W0 b b1 b2 b3 true b5 x1 x2 x3 (.slice (some ⟨W.heap.size, 0, none⟩) 0 0) x5 (W.alloc o) := by
  obtain ⟨hg, h12, h1, h2, h3, h4, h5⟩ := h.alloc o
  exact ⟨hg, h12, h1, h2, h3, fun _ => ⟨_, rfl⟩, h5⟩
theorem CpI.mk5 {W0 W : World} {b : List UInt8} {b1 b2 b3 b4 : Bool} {x1 x2 x3 x4 x5 : Value} (h : CpI W0 b b1 b2 b3 b4 false x1 x2 x3 x4 x5 W) : CpI W0 b b1 b2 b3 b4 true x1 x2 x3 x4 (.pointer (some ⟨W.heap.size, 0, none⟩)) (W.alloc (.cells #[.int .i64 0, .int .u64 0, .slice none 0 0, .slice none 0 0, .slice none 0 0] 27)) := by
  have hz := h.1.size
  have h1' := h.2.2.1
  have h2' := h.2.2.2.1
  obtain ⟨hg, h12, h1, h2, h3, h4, h5⟩ := h.alloc (.cells #[.int .i64 0, .int .u64 0, .slice none 0 0, .slice none 0 0, .slice none 0 0] 27)
  refine ⟨hg, h12, fun e e' => ?_, fun e => ?_, h3, h4, fun _ => ⟨_, rfl, Blk.new _ _ _, hz⟩⟩
  · obtain ⟨g, r1, r2, r3⟩ := h1' e e'
    refine ⟨g, r1, r2.alloc _, fun _ q => ?_⟩
    injection q with q; injection q with q; injection q with q
    have := (World.ownsRow.lt r2 g rfl).2
    omega
  · obtain ⟨A, c, r1, r2, r3⟩ := h2' e
    refine ⟨A, c, r1, r2.alloc _, fun _ k hk q => ?_⟩
    injection q with q; injection q with q; injection q with q
    have := (World.ownsRow.lt r2 k hk).2
    omega
theorem CpI.done {W0 W : World} {b : List UInt8} {b1 : Bool} {A : Option Addr} {c : Nat} {x1 x3 x4 x5 : Value} (h : CpI W0 b b1 true true true true x1 (.slice A b.length c) x3 x4 x5 W) : ∃ gO, x5 = .pointer (some ⟨gO, 0, none⟩) ∧
    Grow W0 W ∧ Row W W0.heap.size (.slice A b.length c) b.length b ∧ Blk W gO 27 #[.int .i64 0, .int .u64 0, .slice none 0 0, .slice none 0 0, .slice none 0 0] ∧ W0.heap.size ≤ gO ∧ (∀ k, Value.ownBlock (.slice A b.length c) = some k → k ≠ gO) := by
  obtain ⟨hg, h12, h1, h2, h3, h4, h5⟩ := h
  obtain ⟨A', c', e, r2, r3⟩ := h2 rfl
  injection e with e1 _ e2
  subst e1 e2
  obtain ⟨gO, rfl, s2, s3⟩ := h5 rfl
  exact ⟨gO, rfl, hg, r2, s2, s3, fun k hk e => r3 rfl k hk (by rw [e])⟩

set_option maxRecDepth 100000 in
set_option maxHeartbeats 6400000 in
theorem copy_flat (k : Int) (n : Nat) (b : List UInt8) (c : Cv) (w : World) (hb : b.length ≤ 1000000000) (hv : In w (.mk k n b [] []) c) :
    Calls Tryd.prog 82 #[c.agg] w (CopyC w (.mk k n b [] [])) := by
  obtain ⟨k0, n0, aB, nB, cB, aL, nL, cL, aF, nF, cF⟩ := c
  unfold In at hv
  rw [IsV] at hv
  obtain ⟨h1, h2, h3, h4, h5, h6, h7, h8, h9, h10, h11, h12, h13, h14, hR, -, -⟩ := hv
  dsimp only at h1 h2 h3 h4 h5 h9 h11 h13 hR
  simp only [List.length_nil] at h4 h5
  subst h1 h2 h3 h4 h5
  have HR := hide hR
  obtain ⟨cur, hcur, hmk⟩ := make_u8 b.length (by omega)
  have hmv := make_v0
  have hmf := make_f0
  have hc0 := ((Blk.new w 27 (Cv.cells ⟨k0, n, aB, b.length, cB, aL, 0, cL, aF, 0, cF⟩)).alloc (.cells Cv.zero.cells 27))
  have HC0 := hide hc0
  have hcell := hc0.cell
  have HS := hide (show ∀ w', Grow ((w.alloc (.cells (Cv.cells ⟨k0, n, aB, b.length, cB, aL, 0, cL, aF, 0, cF⟩) 27)).alloc (.cells #[.int .i64 0, .int .u64 0, .slice none 0 0, .slice none 0 0, .slice none 0 0] 27)).drew w' → ∀ i, w'.cell? ⟨w.heap.size, i, none⟩ = (Cv.cells ⟨k0, n, aB, b.length, cB, aL, 0, cL, aF, 0, cF⟩)[i]? from fun w' h => (hc0.drew.grow h).cell)
  have HSRC := hide (show ∀ w', Grow w w' → Src Tryd.prog 1 23 (.slice aB b.length cB) b.length (u8s b) w' from fun w' h => Src.ofReads under_u8s (InB.grow hR h) (u8s_one _))
  obtain ⟨i0, hi0, hz0', hz1, hz2⟩ := info_parts info_u8
  have Hi0 := hide hi0
  have Hz0 := hide hz0'
  have Hz1 := hide hz1
  have Hz2 := hide hz2
  clear hi0 hz0' hz1 hz2
  clear hR h11 h13 h12 h14 h10 hc0
  go_enter Tryd.func82, Tryd.ntmps82
  go_upto_region 1 with fail
  go_cut [3] (fun p wx => CpEnd (((w.alloc (.cells (Cv.cells ⟨k0, n, aB, b.length, cB, aL, 0, cL, aF, 0, cF⟩) 27)).alloc (.cells #[.int .i64 0, .int .u64 0, .slice none 0 0, .slice none 0 0, .slice none 0 0] 27)).drew) ⟨k0, n, aB, b.length, cB, aL, 0, cL, aF, 0, cF⟩ b p wx)
  case first =>
    refine wp_region_noPanic ?_
    refine wp_region_held_drew (S := fun w' => ∀ i, w'.cell? ⟨w.heap.size, i, none⟩ = (Cv.cells ⟨k0, n, aB, b.length, cB, aL, 0, cL, aF, 0, cF⟩)[i]?) (by kernel_rfl) (hcell) (fun hHeld => ?_)
    refine wpAnyH_take (i := 0) (v := ?_) (by simp only [List.getElem?_toArray, List.getElem?_cons_succ, List.getElem?_cons_zero]; rfl) (by kernel_rfl) (by kernel_rfl) (by kernel_rfl) (fun _ _ _ h => h) (Or.inl ⟨by rfl, ?_⟩) (by assumption) ?_
    rotate_left 1
    · (intro w hSw; (try dsimp only at hSw); go_simp; try with_reducible rfl)
    try simp only [Act.put, List.setIfInBounds_toArray, List.set_cons_zero, List.set_cons_succ]
    refine wpAnyH_take (i := 1) (v := ?_) (by simp only [List.getElem?_toArray, List.getElem?_cons_succ, List.getElem?_cons_zero]; rfl) (by kernel_rfl) (by kernel_rfl) (by kernel_rfl) (fun _ _ _ h => h) (Or.inl ⟨by rfl, ?_⟩) (by assumption) ?_
    rotate_left 1
    · (intro w hSw; (try dsimp only at hSw); go_simp; try with_reducible rfl)
    try simp only [Act.put, List.setIfInBounds_toArray, List.set_cons_zero, List.set_cons_succ]
    refine wpAnyH_take (i := 2) (v := ?_) (by simp only [List.getElem?_toArray, List.getElem?_cons_succ, List.getElem?_cons_zero]; rfl) (by kernel_rfl) (by kernel_rfl) (by kernel_rfl) (fun _ _ _ h => h) (Or.inl ⟨by rfl, ?_⟩) (by assumption) ?_
    rotate_left 1
    · (intro w hSw; (try dsimp only at hSw); go_simp; try with_reducible rfl)
    try simp only [Act.put, List.setIfInBounds_toArray, List.set_cons_zero, List.set_cons_succ]
    refine wpAnyH_take (i := 3) (v := ?_) (by simp only [List.getElem?_toArray, List.getElem?_cons_succ, List.getElem?_cons_zero]; rfl) (by kernel_rfl) (by kernel_rfl) (by kernel_rfl) (fun _ _ _ h => h) (Or.inl ⟨by rfl, ?_⟩) (by assumption) ?_
    rotate_left 1
    · (intro w hSw; (try dsimp only at hSw); go_simp; try with_reducible rfl)
    try simp only [Act.put, List.setIfInBounds_toArray, List.set_cons_zero, List.set_cons_succ]
    refine wpAnyH_take (i := 4) (v := ?_) (by simp only [List.getElem?_toArray, List.getElem?_cons_succ, List.getElem?_cons_zero]; rfl) (by kernel_rfl) (by kernel_rfl) (by kernel_rfl) (fun _ _ _ h => h) (Or.inl ⟨by rfl, ?_⟩) (by assumption) ?_
    rotate_left 1
    · (intro w hSw; (try dsimp only at hSw); go_simp; try with_reducible rfl)
    try simp only [Act.put, List.setIfInBounds_toArray, List.set_cons_zero, List.set_cons_succ]
    refine wpAnyH_take (i := 5) (v := ?_) (by simp only [List.getElem?_toArray, List.getElem?_cons_succ, List.getElem?_cons_zero]; rfl) (by kernel_rfl) (by kernel_rfl) (by kernel_rfl) (fun _ _ _ h => h) (Or.inl ⟨by rfl, ?_⟩) (by assumption) ?_
    rotate_left 1
    · (intro w hSw; (try dsimp only at hSw); go_simp; try with_reducible rfl)
    try simp only [Act.put, List.setIfInBounds_toArray, List.set_cons_zero, List.set_cons_succ]
    refine wpAnyH_take (i := 6) (v := ?_) (by simp only [List.getElem?_toArray, List.getElem?_cons_succ, List.getElem?_cons_zero]; rfl) (by kernel_rfl) (by kernel_rfl) (by kernel_rfl) (fun _ _ _ h => h) (Or.inl ⟨by rfl, ?_⟩) (by assumption) ?_
    rotate_left 1
    · (intro w hSw; (try dsimp only at hSw); go_simp; try with_reducible rfl)
    try simp only [Act.put, List.setIfInBounds_toArray, List.set_cons_zero, List.set_cons_succ]
    refine wpAnyH_take (i := 8) (v := ?_) (by simp only [List.getElem?_toArray, List.getElem?_cons_succ, List.getElem?_cons_zero]; rfl) (by kernel_rfl) (by kernel_rfl) (by kernel_rfl) (fun _ _ _ h => h) (Or.inl ⟨by rfl, ?_⟩) (by assumption) ?_
    rotate_left 1
    · (intro w hSw; (try dsimp only at hSw); go_simp; try with_reducible rfl)
    try simp only [Act.put, List.setIfInBounds_toArray, List.set_cons_zero, List.set_cons_succ]
    refine wpAnyH_take (i := 9) (v := ?_) (by simp only [List.getElem?_toArray, List.getElem?_cons_succ, List.getElem?_cons_zero]; rfl) (by kernel_rfl) (by kernel_rfl) (by kernel_rfl) (fun _ _ _ h => h) (Or.inl ⟨by rfl, ?_⟩) (by assumption) ?_
    rotate_left 1
    · (intro w hSw; (try dsimp only at hSw); go_simp; try with_reducible rfl)
    try simp only [Act.put, List.setIfInBounds_toArray, List.set_cons_zero, List.set_cons_succ]
    refine wpAnyH_take (i := 11) (v := ?_) (by simp only [List.getElem?_toArray, List.getElem?_cons_succ, List.getElem?_cons_zero]; rfl) (by kernel_rfl) (by kernel_rfl) (by kernel_rfl) (fun _ _ _ h => h) (Or.inl ⟨by rfl, ?_⟩) (by assumption) ?_
    rotate_left 1
    · (intro w hSw; (try dsimp only at hSw); go_simp; try with_reducible rfl)
    try simp only [Act.put, List.setIfInBounds_toArray, List.set_cons_zero, List.set_cons_succ]
    refine wpAnyH_take (i := 12) (v := ?_) (by simp only [List.getElem?_toArray, List.getElem?_cons_succ, List.getElem?_cons_zero]; rfl) (by kernel_rfl) (by kernel_rfl) (by kernel_rfl) (fun _ _ _ h => h) (Or.inl ⟨by rfl, ?_⟩) (by assumption) ?_
    rotate_left 1
    · (intro w hSw; (try dsimp only at hSw); go_simp; try with_reducible rfl)
    try simp only [Act.put, List.setIfInBounds_toArray, List.set_cons_zero, List.set_cons_succ]
    refine wpAnyH_take (i := 13) (v := ?_) (by simp only [List.getElem?_toArray, List.getElem?_cons_succ, List.getElem?_cons_zero]; rfl) (by kernel_rfl) (by kernel_rfl) (by kernel_rfl) (fun _ _ _ h => h) (Or.inl ⟨by rfl, ?_⟩) (by assumption) ?_
    rotate_left 1
    · (intro w hSw; (try dsimp only at hSw); go_simp; try with_reducible rfl)
    try simp only [Act.put, List.setIfInBounds_toArray, List.set_cons_zero, List.set_cons_succ]
    refine wpAnyH_take (i := 15) (v := ?_) (by simp only [List.getElem?_toArray, List.getElem?_cons_succ, List.getElem?_cons_zero]; rfl) (by kernel_rfl) (by kernel_rfl) (by kernel_rfl) (fun _ _ _ h => h) (Or.inl ⟨by rfl, ?_⟩) (by assumption) ?_
    rotate_left 1
    · (intro w hSw; (try dsimp only at hSw); go_simp; try with_reducible rfl)
    try simp only [Act.put, List.setIfInBounds_toArray, List.set_cons_zero, List.set_cons_succ]
    refine wpAnyH_take (i := 16) (v := ?_) (by simp only [List.getElem?_toArray, List.getElem?_cons_succ, List.getElem?_cons_zero]; rfl) (by kernel_rfl) (by kernel_rfl) (by kernel_rfl) (fun _ _ _ h => h) (Or.inl ⟨by rfl, ?_⟩) (by assumption) ?_
    rotate_left 1
    · (intro w hSw; (try dsimp only at hSw); go_simp; try with_reducible rfl)
    try simp only [Act.put, List.setIfInBounds_toArray, List.set_cons_zero, List.set_cons_succ]
    refine wpAnyH_take (i := 17) (v := ?_) (by simp only [List.getElem?_toArray, List.getElem?_cons_succ, List.getElem?_cons_zero]; rfl) (by kernel_rfl) (by kernel_rfl) (by kernel_rfl) (fun _ _ _ h => h) (Or.inl ⟨by rfl, ?_⟩) (by assumption) ?_
    rotate_left 1
    · (intro w hSw; (try dsimp only at hSw); go_simp; try with_reducible rfl)
    try simp only [Act.put, List.setIfInBounds_toArray, List.set_cons_zero, List.set_cons_succ]
    have HW0 := hide ((((Grow.refl w).alloc (.cells (Cv.cells ⟨k0, n, aB, b.length, cB, aL, 0, cL, aF, 0, cF⟩) 27)).alloc (.cells #[.int .i64 0, .int .u64 0, .slice none 0 0, .slice none 0 0, .slice none 0 0] 27)).drew)
    clear hcell hHeld HC0
    generalize hWW : ((w.alloc (.cells (Cv.cells ⟨k0, n, aB, b.length, cB, aL, 0, cL, aF, 0, cF⟩) 27)).alloc (.cells #[.int .i64 0, .int .u64 0, .slice none 0 0, .slice none 0 0, .slice none 0 0] 27)).drew = W0 at HS HW0 ⊢
    have HWW := hide hWW
    clear hWW
    refine merge5 (fun b1 b2 b3 b4 b5 => #[true, true, true, true, true, true, true, b1, true, true, b2, true, true, true, b3, true, true, true, b4, false, b5, false]) (fun x1 x2 x3 x4 x5 => { tmps := #[(Cv.agg ⟨k0, n, aB, b.length, cB, aL, 0, cL, aF, 0, cF⟩), .pointer (some ⟨w.heap.size, 0, none⟩), .pointer (some ⟨w.heap.size + 1, 0, none⟩), x5, undef, undef, undef, undef, .pointer (some ⟨w.heap.size, 0, none⟩), .int .i64 k0, .pointer (some ⟨w.heap.size, 1, none⟩), .int .u64 n, .pointer (some ⟨w.heap.size, 2, none⟩), .slice aB b.length cB, .int .i64 b.length, x1, .pointer (some ⟨w.heap.size, 2, none⟩), .slice aB b.length cB, x2, .pointer (some ⟨w.heap.size, 3, none⟩), .slice aL 0 cL, .int .i64 0, x3, .pointer (some ⟨w.heap.size, 4, none⟩), .slice aF 0 cF, .int .i64 0, x4, undef, undef, undef, undef, undef, undef, undef, undef, undef, undef, undef, undef, undef, undef, undef, undef, undef, undef, undef, undef, undef, undef, undef, undef, undef, undef, undef, undef, undef, undef, undef, undef, undef, undef, undef, undef], defers := [] }) (CpI W0 b) rfl (by kernel_rfl) rfl ?_ ?_
    · exact ⟨Grow.refl _, fun e => (by cases e), fun e => (by cases e), fun e => (by cases e), fun e => (by cases e), fun e => (by cases e), fun e => (by cases e)⟩
    intro f b1 b2 b3 b4 b5 x1 x2 x3 x4 x5 W hf hI IH
    dsimp only at IH ⊢
    cases b1 <;> cases b2 <;> cases b3 <;> cases b4 <;> cases b5
    · obtain rfl : f = 6 := hf
      refine wpAnyH_ready (rs := [7, 14, 18, 20]) (by kernel_rfl) (by simp) ?_
      refine AllReadyH.cons rfl (fun K hK => ?_) ?_
      · go_simp
        have hI2 := hI.mk1 hcur hb
        refine hK.out _ _ (HS.out _ hI2.1) (fun hHeld => ?_)
        clear hK K
        simp only [Act.put, List.setIfInBounds_toArray, List.set_cons_zero, List.set_cons_succ]
        exact IH true false false false false _ _ _ _ _ _ rfl hI2
      refine AllReadyH.cons rfl (fun K hK => ?_) ?_
      · go_simp
        have hI2 := hI.mk3 (.cells #[] 27)
        refine hK.out _ _ (HS.out _ hI2.1) (fun hHeld => ?_)
        clear hK K
        simp only [Act.put, List.setIfInBounds_toArray, List.set_cons_zero, List.set_cons_succ]
        exact IH false false true false false _ _ _ _ _ _ rfl hI2
      refine AllReadyH.cons rfl (fun K hK => ?_) ?_
      · go_simp
        have hI2 := hI.mk4 (.cells #[] 58)
        refine hK.out _ _ (HS.out _ hI2.1) (fun hHeld => ?_)
        clear hK K
        simp only [Act.put, List.setIfInBounds_toArray, List.set_cons_zero, List.set_cons_succ]
        exact IH false false false true false _ _ _ _ _ _ rfl hI2
      refine AllReadyH.cons rfl (fun K hK => ?_) AllReadyH.nil
      go_simp
      have hI2 := hI.mk5
      refine hK.out _ _ (HS.out _ hI2.1) (fun hHeld => ?_)
      clear hK K
      simp only [Act.put, List.setIfInBounds_toArray, List.set_cons_zero, List.set_cons_succ]
      exact IH false false false false true _ _ _ _ _ _ rfl hI2
    · obtain rfl : f = 5 := hf
      refine wpAnyH_ready (rs := [7, 14, 18]) (by kernel_rfl) (by simp) ?_
      refine AllReadyH.cons rfl (fun K hK => ?_) ?_
      · go_simp
        have hI2 := hI.mk1 hcur hb
        refine hK.out _ _ (HS.out _ hI2.1) (fun hHeld => ?_)
        clear hK K
        simp only [Act.put, List.setIfInBounds_toArray, List.set_cons_zero, List.set_cons_succ]
        exact IH true false false false true _ _ _ _ _ _ rfl hI2
      refine AllReadyH.cons rfl (fun K hK => ?_) ?_
      · go_simp
        have hI2 := hI.mk3 (.cells #[] 27)
        refine hK.out _ _ (HS.out _ hI2.1) (fun hHeld => ?_)
        clear hK K
        simp only [Act.put, List.setIfInBounds_toArray, List.set_cons_zero, List.set_cons_succ]
        exact IH false false true false true _ _ _ _ _ _ rfl hI2
      refine AllReadyH.cons rfl (fun K hK => ?_) AllReadyH.nil
      go_simp
      have hI2 := hI.mk4 (.cells #[] 58)
      refine hK.out _ _ (HS.out _ hI2.1) (fun hHeld => ?_)
      clear hK K
      simp only [Act.put, List.setIfInBounds_toArray, List.set_cons_zero, List.set_cons_succ]
      exact IH false false false true true _ _ _ _ _ _ rfl hI2
    · obtain rfl : f = 5 := hf
      refine wpAnyH_ready (rs := [7, 14, 20]) (by kernel_rfl) (by simp) ?_
      refine AllReadyH.cons rfl (fun K hK => ?_) ?_
      · go_simp
        have hI2 := hI.mk1 hcur hb
        refine hK.out _ _ (HS.out _ hI2.1) (fun hHeld => ?_)
        clear hK K
        simp only [Act.put, List.setIfInBounds_toArray, List.set_cons_zero, List.set_cons_succ]
        exact IH true false false true false _ _ _ _ _ _ rfl hI2
      refine AllReadyH.cons rfl (fun K hK => ?_) ?_
      · go_simp
        have hI2 := hI.mk3 (.cells #[] 27)
        refine hK.out _ _ (HS.out _ hI2.1) (fun hHeld => ?_)
        clear hK K
        simp only [Act.put, List.setIfInBounds_toArray, List.set_cons_zero, List.set_cons_succ]
        exact IH false false true true false _ _ _ _ _ _ rfl hI2
      refine AllReadyH.cons rfl (fun K hK => ?_) AllReadyH.nil
      go_simp
      have hI2 := hI.mk5
      refine hK.out _ _ (HS.out _ hI2.1) (fun hHeld => ?_)
      clear hK K
      simp only [Act.put, List.setIfInBounds_toArray, List.set_cons_zero, List.set_cons_succ]
      exact IH false false false true true _ _ _ _ _ _ rfl hI2
    · obtain rfl : f = 4 := hf
      refine wpAnyH_ready (rs := [7, 14]) (by kernel_rfl) (by simp) ?_
      refine AllReadyH.cons rfl (fun K hK => ?_) ?_
      · go_simp
        have hI2 := hI.mk1 hcur hb
        refine hK.out _ _ (HS.out _ hI2.1) (fun hHeld => ?_)
        clear hK K
        simp only [Act.put, List.setIfInBounds_toArray, List.set_cons_zero, List.set_cons_succ]
        exact IH true false false true true _ _ _ _ _ _ rfl hI2
      refine AllReadyH.cons rfl (fun K hK => ?_) AllReadyH.nil
      go_simp
      have hI2 := hI.mk3 (.cells #[] 27)
      refine hK.out _ _ (HS.out _ hI2.1) (fun hHeld => ?_)
      clear hK K
      simp only [Act.put, List.setIfInBounds_toArray, List.set_cons_zero, List.set_cons_succ]
      exact IH false false true true true _ _ _ _ _ _ rfl hI2
    · obtain rfl : f = 5 := hf
      refine wpAnyH_ready (rs := [7, 18, 20]) (by kernel_rfl) (by simp) ?_
      refine AllReadyH.cons rfl (fun K hK => ?_) ?_
      · go_simp
        have hI2 := hI.mk1 hcur hb
        refine hK.out _ _ (HS.out _ hI2.1) (fun hHeld => ?_)
        clear hK K
        simp only [Act.put, List.setIfInBounds_toArray, List.set_cons_zero, List.set_cons_succ]
        exact IH true false true false false _ _ _ _ _ _ rfl hI2
      refine AllReadyH.cons rfl (fun K hK => ?_) ?_
      · go_simp
        have hI2 := hI.mk4 (.cells #[] 58)
        refine hK.out _ _ (HS.out _ hI2.1) (fun hHeld => ?_)
        clear hK K
        simp only [Act.put, List.setIfInBounds_toArray, List.set_cons_zero, List.set_cons_succ]
        exact IH false false true true false _ _ _ _ _ _ rfl hI2
      refine AllReadyH.cons rfl (fun K hK => ?_) AllReadyH.nil
      go_simp
      have hI2 := hI.mk5
      refine hK.out _ _ (HS.out _ hI2.1) (fun hHeld => ?_)
      clear hK K
      simp only [Act.put, List.setIfInBounds_toArray, List.set_cons_zero, List.set_cons_succ]
      exact IH false false true false true _ _ _ _ _ _ rfl hI2
    · obtain rfl : f = 4 := hf
      refine wpAnyH_ready (rs := [7, 18]) (by kernel_rfl) (by simp) ?_
      refine AllReadyH.cons rfl (fun K hK => ?_) ?_
      · go_simp
        have hI2 := hI.mk1 hcur hb
        refine hK.out _ _ (HS.out _ hI2.1) (fun hHeld => ?_)
        clear hK K
        simp only [Act.put, List.setIfInBounds_toArray, List.set_cons_zero, List.set_cons_succ]
        exact IH true false true false true _ _ _ _ _ _ rfl hI2
      refine AllReadyH.cons rfl (fun K hK => ?_) AllReadyH.nil
      go_simp
      have hI2 := hI.mk4 (.cells #[] 58)
      refine hK.out _ _ (HS.out _ hI2.1) (fun hHeld => ?_)
      clear hK K
      simp only [Act.put, List.setIfInBounds_toArray, List.set_cons_zero, List.set_cons_succ]
      exact IH false false true true true _ _ _ _ _ _ rfl hI2
    · obtain rfl : f = 4 := hf
      refine wpAnyH_ready (rs := [7, 20]) (by kernel_rfl) (by simp) ?_
      refine AllReadyH.cons rfl (fun K hK => ?_) ?_
      · go_simp
        have hI2 := hI.mk1 hcur hb
        refine hK.out _ _ (HS.out _ hI2.1) (fun hHeld => ?_)
        clear hK K
        simp only [Act.put, List.setIfInBounds_toArray, List.set_cons_zero, List.set_cons_succ]
        exact IH true false true true false _ _ _ _ _ _ rfl hI2
      refine AllReadyH.cons rfl (fun K hK => ?_) AllReadyH.nil
      go_simp
      have hI2 := hI.mk5
      refine hK.out _ _ (HS.out _ hI2.1) (fun hHeld => ?_)
      clear hK K
      simp only [Act.put, List.setIfInBounds_toArray, List.set_cons_zero, List.set_cons_succ]
      exact IH false false true true true _ _ _ _ _ _ rfl hI2
    · obtain rfl : f = 3 := hf
      refine wpAnyH_ready (rs := [7]) (by kernel_rfl) (by simp) ?_
      refine AllReadyH.cons rfl (fun K hK => ?_) AllReadyH.nil
      go_simp
      have hI2 := hI.mk1 hcur hb
      refine hK.out _ _ (HS.out _ hI2.1) (fun hHeld => ?_)
      clear hK K
      simp only [Act.put, List.setIfInBounds_toArray, List.set_cons_zero, List.set_cons_succ]
      exact IH true false true true true _ _ _ _ _ _ rfl hI2
    · exact absurd (hI.2.1 rfl) (by decide)
    · exact absurd (hI.2.1 rfl) (by decide)
    · exact absurd (hI.2.1 rfl) (by decide)
    · exact absurd (hI.2.1 rfl) (by decide)
    · exact absurd (hI.2.1 rfl) (by decide)
    · exact absurd (hI.2.1 rfl) (by decide)
    · exact absurd (hI.2.1 rfl) (by decide)
    · exact absurd (hI.2.1 rfl) (by decide)
    · obtain rfl : f = 5 := hf
      refine wpAnyH_ready (rs := [10, 14, 18, 20]) (by kernel_rfl) (by simp) ?_
      refine AllReadyH.cons rfl (fun K hK => ?_) ?_
      · obtain ⟨g, rfl, hA, -⟩ := hI.2.2.1 rfl rfl
        refine step_append_src (by rfl) (.tmp 15) (.tmp 17) 23 23 (by rfl) W0.heap.size 5 i0 _ 1 1 under_u8s Hi0.out Hz0.out Hz1.out Hz2.out (by rfl) (.slice (some ⟨g, 0, none⟩) 0 b.length) 0 (u8s []) (by rfl) hA (.slice aB b.length cB) b.length (u8s b) (by rfl) (HSRC.out _ (HW0.out.trans hI.1)) (by omega) (by simp only [maxLen]; omega) hI.1.size ?_
        intro A c W2 hown hgr hob
        simp only [Nat.zero_add] at hown hob ⊢
        have hI2 := hI.mk2 rfl hown hgr hob
        refine hK.out _ _ (HS.out _ hI2.1) (fun hHeld => ?_)
        clear hK K
        simp only [Act.put, List.setIfInBounds_toArray, List.set_cons_zero, List.set_cons_succ]
        exact IH true true false false false _ _ _ _ _ _ rfl hI2
      refine AllReadyH.cons rfl (fun K hK => ?_) ?_
      · go_simp
        have hI2 := hI.mk3 (.cells #[] 27)
        refine hK.out _ _ (HS.out _ hI2.1) (fun hHeld => ?_)
        clear hK K
        simp only [Act.put, List.setIfInBounds_toArray, List.set_cons_zero, List.set_cons_succ]
        exact IH true false true false false _ _ _ _ _ _ rfl hI2
      refine AllReadyH.cons rfl (fun K hK => ?_) ?_
      · go_simp
        have hI2 := hI.mk4 (.cells #[] 58)
        refine hK.out _ _ (HS.out _ hI2.1) (fun hHeld => ?_)
        clear hK K
        simp only [Act.put, List.setIfInBounds_toArray, List.set_cons_zero, List.set_cons_succ]
        exact IH true false false true false _ _ _ _ _ _ rfl hI2
      refine AllReadyH.cons rfl (fun K hK => ?_) AllReadyH.nil
      go_simp
      have hI2 := hI.mk5
      refine hK.out _ _ (HS.out _ hI2.1) (fun hHeld => ?_)
      clear hK K
      simp only [Act.put, List.setIfInBounds_toArray, List.set_cons_zero, List.set_cons_succ]
      exact IH true false false false true _ _ _ _ _ _ rfl hI2
    · obtain rfl : f = 4 := hf
      refine wpAnyH_ready (rs := [10, 14, 18]) (by kernel_rfl) (by simp) ?_
      refine AllReadyH.cons rfl (fun K hK => ?_) ?_
      · obtain ⟨g, rfl, hA, -⟩ := hI.2.2.1 rfl rfl
        refine step_append_src (by rfl) (.tmp 15) (.tmp 17) 23 23 (by rfl) W0.heap.size 5 i0 _ 1 1 under_u8s Hi0.out Hz0.out Hz1.out Hz2.out (by rfl) (.slice (some ⟨g, 0, none⟩) 0 b.length) 0 (u8s []) (by rfl) hA (.slice aB b.length cB) b.length (u8s b) (by rfl) (HSRC.out _ (HW0.out.trans hI.1)) (by omega) (by simp only [maxLen]; omega) hI.1.size ?_
        intro A c W2 hown hgr hob
        simp only [Nat.zero_add] at hown hob ⊢
        have hI2 := hI.mk2 rfl hown hgr hob
        refine hK.out _ _ (HS.out _ hI2.1) (fun hHeld => ?_)
        clear hK K
        simp only [Act.put, List.setIfInBounds_toArray, List.set_cons_zero, List.set_cons_succ]
        exact IH true true false false true _ _ _ _ _ _ rfl hI2
      refine AllReadyH.cons rfl (fun K hK => ?_) ?_
      · go_simp
        have hI2 := hI.mk3 (.cells #[] 27)
        refine hK.out _ _ (HS.out _ hI2.1) (fun hHeld => ?_)
        clear hK K
        simp only [Act.put, List.setIfInBounds_toArray, List.set_cons_zero, List.set_cons_succ]
        exact IH true false true false true _ _ _ _ _ _ rfl hI2
      refine AllReadyH.cons rfl (fun K hK => ?_) AllReadyH.nil
      go_simp
      have hI2 := hI.mk4 (.cells #[] 58)
      refine hK.out _ _ (HS.out _ hI2.1) (fun hHeld => ?_)
      clear hK K
      simp only [Act.put, List.setIfInBounds_toArray, List.set_cons_zero, List.set_cons_succ]
      exact IH true false false true true _ _ _ _ _ _ rfl hI2
    · obtain rfl : f = 4 := hf
      refine wpAnyH_ready (rs := [10, 14, 20]) (by kernel_rfl) (by simp) ?_
      refine AllReadyH.cons rfl (fun K hK => ?_) ?_
      · obtain ⟨g, rfl, hA, -⟩ := hI.2.2.1 rfl rfl
        refine step_append_src (by rfl) (.tmp 15) (.tmp 17) 23 23 (by rfl) W0.heap.size 5 i0 _ 1 1 under_u8s Hi0.out Hz0.out Hz1.out Hz2.out (by rfl) (.slice (some ⟨g, 0, none⟩) 0 b.length) 0 (u8s []) (by rfl) hA (.slice aB b.length cB) b.length (u8s b) (by rfl) (HSRC.out _ (HW0.out.trans hI.1)) (by omega) (by simp only [maxLen]; omega) hI.1.size ?_
        intro A c W2 hown hgr hob
        simp only [Nat.zero_add] at hown hob ⊢
        have hI2 := hI.mk2 rfl hown hgr hob
        refine hK.out _ _ (HS.out _ hI2.1) (fun hHeld => ?_)
        clear hK K
        simp only [Act.put, List.setIfInBounds_toArray, List.set_cons_zero, List.set_cons_succ]
        exact IH true true false true false _ _ _ _ _ _ rfl hI2
      refine AllReadyH.cons rfl (fun K hK => ?_) ?_
      · go_simp
        have hI2 := hI.mk3 (.cells #[] 27)
        refine hK.out _ _ (HS.out _ hI2.1) (fun hHeld => ?_)
        clear hK K
        simp only [Act.put, List.setIfInBounds_toArray, List.set_cons_zero, List.set_cons_succ]
        exact IH true false true true false _ _ _ _ _ _ rfl hI2
      refine AllReadyH.cons rfl (fun K hK => ?_) AllReadyH.nil
      go_simp
      have hI2 := hI.mk5
      refine hK.out _ _ (HS.out _ hI2.1) (fun hHeld => ?_)
      clear hK K
      simp only [Act.put, List.setIfInBounds_toArray, List.set_cons_zero, List.set_cons_succ]
      exact IH true false false true true _ _ _ _ _ _ rfl hI2
    · obtain rfl : f = 3 := hf
      refine wpAnyH_ready (rs := [10, 14]) (by kernel_rfl) (by simp) ?_
      refine AllReadyH.cons rfl (fun K hK => ?_) ?_
      · obtain ⟨g, rfl, hA, -⟩ := hI.2.2.1 rfl rfl
        refine step_append_src (by rfl) (.tmp 15) (.tmp 17) 23 23 (by rfl) W0.heap.size 5 i0 _ 1 1 under_u8s Hi0.out Hz0.out Hz1.out Hz2.out (by rfl) (.slice (some ⟨g, 0, none⟩) 0 b.length) 0 (u8s []) (by rfl) hA (.slice aB b.length cB) b.length (u8s b) (by rfl) (HSRC.out _ (HW0.out.trans hI.1)) (by omega) (by simp only [maxLen]; omega) hI.1.size ?_
        intro A c W2 hown hgr hob
        simp only [Nat.zero_add] at hown hob ⊢
        have hI2 := hI.mk2 rfl hown hgr hob
        refine hK.out _ _ (HS.out _ hI2.1) (fun hHeld => ?_)
        clear hK K
        simp only [Act.put, List.setIfInBounds_toArray, List.set_cons_zero, List.set_cons_succ]
        exact IH true true false true true _ _ _ _ _ _ rfl hI2
      refine AllReadyH.cons rfl (fun K hK => ?_) AllReadyH.nil
      go_simp
      have hI2 := hI.mk3 (.cells #[] 27)
      refine hK.out _ _ (HS.out _ hI2.1) (fun hHeld => ?_)
      clear hK K
      simp only [Act.put, List.setIfInBounds_toArray, List.set_cons_zero, List.set_cons_succ]
      exact IH true false true true true _ _ _ _ _ _ rfl hI2
    · obtain rfl : f = 4 := hf
      refine wpAnyH_ready (rs := [10, 18, 20]) (by kernel_rfl) (by simp) ?_
      refine AllReadyH.cons rfl (fun K hK => ?_) ?_
      · obtain ⟨g, rfl, hA, -⟩ := hI.2.2.1 rfl rfl
        refine step_append_src (by rfl) (.tmp 15) (.tmp 17) 23 23 (by rfl) W0.heap.size 5 i0 _ 1 1 under_u8s Hi0.out Hz0.out Hz1.out Hz2.out (by rfl) (.slice (some ⟨g, 0, none⟩) 0 b.length) 0 (u8s []) (by rfl) hA (.slice aB b.length cB) b.length (u8s b) (by rfl) (HSRC.out _ (HW0.out.trans hI.1)) (by omega) (by simp only [maxLen]; omega) hI.1.size ?_
        intro A c W2 hown hgr hob
        simp only [Nat.zero_add] at hown hob ⊢
        have hI2 := hI.mk2 rfl hown hgr hob
        refine hK.out _ _ (HS.out _ hI2.1) (fun hHeld => ?_)
        clear hK K
        simp only [Act.put, List.setIfInBounds_toArray, List.set_cons_zero, List.set_cons_succ]
        exact IH true true true false false _ _ _ _ _ _ rfl hI2
      refine AllReadyH.cons rfl (fun K hK => ?_) ?_
      · go_simp
        have hI2 := hI.mk4 (.cells #[] 58)
        refine hK.out _ _ (HS.out _ hI2.1) (fun hHeld => ?_)
        clear hK K
        simp only [Act.put, List.setIfInBounds_toArray, List.set_cons_zero, List.set_cons_succ]
        exact IH true false true true false _ _ _ _ _ _ rfl hI2
      refine AllReadyH.cons rfl (fun K hK => ?_) AllReadyH.nil
      go_simp
      have hI2 := hI.mk5
      refine hK.out _ _ (HS.out _ hI2.1) (fun hHeld => ?_)
      clear hK K
      simp only [Act.put, List.setIfInBounds_toArray, List.set_cons_zero, List.set_cons_succ]
      exact IH true false true false true _ _ _ _ _ _ rfl hI2
    · obtain rfl : f = 3 := hf
      refine wpAnyH_ready (rs := [10, 18]) (by kernel_rfl) (by simp) ?_
      refine AllReadyH.cons rfl (fun K hK => ?_) ?_
      · obtain ⟨g, rfl, hA, -⟩ := hI.2.2.1 rfl rfl
        refine step_append_src (by rfl) (.tmp 15) (.tmp 17) 23 23 (by rfl) W0.heap.size 5 i0 _ 1 1 under_u8s Hi0.out Hz0.out Hz1.out Hz2.out (by rfl) (.slice (some ⟨g, 0, none⟩) 0 b.length) 0 (u8s []) (by rfl) hA (.slice aB b.length cB) b.length (u8s b) (by rfl) (HSRC.out _ (HW0.out.trans hI.1)) (by omega) (by simp only [maxLen]; omega) hI.1.size ?_
        intro A c W2 hown hgr hob
        simp only [Nat.zero_add] at hown hob ⊢
        have hI2 := hI.mk2 rfl hown hgr hob
        refine hK.out _ _ (HS.out _ hI2.1) (fun hHeld => ?_)
        clear hK K
        simp only [Act.put, List.setIfInBounds_toArray, List.set_cons_zero, List.set_cons_succ]
        exact IH true true true false true _ _ _ _ _ _ rfl hI2
      refine AllReadyH.cons rfl (fun K hK => ?_) AllReadyH.nil
      go_simp
      have hI2 := hI.mk4 (.cells #[] 58)
      refine hK.out _ _ (HS.out _ hI2.1) (fun hHeld => ?_)
      clear hK K
      simp only [Act.put, List.setIfInBounds_toArray, List.set_cons_zero, List.set_cons_succ]
      exact IH true false true true true _ _ _ _ _ _ rfl hI2
    · obtain rfl : f = 3 := hf
      refine wpAnyH_ready (rs := [10, 20]) (by kernel_rfl) (by simp) ?_
      refine AllReadyH.cons rfl (fun K hK => ?_) ?_
      · obtain ⟨g, rfl, hA, -⟩ := hI.2.2.1 rfl rfl
        refine step_append_src (by rfl) (.tmp 15) (.tmp 17) 23 23 (by rfl) W0.heap.size 5 i0 _ 1 1 under_u8s Hi0.out Hz0.out Hz1.out Hz2.out (by rfl) (.slice (some ⟨g, 0, none⟩) 0 b.length) 0 (u8s []) (by rfl) hA (.slice aB b.length cB) b.length (u8s b) (by rfl) (HSRC.out _ (HW0.out.trans hI.1)) (by omega) (by simp only [maxLen]; omega) hI.1.size ?_
        intro A c W2 hown hgr hob
        simp only [Nat.zero_add] at hown hob ⊢
        have hI2 := hI.mk2 rfl hown hgr hob
        refine hK.out _ _ (HS.out _ hI2.1) (fun hHeld => ?_)
        clear hK K
        simp only [Act.put, List.setIfInBounds_toArray, List.set_cons_zero, List.set_cons_succ]
        exact IH true true true true false _ _ _ _ _ _ rfl hI2
      refine AllReadyH.cons rfl (fun K hK => ?_) AllReadyH.nil
      go_simp
      have hI2 := hI.mk5
      refine hK.out _ _ (HS.out _ hI2.1) (fun hHeld => ?_)
      clear hK K
      simp only [Act.put, List.setIfInBounds_toArray, List.set_cons_zero, List.set_cons_succ]
      exact IH true false true true true _ _ _ _ _ _ rfl hI2
    · obtain rfl : f = 2 := hf
      refine wpAnyH_ready (rs := [10]) (by kernel_rfl) (by simp) ?_
      refine AllReadyH.cons rfl (fun K hK => ?_) AllReadyH.nil
      obtain ⟨g, rfl, hA, -⟩ := hI.2.2.1 rfl rfl
      refine step_append_src (by rfl) (.tmp 15) (.tmp 17) 23 23 (by rfl) W0.heap.size 5 i0 _ 1 1 under_u8s Hi0.out Hz0.out Hz1.out Hz2.out (by rfl) (.slice (some ⟨g, 0, none⟩) 0 b.length) 0 (u8s []) (by rfl) hA (.slice aB b.length cB) b.length (u8s b) (by rfl) (HSRC.out _ (HW0.out.trans hI.1)) (by omega) (by simp only [maxLen]; omega) hI.1.size ?_
      intro A c W2 hown hgr hob
      simp only [Nat.zero_add] at hown hob ⊢
      have hI2 := hI.mk2 rfl hown hgr hob
      refine hK.out _ _ (HS.out _ hI2.1) (fun hHeld => ?_)
      clear hK K
      simp only [Act.put, List.setIfInBounds_toArray, List.set_cons_zero, List.set_cons_succ]
      exact IH true true true true true _ _ _ _ _ _ rfl hI2
    · obtain rfl : f = 4 := hf
      refine wpAnyH_ready (rs := [14, 18, 20]) (by kernel_rfl) (by simp) ?_
      refine AllReadyH.cons rfl (fun K hK => ?_) ?_
      · go_simp
        have hI2 := hI.mk3 (.cells #[] 27)
        refine hK.out _ _ (HS.out _ hI2.1) (fun hHeld => ?_)
        clear hK K
        simp only [Act.put, List.setIfInBounds_toArray, List.set_cons_zero, List.set_cons_succ]
        exact IH true true true false false _ _ _ _ _ _ rfl hI2
      refine AllReadyH.cons rfl (fun K hK => ?_) ?_
      · go_simp
        have hI2 := hI.mk4 (.cells #[] 58)
        refine hK.out _ _ (HS.out _ hI2.1) (fun hHeld => ?_)
        clear hK K
        simp only [Act.put, List.setIfInBounds_toArray, List.set_cons_zero, List.set_cons_succ]
        exact IH true true false true false _ _ _ _ _ _ rfl hI2
      refine AllReadyH.cons rfl (fun K hK => ?_) AllReadyH.nil
      go_simp
      have hI2 := hI.mk5
      refine hK.out _ _ (HS.out _ hI2.1) (fun hHeld => ?_)
      clear hK K
      simp only [Act.put, List.setIfInBounds_toArray, List.set_cons_zero, List.set_cons_succ]
      exact IH true true false false true _ _ _ _ _ _ rfl hI2
    · obtain rfl : f = 3 := hf
      refine wpAnyH_ready (rs := [14, 18]) (by kernel_rfl) (by simp) ?_
      refine AllReadyH.cons rfl (fun K hK => ?_) ?_
      · go_simp
        have hI2 := hI.mk3 (.cells #[] 27)
        refine hK.out _ _ (HS.out _ hI2.1) (fun hHeld => ?_)
        clear hK K
        simp only [Act.put, List.setIfInBounds_toArray, List.set_cons_zero, List.set_cons_succ]
        exact IH true true true false true _ _ _ _ _ _ rfl hI2
      refine AllReadyH.cons rfl (fun K hK => ?_) AllReadyH.nil
      go_simp
      have hI2 := hI.mk4 (.cells #[] 58)
      refine hK.out _ _ (HS.out _ hI2.1) (fun hHeld => ?_)
      clear hK K
      simp only [Act.put, List.setIfInBounds_toArray, List.set_cons_zero, List.set_cons_succ]
      exact IH true true false true true _ _ _ _ _ _ rfl hI2
    · obtain rfl : f = 3 := hf
      refine wpAnyH_ready (rs := [14, 20]) (by kernel_rfl) (by simp) ?_
      refine AllReadyH.cons rfl (fun K hK => ?_) ?_
      · go_simp
        have hI2 := hI.mk3 (.cells #[] 27)
        refine hK.out _ _ (HS.out _ hI2.1) (fun hHeld => ?_)
        clear hK K
        simp only [Act.put, List.setIfInBounds_toArray, List.set_cons_zero, List.set_cons_succ]
        exact IH true true true true false _ _ _ _ _ _ rfl hI2
      refine AllReadyH.cons rfl (fun K hK => ?_) AllReadyH.nil
      go_simp
      have hI2 := hI.mk5
      refine hK.out _ _ (HS.out _ hI2.1) (fun hHeld => ?_)
      clear hK K
      simp only [Act.put, List.setIfInBounds_toArray, List.set_cons_zero, List.set_cons_succ]
      exact IH true true false true true _ _ _ _ _ _ rfl hI2
    · obtain rfl : f = 2 := hf
      refine wpAnyH_ready (rs := [14]) (by kernel_rfl) (by simp) ?_
      refine AllReadyH.cons rfl (fun K hK => ?_) AllReadyH.nil
      go_simp
      have hI2 := hI.mk3 (.cells #[] 27)
      refine hK.out _ _ (HS.out _ hI2.1) (fun hHeld => ?_)
      clear hK K
      simp only [Act.put, List.setIfInBounds_toArray, List.set_cons_zero, List.set_cons_succ]
      exact IH true true true true true _ _ _ _ _ _ rfl hI2
    · obtain rfl : f = 3 := hf
      refine wpAnyH_ready (rs := [18, 20]) (by kernel_rfl) (by simp) ?_
      refine AllReadyH.cons rfl (fun K hK => ?_) ?_
      · go_simp
        have hI2 := hI.mk4 (.cells #[] 58)
        refine hK.out _ _ (HS.out _ hI2.1) (fun hHeld => ?_)
        clear hK K
        simp only [Act.put, List.setIfInBounds_toArray, List.set_cons_zero, List.set_cons_succ]
        exact IH true true true true false _ _ _ _ _ _ rfl hI2
      refine AllReadyH.cons rfl (fun K hK => ?_) AllReadyH.nil
      go_simp
      have hI2 := hI.mk5
      refine hK.out _ _ (HS.out _ hI2.1) (fun hHeld => ?_)
      clear hK K
      simp only [Act.put, List.setIfInBounds_toArray, List.set_cons_zero, List.set_cons_succ]
      exact IH true true true false true _ _ _ _ _ _ rfl hI2
    · obtain rfl : f = 2 := hf
      refine wpAnyH_ready (rs := [18]) (by kernel_rfl) (by simp) ?_
      refine AllReadyH.cons rfl (fun K hK => ?_) AllReadyH.nil
      go_simp
      have hI2 := hI.mk4 (.cells #[] 58)
      refine hK.out _ _ (HS.out _ hI2.1) (fun hHeld => ?_)
      clear hK K
      simp only [Act.put, List.setIfInBounds_toArray, List.set_cons_zero, List.set_cons_succ]
      exact IH true true true true true _ _ _ _ _ _ rfl hI2
    · obtain rfl : f = 2 := hf
      clear IH
      obtain ⟨A, cC, rfl, -⟩ := hI.2.2.2.1 rfl
      obtain ⟨gL, rfl⟩ := hI.2.2.2.2.1 rfl
      obtain ⟨gF, rfl⟩ := hI.2.2.2.2.2.1 rfl
      have hHeld := HS.out _ hI.1
      refine wpAnyH_take (i := 19) (v := ?_) (by simp only [List.getElem?_toArray, List.getElem?_cons_succ, List.getElem?_cons_zero]; rfl) (by kernel_rfl) (by kernel_rfl) (by kernel_rfl) (fun _ _ _ h => h) (Or.inl ⟨by rfl, ?_⟩) (by assumption) ?_
      rotate_left 1
      · (intro w hSw; (try dsimp only at hSw); go_simp; try with_reducible rfl)
      try simp only [Act.put, List.setIfInBounds_toArray, List.set_cons_zero, List.set_cons_succ]
      refine wpAnyH_ready (rs := [20]) (by kernel_rfl) (by simp) ?_
      refine AllReadyH.cons rfl (fun K hK => ?_) AllReadyH.nil
      go_simp
      have hI5 := hI.mk5
      refine hK.out _ _ (HS.out _ hI5.1) (fun hHeld => ?_)
      clear hK K hI hHeld
      simp only [Act.put, List.setIfInBounds_toArray, List.set_cons_zero, List.set_cons_succ]
      generalize W.alloc (.cells #[.int .i64 0, .int .u64 0, .slice none 0 0, .slice none 0 0, .slice none 0 0] 27) = W5 at hI5 ⊢
      generalize Value.pointer (some ⟨W.heap.size, 0, none⟩) = x5 at hI5 ⊢
      have hI := hI5
      clear hI5
      obtain ⟨gO, rfl, hg, hC, hO, hOz, hCO⟩ := hI.done
      have hOc := hO.cell
      have hOf := hO.frozen
      clear hI
      refine wpAnyH_ready (rs := [21]) (by kernel_rfl) (by simp) ?_
      refine AllReadyH.cons rfl (fun K hK => ?_) AllReadyH.nil
      go_simp
      refine hK.out _ _ (HS.out _ (hg.set5v hOz ⟨k0, n, A, b.length, cC, some ⟨gL, 0, none⟩, 0, 0, some ⟨gF, 0, none⟩, 0, 0⟩)) (fun hHeld => ?_)
      clear hK K
      refine wpAnyH_done (by kernel_rfl) ?_ _
      refine NoPanic.normal ?_
      go_wp2_with fail
      go_meet
      rw [HWW.out]
      exact CpEnd.make hg hC hO hOz hCO rfl rfl
    · obtain rfl : f = 1 := hf
      clear IH
      obtain ⟨A, cC, rfl, -⟩ := hI.2.2.2.1 rfl
      obtain ⟨gL, rfl⟩ := hI.2.2.2.2.1 rfl
      obtain ⟨gF, rfl⟩ := hI.2.2.2.2.2.1 rfl
      have hHeld := HS.out _ hI.1
      refine wpAnyH_take (i := 19) (v := ?_) (by simp only [List.getElem?_toArray, List.getElem?_cons_succ, List.getElem?_cons_zero]; rfl) (by kernel_rfl) (by kernel_rfl) (by kernel_rfl) (fun _ _ _ h => h) (Or.inl ⟨by rfl, ?_⟩) (by assumption) ?_
      rotate_left 1
      · (intro w hSw; (try dsimp only at hSw); go_simp; try with_reducible rfl)
      try simp only [Act.put, List.setIfInBounds_toArray, List.set_cons_zero, List.set_cons_succ]
      obtain ⟨gO, rfl, hg, hC, hO, hOz, hCO⟩ := hI.done
      have hOc := hO.cell
      have hOf := hO.frozen
      clear hI
      refine wpAnyH_ready (rs := [21]) (by kernel_rfl) (by simp) ?_
      refine AllReadyH.cons rfl (fun K hK => ?_) AllReadyH.nil
      go_simp
      refine hK.out _ _ (HS.out _ (hg.set5v hOz ⟨k0, n, A, b.length, cC, some ⟨gL, 0, none⟩, 0, 0, some ⟨gF, 0, none⟩, 0, 0⟩)) (fun hHeld => ?_)
      clear hK K
      refine wpAnyH_done (by kernel_rfl) ?_ _
      refine NoPanic.normal ?_
      go_wp2_with fail
      go_meet
      rw [HWW.out]
      exact CpEnd.make hg hC hO hOz hCO rfl rfl
  case rest =>
    obtain ⟨gO, A, cC, aL', cL', aF', cF', rfl, hO, hC, hg, hOz⟩ := hcut
    rename World => wx
    have hw0 := HC0.out.drew
    have hVx := hw0.grow hg
    have hRx := (((Blk.new (w.alloc (.cells (Cv.cells ⟨k0, n, aB, b.length, cB, aL, 0, cL, aF, 0, cF⟩) 27)) 27 #[.int .i64 0, .int .u64 0, .slice none 0 0, .slice none 0 0, .slice none 0 0]).drew).grow hg)
    rw [show (w.alloc (.cells (Cv.cells ⟨k0, n, aB, b.length, cB, aL, 0, cL, aF, 0, cF⟩) 27)).heap.size = w.heap.size + 1 by simp] at hRx
    have hvc := hVx.cell
    have hrc := hRx.cell
    have hrf := hRx.frozen
    have hoc := hO.cell
    have hgw : Grow w wx := ((((Grow.refl w).alloc _).alloc _).drew).trans hg
    have hzo : w.heap.size + 2 ≤ gO := by simpa using hOz
    have hC' : Row wx (w.heap.size + 2) (.slice A b.length cC) b.length b := by simpa using hC
    have HR1 := hide hRx
    have HO1 := hide hO
    have HC1 := hide hC'
    have HGW := hide hgw
    clear hVx hRx hO hC hg hgw hC' hw0 HS HC0 hcell hOz HSRC Hi0 Hz0 Hz1 Hz2 hcur hmk
    go_wp2_with fail
    go_loopg [31] 1 (fun gk i wr => gk = 1 ∧ i = .int .i64 0 ∧ wr = wx)
    case atStart => exact ⟨rfl, rfl, rfl⟩
    case round =>
      obtain ⟨rfl, rfl, rfl⟩ := hrel
      go_wp2_with fail
      go_loopg [46] 1 (fun gk i wr' => gk = 1 ∧ i = .int .i64 0 ∧ wr' = wr)
      case atStart => exact ⟨rfl, rfl, rfl⟩
      case round =>
        obtain ⟨rfl, rfl, rfl⟩ := hrel
        go_wp2_with fail
        have HE := hide (copy_end (aL := aL') (aF := aF') (cL := cL') (cF := cF') HC1.out HGW.out h8 h6 h7 (by omega) rfl (e := .returned (Cv.agg ⟨k0, n, A, b.length, cC, aL', 0, cL', aF', 0, cF'⟩)) rfl)
        refine bodyPost_ret (cellres (F := Tryd.f82) (vb := w.heap.size + 1) rfl rfl ⟨k0, n, A, b.length, cC, aL', 0, cL', aF', 0, cF'⟩ (set5_from (c := ⟨k0, n, A, b.length, cC, aL', 0, cL', aF', 0, cF'⟩) HR1.out)) rfl ?_
        exact HE.out
end Go.Proofs.YticgdjnekbobgaaDoor
