/- Values of the program as Lean data, and how they lie in memory: no program in sight. -/
import Derived.WalkKit
import Derived.WalkSpells
import Derived.WalkLawsBesides
import Derived.Deep.LoopGhost
import Derived.Deep.AppendLies
import Derived.Deep.Draws
namespace Go.Proofs.YtojpeiihkjpeoaaDoor
open Go.RowKit

theorem hide {p : Prop} (h : p) : Hid p := h

/-- A value of the program (api.Val). -/
inductive V where
  | mk (k : Int) (n : Nat) (b : List UInt8) (l : List V) (f : List (ByteArray × V))

namespace V
def k : V → Int | mk k _ _ _ _ => k
def n : V → Nat | mk _ n _ _ _ => n
def b : V → List UInt8 | mk _ _ b _ _ => b
def l : V → List V | mk _ _ _ l _ => l
def f : V → List (ByteArray × V) | mk _ _ _ _ f => f
def zero : V := mk 0 0 [] [] []

theorem sizeOf_l {k : Int} {n : Nat} {b : List UInt8} {l : List V} {f : List (ByteArray × V)} {x : V} (h : x ∈ l) : SizeOf.sizeOf x < SizeOf.sizeOf (mk k n b l f) := by
  have := List.sizeOf_lt_of_mem h
  simp only [mk.sizeOf_spec]; omega
theorem sizeOf_f {k : Int} {n : Nat} {b : List UInt8} {l : List V} {f : List (ByteArray × V)} {x : ByteArray × V} (h : x ∈ f) : SizeOf.sizeOf x.2 < SizeOf.sizeOf (mk k n b l f) := by
  have := List.sizeOf_lt_of_mem h
  obtain ⟨s, y⟩ := x
  simp only [mk.sizeOf_spec, Prod.mk.sizeOf_spec] at *; omega

theorem ind {p : V → Prop} (h : ∀ k n b l f, (∀ x ∈ l, p x) → (∀ x ∈ f, p x.2) → p (mk k n b l f)) (v : V) : p v := by
  match v with
  | mk k n b l f => exact h k n b l f (fun x _ => ind h x) (fun x _ => ind h x.2)
termination_by SizeOf.sizeOf v
decreasing_by
  · exact sizeOf_l ‹_›
  · exact sizeOf_f ‹_›
end V

/-- The five cells of a value. -/
structure Cv where
  k : Int
  n : Int
  aB : Option Addr
  nB : Nat
  cB : Nat
  aL : Option Addr
  nL : Nat
  cL : Nat
  aF : Option Addr
  nF : Nat
  cF : Nat
abbrev Cv.cells (c : Cv) : Array Value := #[.int .i64 c.k, .int .u64 c.n, .slice c.aB c.nB c.cB, .slice c.aL c.nL c.cL, .slice c.aF c.nF c.cF]
abbrev Cv.agg (c : Cv) : Value := .agg c.cells
abbrev Cv.zero : Cv := ⟨0, 0, none, 0, 0, none, 0, 0, none, 0, 0⟩

/-- 'C p u': the cell at p holds u (and whatever else is asked of it). A slice value at A of n elements, 'size' cells each, reads as the cells xs. -/
def Reads (C : Addr → Value → Prop) (size : Nat) (A : Option Addr) (n : Nat) (xs : List Value) : Prop :=
  xs.length = n * size ∧ (0 < n → ∃ bk o, A = some ⟨bk, o, none⟩ ∧ ∀ j u, xs[j]? = some u → C ⟨bk, o + j, none⟩ u)

def u8s (b : List UInt8) : List Value := b.map fun x => .int .u8 (x.toNat : Int)

/-- The value's five cells from an address on. -/
def At5 (C : Addr → Value → Prop) (bk o : Nat) (c : Cv) : Prop :=
  C ⟨bk, o, none⟩ (.int .i64 c.k) ∧ C ⟨bk, o + 1, none⟩ (.int .u64 c.n) ∧ C ⟨bk, o + 2, none⟩ (.slice c.aB c.nB c.cB) ∧ C ⟨bk, o + 3, none⟩ (.slice c.aL c.nL c.cL) ∧ C ⟨bk, o + 4, none⟩ (.slice c.aF c.nF c.cF)

/-- The cells c are the value v. -/
def IsV (C : Addr → Value → Prop) : V → Cv → Prop
  | .mk k n b l f, c => c.k = k ∧ c.n = (n : Int) ∧ c.nB = b.length ∧ c.nL = l.length ∧ c.nF = f.length ∧
      -9223372036854775808 ≤ k ∧ k ≤ 9223372036854775807 ∧ n < 18446744073709551616 ∧
      b.length ≤ c.cB ∧ b.length ≤ 140737488355328 ∧ l.length ≤ c.cL ∧ l.length ≤ 140737488355328 ∧ f.length ≤ c.cF ∧ f.length ≤ 140737488355328 ∧
      Reads C 1 c.aB b.length (u8s b) ∧
      (∀ i (h : i < l.length), ∃ bk o x, c.aL = some ⟨bk, o, none⟩ ∧ At5 C bk (o + i * 5) x ∧ IsV C l[i] x) ∧
      (∀ i (h : i < f.length), ∃ bk o x, c.aF = some ⟨bk, o, none⟩ ∧ C ⟨bk, o + i * 6, none⟩ (.string f[i].1) ∧ f[i].1.size ≤ 140737488355328 ∧ At5 C bk (o + i * 6 + 1) x ∧ IsV C f[i].2 x)
termination_by v => SizeOf.sizeOf v
decreasing_by
  · exact V.sizeOf_l (List.getElem_mem _)
  · exact V.sizeOf_f (List.getElem_mem _)

def AtW (w : World) (lo hi : Nat) (p : Addr) (u : Value) : Prop := w.cell? p = some u ∧ lo ≤ p.block ∧ p.block < hi

theorem Reads.mono {C C' : Addr → Value → Prop} (h : ∀ p u, C p u → C' p u) {size : Nat} {A : Option Addr} {n : Nat} {xs : List Value} (hr : Reads C size A n xs) : Reads C' size A n xs :=
  ⟨hr.1, fun hn => by obtain ⟨bk, o, e, hc⟩ := hr.2 hn; exact ⟨bk, o, e, fun j u hu => h _ _ (hc j u hu)⟩⟩

theorem At5.mono {C C' : Addr → Value → Prop} (h : ∀ p u, C p u → C' p u) {bk o : Nat} {c : Cv} (hc : At5 C bk o c) : At5 C' bk o c :=
  ⟨h _ _ hc.1, h _ _ hc.2.1, h _ _ hc.2.2.1, h _ _ hc.2.2.2.1, h _ _ hc.2.2.2.2⟩

theorem IsV.mono {C C' : Addr → Value → Prop} (h : ∀ p u, C p u → C' p u) (v : V) : ∀ c, IsV C v c → IsV C' v c := by
  induction v using V.ind with
  | h k n b l f hl hf =>
    intro c hv
    rw [IsV] at hv ⊢
    obtain ⟨e1, e2, e3, e4, e5, h1, h2, h3, h4, h5, h6, h7, h8, h9, hb, hL, hF⟩ := hv
    refine ⟨e1, e2, e3, e4, e5, h1, h2, h3, h4, h5, h6, h7, h8, h9, hb.mono h, fun i hi => ?_, fun i hi => ?_⟩
    · obtain ⟨bk, o, x, e, k0, kv⟩ := hL i hi
      exact ⟨bk, o, x, e, k0.mono h, hl _ (List.getElem_mem _) _ kv⟩
    · obtain ⟨bk, o, x, e, ks, kz, k0, kv⟩ := hF i hi
      exact ⟨bk, o, x, e, h _ _ ks, kz, k0.mono h, hf _ (List.getElem_mem _) _ kv⟩

theorem AtW.below {w w' : World} {B lo hi lo' hi' : Nat} (hb : Below B w w') (h0 : lo' ≤ lo) (h1 : hi ≤ B) (h2 : hi ≤ hi') (p : Addr) (u : Value) (h : AtW w lo hi p u) : AtW w' lo' hi' p u :=
  ⟨(hb.cell (Nat.lt_of_lt_of_le h.2.2 h1)).trans h.1, Nat.le_trans h0 h.2.1, Nat.lt_of_lt_of_le h.2.2 h2⟩

/-- All that there is stays; there may be more. -/
def Grow (w w' : World) : Prop := Below w.heap.size w w'
theorem Grow.below {w w' : World} (h : Grow w w') : Below w.heap.size w w' := h
theorem Grow.refl (w : World) : Grow w w := Below.refl _ _
theorem Grow.size {w w' : World} (h : Grow w w') : w.heap.size ≤ w'.heap.size := Below.size h
theorem Grow.trans {a b c : World} (h : Grow a b) (k : Grow b c) : Grow a c := Below.trans h (Below.mono k h.size)
theorem Grow.alloc {a w : World} (h : Grow a w) (o : Obj) : Grow a (w.alloc o) := Below.alloc h h.size o
theorem Grow.drew {a w : World} (h : Grow a w) : Grow a w.drew := Below.drew h
theorem Grow.drewN {a w : World} (h : Grow a w) (n : Nat) : Grow a (w.drewN n) := ⟨h.os, h.tape, h.output, h.size, h.block⟩
theorem Grow.setCell {a w : World} (h : Grow a w) {p : Addr} (hp : a.heap.size ≤ p.block) (u : Value) : Grow a (w.setCell p u) := Below.setCell h hp u
theorem Grow.grown {a w w' : World} {row : Option Nat} (h : Grow a w) (hg : w.grownBy w' row) (hr : ∀ k, row = some k → a.heap.size ≤ k) : Grow a w' := Below.grown h hg h.size hr

/-- The value lies in the world. -/
def In (w : World) (v : V) (c : Cv) : Prop := IsV (AtW w 0 w.heap.size) v c
theorem In.grow {w w' : World} {v : V} {c : Cv} (h : In w v c) (hb : Grow w w') : In w' v c :=
  IsV.mono (AtW.below hb.below (Nat.le_refl _) (Nat.le_refl _) hb.size) v c h
theorem IsV.up {w w' : World} {lo hi : Nat} {v : V} {c : Cv} (h : IsV (AtW w lo hi) v c) (hb : Below hi w w') (hs : hi ≤ w'.heap.size) : In w' v c :=
  IsV.mono (AtW.below hb (Nat.zero_le _) (Nat.le_refl _) hs) v c h

/-- Bytes that lie in the world. -/
def InB (w : World) (A : Option Addr) (b : List UInt8) : Prop := Reads (AtW w 0 w.heap.size) 1 A b.length (u8s b)
theorem InB.grow {w w' : World} {A : Option Addr} {b : List UInt8} (h : InB w A b) (hb : Grow w w') : InB w' A b :=
  Reads.mono (AtW.below hb.below (Nat.le_refl _) (Nat.le_refl _) hb.size) h

/-- The value lies in the world below block hi. -/
def InU (w : World) (hi : Nat) (v : V) (c : Cv) : Prop := IsV (AtW w 0 hi) v c
theorem InU.below {w w' : World} {B hi hi' : Nat} {v : V} {c : Cv} (h : InU w hi v c) (hb : Below B w w') (h1 : hi ≤ B) (h2 : hi ≤ hi') : InU w' hi' v c :=
  IsV.mono (AtW.below hb (Nat.le_refl _) h1 h2) v c h
theorem In.under {w : World} {v : V} {c : Cv} (h : In w v c) : InU w w.heap.size v c := h
theorem InU.in_ {w : World} {hi : Nat} {v : V} {c : Cv} (h : InU w hi v c) (hz : hi ≤ w.heap.size) : In w v c := IsV.mono (AtW.below (Below.refl hi w) (Nat.le_refl _) (Nat.le_refl _) hz) v c h
/-- What is known of a value in the world: the plain facts, the bytes, and part by part. -/
theorem InU.open {w : World} {hi : Nat} {k : Int} {n : Nat} {b : List UInt8} {l : List V} {f : List (ByteArray × V)} {c : Cv} (h : InU w hi (.mk k n b l f) c) :
    ∃ (aB aL aF : Option Addr) (cB cL cF : Nat), c = ⟨k, (n : Int), aB, b.length, cB, aL, l.length, cL, aF, f.length, cF⟩ ∧
      -9223372036854775808 ≤ k ∧ k ≤ 9223372036854775807 ∧ n < 18446744073709551616 ∧
      b.length ≤ cB ∧ b.length ≤ 140737488355328 ∧ l.length ≤ cL ∧ l.length ≤ 140737488355328 ∧ f.length ≤ cF ∧ f.length ≤ 140737488355328 ∧ Reads (AtW w 0 hi) 1 aB b.length (u8s b) := by
  unfold InU at h
  rw [IsV] at h
  obtain ⟨c1, c2, aB, c3, cB, aL, c4, cL, aF, c5, cF⟩ := c
  obtain ⟨e1, e2, e3, e4, e5, h1, h2, h3, h4, h5, h6, h7, h8, h9, hb, hL, hF⟩ := h
  dsimp only at *
  subst e1 e2 e3 e4 e5
  exact ⟨aB, aL, aF, cB, cL, cF, rfl, h1, h2, h3, h4, h5, h6, h7, h8, h9, hb⟩

theorem InU.elemL {w : World} {hi : Nat} {k : Int} {n : Nat} {b : List UInt8} {l : List V} {f : List (ByteArray × V)} {c : Cv} (h : InU w hi (.mk k n b l f) c) (i : Nat) (hil : i < l.length) :
    ∃ bk o x, c.aL = some ⟨bk, o, none⟩ ∧ bk < hi ∧ w.cell? ⟨bk, o + i * 5, none⟩ = some (.int .i64 x.k) ∧ w.cell? ⟨bk, o + i * 5 + 1, none⟩ = some (.int .u64 x.n) ∧
      w.cell? ⟨bk, o + i * 5 + 2, none⟩ = some (.slice x.aB x.nB x.cB) ∧ w.cell? ⟨bk, o + i * 5 + 3, none⟩ = some (.slice x.aL x.nL x.cL) ∧
      w.cell? ⟨bk, o + i * 5 + 4, none⟩ = some (.slice x.aF x.nF x.cF) ∧ InU w hi l[i] x := by
  unfold InU at h
  rw [IsV] at h
  obtain ⟨e1, e2, e3, e4, e5, h1, h2, h3, h4, h5, h6, h7, h8, h9, hb, hL, hF⟩ := h
  obtain ⟨bk, o, x, e, ⟨k0, k1, k2, k3, k4⟩, kv⟩ := hL i hil
  exact ⟨bk, o, x, e, k0.2.2, k0.1, k1.1, k2.1, k3.1, k4.1, kv⟩

theorem InU.elemF {w : World} {hi : Nat} {k : Int} {n : Nat} {b : List UInt8} {l : List V} {f : List (ByteArray × V)} {c : Cv} (h : InU w hi (.mk k n b l f) c) (i : Nat) (hif : i < f.length) :
    ∃ bk o x, c.aF = some ⟨bk, o, none⟩ ∧ bk < hi ∧ w.cell? ⟨bk, o + i * 6, none⟩ = some (.string f[i].1) ∧ f[i].1.size ≤ 140737488355328 ∧
      w.cell? ⟨bk, o + i * 6 + 1, none⟩ = some (.int .i64 x.k) ∧ w.cell? ⟨bk, o + i * 6 + 1 + 1, none⟩ = some (.int .u64 x.n) ∧
      w.cell? ⟨bk, o + i * 6 + 1 + 2, none⟩ = some (.slice x.aB x.nB x.cB) ∧ w.cell? ⟨bk, o + i * 6 + 1 + 3, none⟩ = some (.slice x.aL x.nL x.cL) ∧
      w.cell? ⟨bk, o + i * 6 + 1 + 4, none⟩ = some (.slice x.aF x.nF x.cF) ∧ InU w hi f[i].2 x := by
  unfold InU at h
  rw [IsV] at h
  obtain ⟨e1, e2, e3, e4, e5, h1, h2, h3, h4, h5, h6, h7, h8, h9, hb, hL, hF⟩ := h
  obtain ⟨bk, o, x, e, ks, kz, ⟨k0, k1, k2, k3, k4⟩, kv⟩ := hF i hif
  exact ⟨bk, o, x, e, ks.2.2, ks.1, kz, k0.1, k1.1, k2.1, k3.1, k4.1, kv⟩

theorem In.open {w : World} {k : Int} {n : Nat} {b : List UInt8} {l : List V} {f : List (ByteArray × V)} {c : Cv} (h : In w (.mk k n b l f) c) :
    ∃ (aB aL aF : Option Addr) (cB cL cF : Nat), c = ⟨k, (n : Int), aB, b.length, cB, aL, l.length, cL, aF, f.length, cF⟩ ∧
      -9223372036854775808 ≤ k ∧ k ≤ 9223372036854775807 ∧ n < 18446744073709551616 ∧
      b.length ≤ cB ∧ b.length ≤ 140737488355328 ∧ l.length ≤ cL ∧ l.length ≤ 140737488355328 ∧ f.length ≤ cF ∧ f.length ≤ 140737488355328 ∧ InB w aB b := InU.open h
theorem In.elemL {w : World} {k : Int} {n : Nat} {b : List UInt8} {l : List V} {f : List (ByteArray × V)} {c : Cv} (h : In w (.mk k n b l f) c) (i : Nat) (hi : i < l.length) :
    ∃ bk o x, c.aL = some ⟨bk, o, none⟩ ∧ bk < w.heap.size ∧ w.cell? ⟨bk, o + i * 5, none⟩ = some (.int .i64 x.k) ∧ w.cell? ⟨bk, o + i * 5 + 1, none⟩ = some (.int .u64 x.n) ∧
      w.cell? ⟨bk, o + i * 5 + 2, none⟩ = some (.slice x.aB x.nB x.cB) ∧ w.cell? ⟨bk, o + i * 5 + 3, none⟩ = some (.slice x.aL x.nL x.cL) ∧
      w.cell? ⟨bk, o + i * 5 + 4, none⟩ = some (.slice x.aF x.nF x.cF) ∧ In w l[i] x := InU.elemL h i hi
theorem In.elemF {w : World} {k : Int} {n : Nat} {b : List UInt8} {l : List V} {f : List (ByteArray × V)} {c : Cv} (h : In w (.mk k n b l f) c) (i : Nat) (hi : i < f.length) :
    ∃ bk o x, c.aF = some ⟨bk, o, none⟩ ∧ bk < w.heap.size ∧ w.cell? ⟨bk, o + i * 6, none⟩ = some (.string f[i].1) ∧ f[i].1.size ≤ 140737488355328 ∧
      w.cell? ⟨bk, o + i * 6 + 1, none⟩ = some (.int .i64 x.k) ∧ w.cell? ⟨bk, o + i * 6 + 1 + 1, none⟩ = some (.int .u64 x.n) ∧
      w.cell? ⟨bk, o + i * 6 + 1 + 2, none⟩ = some (.slice x.aB x.nB x.cB) ∧ w.cell? ⟨bk, o + i * 6 + 1 + 3, none⟩ = some (.slice x.aL x.nL x.cL) ∧
      w.cell? ⟨bk, o + i * 6 + 1 + 4, none⟩ = some (.slice x.aF x.nF x.cF) ∧ In w f[i].2 x := InU.elemF h i hi

/-- Block g holds the cells cs. -/
def Blk (w : World) (g : Nat) (t : TypeId) (cs : Array Value) : Prop := w.heap[g]? = some (.cells cs t (0, 0))
theorem Blk.lt {w : World} {g : Nat} {t : TypeId} {cs : Array Value} (h : Blk w g t cs) : g < w.heap.size := by
  rcases Nat.lt_or_ge g w.heap.size with hlt | hge
  · exact hlt
  · unfold Blk at h; rw [Array.getElem?_eq_none hge] at h; cases h
theorem Blk.below {w w' : World} {g : Nat} {t : TypeId} {cs : Array Value} {B : Nat} (h : Blk w g t cs) (hb : Below B w w') (hg : g < B) : Blk w' g t cs := (hb.block g hg).trans h
theorem Blk.grow {w w' : World} {g : Nat} {t : TypeId} {cs : Array Value} (h : Blk w g t cs) (hb : Grow w w') : Blk w' g t cs := (hb.below.block g h.lt).trans h
theorem Blk.new (w : World) (t : TypeId) (cs : Array Value) : Blk (w.alloc (.cells cs t)) w.heap.size t cs := heap_alloc_new w _
theorem Blk.new' {w : World} {g : Nat} (h : g = w.heap.size) (t : TypeId) (cs : Array Value) : Blk (w.alloc (.cells cs t)) g t cs := h ▸ Blk.new w t cs
theorem Blk.cell {w : World} {g : Nat} {t : TypeId} {cs : Array Value} (h : Blk w g t cs) (i : Nat) : w.cell? ⟨g, i, none⟩ = cs[i]? := cell_of_row w g i cs t (0, 0) h
theorem Blk.frozen {w : World} {g : Nat} {t : TypeId} {cs : Array Value} (h : Blk w g t cs) (i : Nat) : w.frozen? ⟨g, i, none⟩ = false := by
  unfold Blk at h
  simp [World.frozen?, h]
theorem Blk.set_ {w : World} {g : Nat} {t : TypeId} {cs : Array Value} (h : Blk w g t cs) (i : Nat) (u : Value) : Blk (w.setCell ⟨g, i, none⟩ u) g t (cs.setIfInBounds i u) := by
  unfold Blk at h ⊢
  simp [World.setCell, Array.getElem?_modify, h]
theorem Blk.far {w : World} {g : Nat} {t : TypeId} {cs : Array Value} (h : Blk w g t cs) {p : Addr} (hp : g ≠ p.block) (u : Value) : Blk (w.setCell p u) g t cs := (Below.heap_setCell w p u g hp).trans h
theorem Blk.drew {w : World} {g : Nat} {t : TypeId} {cs : Array Value} (h : Blk w g t cs) : Blk w.drew g t cs := h
theorem Blk.drewN {w : World} {g : Nat} {t : TypeId} {cs : Array Value} (h : Blk w g t cs) (n : Nat) : Blk (w.drewN n) g t cs := h
theorem Blk.alloc {w : World} {g : Nat} {t : TypeId} {cs : Array Value} (h : Blk w g t cs) (o : Obj) : Blk (w.alloc o) g t cs := h.grow ((Grow.refl w).alloc o)

end Go.Proofs.YtojpeiihkjpeoaaDoor
