/- Part 2 of the proof of pknown_card. -/
import Derived.Test.YtndjopkdbdcmdaaGreatDoorTk
import Derived.WalkKit
import Derived.WalkSpells
import Derived.WalkLawsBesides
import Derived.Deep.LoopGhost
import Derived.Deep.AppendLies
import Derived.Deep.Draws
import Derived.Deep.AppendSrc
import Derived.Maps.AppendAt
import Derived.Lib.AppendStr
import Derived.Laws.BitsAllLaws
import Derived.Laws.Bits64
import Derived.Lib.ValidU
import Derived.Test.YtndjopkdbdcmdaaGreatDoorRows
import Derived.Lib.ValidLaws
import Derived.Lib.TrimUEq
import Derived.Shelf.Strings.FuncGrows
import Derived.Maps.OwnSet
import Derived.Laws.IdiomStrings
import Derived.MapKept
import Derived.Lib.BufferRead
import Derived.Deep.QuietTactic
import Derived.BigQuiet
import Derived.Shelf.Unicode.WordAny
import Derived.Deep.DeepBigQuietO
import Derived.Laws.FloatArith
import Derived.KernelRfl
import Derived.Lib.BytesEntry
import Derived.Lib.Bytealg
set_option linter.unusedVariables false
set_option linter.unusedSimpArgs false
set_option maxRecDepth 100000
set_option maxHeartbeats 12800000
namespace Go.Proofs.YtndjopkdbdcmdaaGreatDoor
section
open Go.RowKit
theorem hide {p : Prop} (h : p) : Hid p := h
inductive V where
 | mk (k : Int) (n : Nat) (b : List UInt8) (l : List V) (f : List (ByteArray × V))
namespace V
def k : V → Int | mk k _ _ _ _ => k
def n : V → Nat | mk _ n _ _ _ => n
def b : V → List UInt8 | mk _ _ b _ _ => b
def l : V → List V | mk _ _ _ l _ => l
def f : V → List (ByteArray × V) | mk _ _ _ _ f => f
def zero : V := mk 0 0 [] [] []
theorem sizeOf_l {k : Int} {n : Nat} {b : List UInt8} {l : List V} {f : List (ByteArray × V)} {x : V} (h : x ∈ l) : SizeOf.sizeOf x < SizeOf.sizeOf (mk k n b l f) := by
 have := List.sizeOf_lt_of_mem h;simp only [mk.sizeOf_spec]; omega
theorem sizeOf_f {k : Int} {n : Nat} {b : List UInt8} {l : List V} {f : List (ByteArray × V)} {x : ByteArray × V} (h : x ∈ f) : SizeOf.sizeOf x.2 < SizeOf.sizeOf (mk k n b l f) := by
 have := List.sizeOf_lt_of_mem h;obtain ⟨s, y⟩ := x;simp only [mk.sizeOf_spec, Prod.mk.sizeOf_spec] at *; omega
theorem ind {p : V → Prop} (h : ∀ k n b l f, (∀ x ∈ l, p x) → (∀ x ∈ f, p x.2) → p (mk k n b l f)) (v : V) : p v := by
 match v with
 | mk k n b l f => exact h k n b l f (fun x _ => ind h x) (fun x _ => ind h x.2)
termination_by SizeOf.sizeOf v
decreasing_by
 ·exact sizeOf_l ‹_›
 exact sizeOf_f ‹_›
end V
structure Cv where
 k : Int
 n : Int
 aB : Option Addr
 nB : Nat
 cB : Nat
 aL : Option Addr
 nL : Nat
 cL : Nat
 aF : Option Addr
 nF : Nat
 cF : Nat
abbrev Cv.cells (c : Cv) : Array Value := #[.int .i64 c.k, .int .u64 c.n, .slice c.aB c.nB c.cB, .slice c.aL c.nL c.cL, .slice c.aF c.nF c.cF]
abbrev Cv.agg (c : Cv) : Value := .agg c.cells
abbrev Cv.zero : Cv := ⟨0, 0, none, 0, 0, none, 0, 0, none, 0, 0⟩
def Reads (C : Addr → Value → Prop) (size : Nat) (A : Option Addr) (n : Nat) (xs : List Value) : Prop :=
 xs.length = n * size ∧ (0 < n → ∃ bk o, A = some ⟨bk, o, none⟩ ∧ ∀ j u, xs[j]? = some u → C ⟨bk, o + j, none⟩ u)
def u8s (b : List UInt8) : List Value := b.map fun x => .int .u8 (x.toNat : Int)
def At5 (C : Addr → Value → Prop) (bk o : Nat) (c : Cv) : Prop :=
 C ⟨bk, o, none⟩ (.int .i64 c.k) ∧ C ⟨bk, o + 1, none⟩ (.int .u64 c.n) ∧ C ⟨bk, o + 2, none⟩ (.slice c.aB c.nB c.cB) ∧ C ⟨bk, o + 3, none⟩ (.slice c.aL c.nL c.cL) ∧ C ⟨bk, o + 4, none⟩ (.slice c.aF c.nF c.cF)
def IsV (C : Addr → Value → Prop) : V → Cv → Prop
 | .mk k n b l f, c => c.k = k ∧ c.n = (n : Int) ∧ c.nB = b.length ∧ c.nL = l.length ∧ c.nF = f.length ∧
  -9223372036854775808 ≤ k ∧ k ≤ 9223372036854775807 ∧ n < 18446744073709551616 ∧
  b.length ≤ c.cB ∧ b.length ≤ 140737488355328 ∧ l.length ≤ c.cL ∧ l.length ≤ 140737488355328 ∧ f.length ≤ c.cF ∧ f.length ≤ 140737488355328 ∧
  Reads C 1 c.aB b.length (u8s b) ∧
  (∀ i (h : i < l.length), ∃ bk o x, c.aL = some ⟨bk, o, none⟩ ∧ At5 C bk (o + i * 5) x ∧ IsV C l[i] x) ∧
  (∀ i (h : i < f.length), ∃ bk o x, c.aF = some ⟨bk, o, none⟩ ∧ C ⟨bk, o + i * 6, none⟩ (.string f[i].1) ∧ f[i].1.size ≤ 140737488355328 ∧ At5 C bk (o + i * 6 + 1) x ∧ IsV C f[i].2 x)
termination_by v => SizeOf.sizeOf v
decreasing_by
 ·exact V.sizeOf_l (List.getElem_mem _)
 exact V.sizeOf_f (List.getElem_mem _)
def AtW (w : World) (lo hi : Nat) (p : Addr) (u : Value) : Prop := w.cell? p = some u ∧ lo ≤ p.block ∧ p.block < hi
theorem Reads.mono {C C' : Addr → Value → Prop} (h : ∀ p u, C p u → C' p u) {size : Nat} {A : Option Addr} {n : Nat} {xs : List Value} (hr : Reads C size A n xs) : Reads C' size A n xs :=
 ⟨hr.1, fun hn => by obtain ⟨bk, o, e, hc⟩ := hr.2 hn; exact ⟨bk, o, e, fun j u hu => h _ _ (hc j u hu)⟩⟩
theorem At5.mono {C C' : Addr → Value → Prop} (h : ∀ p u, C p u → C' p u) {bk o : Nat} {c : Cv} (hc : At5 C bk o c) : At5 C' bk o c :=
 ⟨h _ _ hc.1, h _ _ hc.2.1, h _ _ hc.2.2.1, h _ _ hc.2.2.2.1, h _ _ hc.2.2.2.2⟩
theorem IsV.mono {C C' : Addr → Value → Prop} (h : ∀ p u, C p u → C' p u) (v : V) : ∀ c, IsV C v c → IsV C' v c := by
 induction v using V.ind with
 | h k n b l f hl hf =>
  intro c hv;rw [IsV] at hv ⊢;obtain ⟨e1, e2, e3, e4, e5, h1, h2, h3, h4, h5, h6, h7, h8, h9, hb, hL, hF⟩ := hv;refine ⟨e1, e2, e3, e4, e5, h1, h2, h3, h4, h5, h6, h7, h8, h9, hb.mono h, fun i hi => ?_, fun i hi => ?_⟩
  ·obtain ⟨bk, o, x, e, k0, kv⟩ := hL i hi;exact ⟨bk, o, x, e, k0.mono h, hl _ (List.getElem_mem _) _ kv⟩
  obtain ⟨bk, o, x, e, ks, kz, k0, kv⟩ := hF i hi;exact ⟨bk, o, x, e, h _ _ ks, kz, k0.mono h, hf _ (List.getElem_mem _) _ kv⟩
theorem AtW.below {w w' : World} {B lo hi lo' hi' : Nat} (hb : Below B w w') (h0 : lo' ≤ lo) (h1 : hi ≤ B) (h2 : hi ≤ hi') (p : Addr) (u : Value) (h : AtW w lo hi p u) : AtW w' lo' hi' p u :=
 ⟨(hb.cell (Nat.lt_of_lt_of_le h.2.2 h1)).trans h.1, Nat.le_trans h0 h.2.1, Nat.lt_of_lt_of_le h.2.2 h2⟩
def Grow (w w' : World) : Prop := Below w.heap.size w w'
theorem Grow.below {w w' : World} (h : Grow w w') : Below w.heap.size w w' := h
theorem Grow.refl (w : World) : Grow w w := Below.refl _ _
theorem Grow.size {w w' : World} (h : Grow w w') : w.heap.size ≤ w'.heap.size := Below.size h
theorem Grow.trans {a b c : World} (h : Grow a b) (k : Grow b c) : Grow a c := Below.trans h (Below.mono k h.size)
theorem Grow.alloc {a w : World} (h : Grow a w) (o : Obj) : Grow a (w.alloc o) := Below.alloc h h.size o
theorem Grow.drew {a w : World} (h : Grow a w) : Grow a w.drew := Below.drew h
theorem Grow.drewN {a w : World} (h : Grow a w) (n : Nat) : Grow a (w.drewN n) := ⟨h.os, h.tape, h.output, h.size, h.block⟩
theorem Grow.setCell {a w : World} (h : Grow a w) {p : Addr} (hp : a.heap.size ≤ p.block) (u : Value) : Grow a (w.setCell p u) := Below.setCell h hp u
theorem Grow.grown {a w w' : World} {row : Option Nat} (h : Grow a w) (hg : w.grownBy w' row) (hr : ∀ k, row = some k → a.heap.size ≤ k) : Grow a w' := Below.grown h hg h.size hr
def In (w : World) (v : V) (c : Cv) : Prop := IsV (AtW w 0 w.heap.size) v c
theorem In.grow {w w' : World} {v : V} {c : Cv} (h : In w v c) (hb : Grow w w') : In w' v c :=
 IsV.mono (AtW.below hb.below (Nat.le_refl _) (Nat.le_refl _) hb.size) v c h
def InB (w : World) (A : Option Addr) (b : List UInt8) : Prop := Reads (AtW w 0 w.heap.size) 1 A b.length (u8s b)
theorem InB.grow {w w' : World} {A : Option Addr} {b : List UInt8} (h : InB w A b) (hb : Grow w w') : InB w' A b :=
 Reads.mono (AtW.below hb.below (Nat.le_refl _) (Nat.le_refl _) hb.size) h
def InU (w : World) (hi : Nat) (v : V) (c : Cv) : Prop := IsV (AtW w 0 hi) v c
theorem InU.below {w w' : World} {B hi hi' : Nat} {v : V} {c : Cv} (h : InU w hi v c) (hb : Below B w w') (h1 : hi ≤ B) (h2 : hi ≤ hi') : InU w' hi' v c :=
 IsV.mono (AtW.below hb (Nat.le_refl _) h1 h2) v c h
theorem In.under {w : World} {v : V} {c : Cv} (h : In w v c) : InU w w.heap.size v c := h
theorem InU.in_ {w : World} {hi : Nat} {v : V} {c : Cv} (h : InU w hi v c) (hz : hi ≤ w.heap.size) : In w v c := IsV.mono (AtW.below (Below.refl hi w) (Nat.le_refl _) (Nat.le_refl _) hz) v c h
theorem InU.open {w : World} {hi : Nat} {k : Int} {n : Nat} {b : List UInt8} {l : List V} {f : List (ByteArray × V)} {c : Cv} (h : InU w hi (.mk k n b l f) c) :
 ∃ (aB aL aF : Option Addr) (cB cL cF : Nat), c = ⟨k, (n : Int), aB, b.length, cB, aL, l.length, cL, aF, f.length, cF⟩ ∧
  -9223372036854775808 ≤ k ∧ k ≤ 9223372036854775807 ∧ n < 18446744073709551616 ∧
  b.length ≤ cB ∧ b.length ≤ 140737488355328 ∧ l.length ≤ cL ∧ l.length ≤ 140737488355328 ∧ f.length ≤ cF ∧ f.length ≤ 140737488355328 ∧ Reads (AtW w 0 hi) 1 aB b.length (u8s b) := by
 unfold InU at h;rw [IsV] at h;obtain ⟨c1, c2, aB, c3, cB, aL, c4, cL, aF, c5, cF⟩ := c;obtain ⟨e1, e2, e3, e4, e5, h1, h2, h3, h4, h5, h6, h7, h8, h9, hb, hL, hF⟩ := h;dsimp only at *;subst e1 e2 e3 e4 e5;exact ⟨aB, aL, aF, cB, cL, cF, rfl, h1, h2, h3, h4, h5, h6, h7, h8, h9, hb⟩
theorem InU.elemL {w : World} {hi : Nat} {k : Int} {n : Nat} {b : List UInt8} {l : List V} {f : List (ByteArray × V)} {c : Cv} (h : InU w hi (.mk k n b l f) c) (i : Nat) (hil : i < l.length) :
 ∃ bk o x, c.aL = some ⟨bk, o, none⟩ ∧ bk < hi ∧ w.cell? ⟨bk, o + i * 5, none⟩ = some (.int .i64 x.k) ∧ w.cell? ⟨bk, o + i * 5 + 1, none⟩ = some (.int .u64 x.n) ∧
  w.cell? ⟨bk, o + i * 5 + 2, none⟩ = some (.slice x.aB x.nB x.cB) ∧ w.cell? ⟨bk, o + i * 5 + 3, none⟩ = some (.slice x.aL x.nL x.cL) ∧
  w.cell? ⟨bk, o + i * 5 + 4, none⟩ = some (.slice x.aF x.nF x.cF) ∧ InU w hi l[i] x := by
 unfold InU at h;rw [IsV] at h;obtain ⟨e1, e2, e3, e4, e5, h1, h2, h3, h4, h5, h6, h7, h8, h9, hb, hL, hF⟩ := h;obtain ⟨bk, o, x, e, ⟨k0, k1, k2, k3, k4⟩, kv⟩ := hL i hil;exact ⟨bk, o, x, e, k0.2.2, k0.1, k1.1, k2.1, k3.1, k4.1, kv⟩
theorem InU.elemF {w : World} {hi : Nat} {k : Int} {n : Nat} {b : List UInt8} {l : List V} {f : List (ByteArray × V)} {c : Cv} (h : InU w hi (.mk k n b l f) c) (i : Nat) (hif : i < f.length) :
 ∃ bk o x, c.aF = some ⟨bk, o, none⟩ ∧ bk < hi ∧ w.cell? ⟨bk, o + i * 6, none⟩ = some (.string f[i].1) ∧ f[i].1.size ≤ 140737488355328 ∧
  w.cell? ⟨bk, o + i * 6 + 1, none⟩ = some (.int .i64 x.k) ∧ w.cell? ⟨bk, o + i * 6 + 1 + 1, none⟩ = some (.int .u64 x.n) ∧
  w.cell? ⟨bk, o + i * 6 + 1 + 2, none⟩ = some (.slice x.aB x.nB x.cB) ∧ w.cell? ⟨bk, o + i * 6 + 1 + 3, none⟩ = some (.slice x.aL x.nL x.cL) ∧
  w.cell? ⟨bk, o + i * 6 + 1 + 4, none⟩ = some (.slice x.aF x.nF x.cF) ∧ InU w hi f[i].2 x := by
 unfold InU at h;rw [IsV] at h;obtain ⟨e1, e2, e3, e4, e5, h1, h2, h3, h4, h5, h6, h7, h8, h9, hb, hL, hF⟩ := h;obtain ⟨bk, o, x, e, ks, kz, ⟨k0, k1, k2, k3, k4⟩, kv⟩ := hF i hif;exact ⟨bk, o, x, e, ks.2.2, ks.1, kz, k0.1, k1.1, k2.1, k3.1, k4.1, kv⟩
theorem In.open {w : World} {k : Int} {n : Nat} {b : List UInt8} {l : List V} {f : List (ByteArray × V)} {c : Cv} (h : In w (.mk k n b l f) c) :
 ∃ (aB aL aF : Option Addr) (cB cL cF : Nat), c = ⟨k, (n : Int), aB, b.length, cB, aL, l.length, cL, aF, f.length, cF⟩ ∧
  -9223372036854775808 ≤ k ∧ k ≤ 9223372036854775807 ∧ n < 18446744073709551616 ∧
  b.length ≤ cB ∧ b.length ≤ 140737488355328 ∧ l.length ≤ cL ∧ l.length ≤ 140737488355328 ∧ f.length ≤ cF ∧ f.length ≤ 140737488355328 ∧ InB w aB b := InU.open h
theorem In.elemL {w : World} {k : Int} {n : Nat} {b : List UInt8} {l : List V} {f : List (ByteArray × V)} {c : Cv} (h : In w (.mk k n b l f) c) (i : Nat) (hi : i < l.length) :
 ∃ bk o x, c.aL = some ⟨bk, o, none⟩ ∧ bk < w.heap.size ∧ w.cell? ⟨bk, o + i * 5, none⟩ = some (.int .i64 x.k) ∧ w.cell? ⟨bk, o + i * 5 + 1, none⟩ = some (.int .u64 x.n) ∧
  w.cell? ⟨bk, o + i * 5 + 2, none⟩ = some (.slice x.aB x.nB x.cB) ∧ w.cell? ⟨bk, o + i * 5 + 3, none⟩ = some (.slice x.aL x.nL x.cL) ∧
  w.cell? ⟨bk, o + i * 5 + 4, none⟩ = some (.slice x.aF x.nF x.cF) ∧ In w l[i] x := InU.elemL h i hi
theorem In.elemF {w : World} {k : Int} {n : Nat} {b : List UInt8} {l : List V} {f : List (ByteArray × V)} {c : Cv} (h : In w (.mk k n b l f) c) (i : Nat) (hi : i < f.length) :
 ∃ bk o x, c.aF = some ⟨bk, o, none⟩ ∧ bk < w.heap.size ∧ w.cell? ⟨bk, o + i * 6, none⟩ = some (.string f[i].1) ∧ f[i].1.size ≤ 140737488355328 ∧
  w.cell? ⟨bk, o + i * 6 + 1, none⟩ = some (.int .i64 x.k) ∧ w.cell? ⟨bk, o + i * 6 + 1 + 1, none⟩ = some (.int .u64 x.n) ∧
  w.cell? ⟨bk, o + i * 6 + 1 + 2, none⟩ = some (.slice x.aB x.nB x.cB) ∧ w.cell? ⟨bk, o + i * 6 + 1 + 3, none⟩ = some (.slice x.aL x.nL x.cL) ∧
  w.cell? ⟨bk, o + i * 6 + 1 + 4, none⟩ = some (.slice x.aF x.nF x.cF) ∧ In w f[i].2 x := InU.elemF h i hi
def Blk (w : World) (g : Nat) (t : TypeId) (cs : Array Value) : Prop := w.heap[g]? = some (.cells cs t (0, 0))
theorem Blk.lt {w : World} {g : Nat} {t : TypeId} {cs : Array Value} (h : Blk w g t cs) : g < w.heap.size := by
 rcases Nat.lt_or_ge g w.heap.size with hlt | hge
 ·exact hlt
 unfold Blk at h; rw [Array.getElem?_eq_none hge] at h; cases h
theorem Blk.grow {w w' : World} {g : Nat} {t : TypeId} {cs : Array Value} (h : Blk w g t cs) (hb : Grow w w') : Blk w' g t cs := (hb.below.block g h.lt).trans h
theorem Blk.new (w : World) (t : TypeId) (cs : Array Value) : Blk (w.alloc (.cells cs t)) w.heap.size t cs := heap_alloc_new w _
theorem Blk.new' {w : World} {g : Nat} (h : g = w.heap.size) (t : TypeId) (cs : Array Value) : Blk (w.alloc (.cells cs t)) g t cs := h ▸ Blk.new w t cs
theorem Blk.cell {w : World} {g : Nat} {t : TypeId} {cs : Array Value} (h : Blk w g t cs) (i : Nat) : w.cell? ⟨g, i, none⟩ = cs[i]? := cell_of_row w g i cs t (0, 0) h
theorem Blk.frozen {w : World} {g : Nat} {t : TypeId} {cs : Array Value} (h : Blk w g t cs) (i : Nat) : w.frozen? ⟨g, i, none⟩ = false := by
 unfold Blk at h;simp [World.frozen?, h]
theorem Blk.set_ {w : World} {g : Nat} {t : TypeId} {cs : Array Value} (h : Blk w g t cs) (i : Nat) (u : Value) : Blk (w.setCell ⟨g, i, none⟩ u) g t (cs.setIfInBounds i u) := by
 unfold Blk at h ⊢;simp [World.setCell, Array.getElem?_modify, h]
theorem Blk.far {w : World} {g : Nat} {t : TypeId} {cs : Array Value} (h : Blk w g t cs) {p : Addr} (hp : g ≠ p.block) (u : Value) : Blk (w.setCell p u) g t cs := (Below.heap_setCell w p u g hp).trans h
theorem Blk.drew {w : World} {g : Nat} {t : TypeId} {cs : Array Value} (h : Blk w g t cs) : Blk w.drew g t cs := h
theorem Blk.drewN {w : World} {g : Nat} {t : TypeId} {cs : Array Value} (h : Blk w g t cs) (n : Nat) : Blk (w.drewN n) g t cs := h
theorem Blk.alloc {w : World} {g : Nat} {t : TypeId} {cs : Array Value} (h : Blk w g t cs) (o : Obj) : Blk (w.alloc o) g t cs := h.grow ((Grow.refl w).alloc o)
end
section
open Go.RowKit
theorem u8s_length (b : List UInt8) : (u8s b).length = b.length := by simp [u8s]
theorem u8s_append (a b : List UInt8) : u8s (a ++ b) = u8s a ++ u8s b := by simp [u8s]
theorem u8s_one (b : List UInt8) : ∀ u ∈ u8s b, u.oneCell' = true := by
 intro u hu; obtain ⟨x, _, rfl⟩ := List.mem_map.1 hu; rfl
theorem u8s_get (b : List UInt8) (j : Nat) (h : j < b.length) : (u8s b)[j]? = some (.int .u8 (b[j].toNat : Int)) := by simp [u8s, h]
theorem add_lit (b o j : Nat) : (⟨b, o, none⟩ : Addr).add j = ⟨b, o + j, none⟩ := by unfold Addr.add; split <;> simp_all
theorem take_set_succ {α : Type} (v : α) : ∀ (l : List α) (o : Nat), o < l.length → (l.set o v).take (o + 1) = l.take o ++ [v]
 | [], o, h => by simp at h
 | x :: l, 0, _ => by simp
 | x :: l, o + 1, h => by
  simp only [List.set_cons_succ, List.take_succ_cons, List.cons_append];rw [take_set_succ v l o (by simpa using h)]
theorem drop_set_lt {α : Type} (v : α) : ∀ (l : List α) (o k : Nat), o < k → (l.set o v).drop k = l.drop k
 | [], _, _, _ => by simp
 | x :: l, 0, k + 1, _ => by simp
 | x :: l, o + 1, k + 1, h => by
  simp only [List.set_cons_succ, List.drop_succ_cons];exact drop_set_lt v l o k (by omega)
theorem setCells_block (g : Nat) (e : TypeId) : ∀ (vs : List Value) (w : World) (o : Nat) (cur : Array Value), w.heap[g]? = some (.cells cur e (0, 0)) → o + vs.length ≤ cur.size →
 (w.setCells g o vs).heap[g]? = some (.cells (cur.toList.take o ++ vs ++ cur.toList.drop (o + vs.length)).toArray e (0, 0))
 | [], w, o, cur, hg, ho => by
  simp only [World.setCells, List.append_nil, List.length_nil, Nat.add_zero, List.take_append_drop, Array.toArray_toList]; exact hg
 | v :: r, w, o, cur, hg, ho => by
  simp only [World.setCells];have h1 : (w.setCell ⟨g, o, none⟩ v).heap[g]? = some (.cells (cur.setIfInBounds o v) e (0, 0)) := by
   simp [World.setCell, Array.getElem?_modify, hg]
  simp only [List.length_cons] at ho;rw [setCells_block g e r _ (o + 1) _ h1 (by simp; omega)];have hl : o < cur.toList.length := by simp; omega
  simp only [Array.toList_setIfInBounds, take_set_succ v _ _ hl, drop_set_lt v _ o (o + 1 + r.length) (by omega), List.append_assoc, List.cons_append, List.nil_append, List.length_cons];rw [show o + 1 + r.length = o + (r.length + 1) from by omega]
theorem setCells_grown (g : Nat) (R : Option Nat) (hR : R = some g) : ∀ (vs : List Value) (w : World) (o : Nat), w.grownBy (w.setCells g o vs) R
 | [], w, _ => World.grownBy.refl w _
 | v :: r, w, o => by
  subst hR;have h1 : w.grownBy (w.setCell ⟨g, o, none⟩ v) (some g) := ⟨rfl, rfl, rfl, by simp [World.setCell], fun k _ hk => Below.heap_setCell w ⟨g, o, none⟩ v k (fun e => hk (by rw [e]))⟩;exact World.grownBy.trans h1 (setCells_grown g _ rfl r _ (o + 1))
section
variable {P : Program} {w : World}
theorem Src.ofReads {size : Nat} {tx e' : TypeId} (hk : P.underlying tx = some (.slice e')) {lo hi : Nat} {A : Option Addr} {n c : Nat} {news : List Value} (h : Reads (AtW w lo hi) size A n news)
 (h1 : ∀ u ∈ news, u.oneCell' = true) : Src P size tx (.slice A n c) n news w := by
 rcases Nat.eq_zero_or_pos n with h0 | h0
 ·subst h0;have hn : news = [] := List.eq_nil_of_length_eq_zero (by simpa using h.1);subst hn;rcases A with _ | ad
  ·exact Src.ofNil w hk c
  exact Src.ofSlice w hk ad 0 c [] (by simp) (fun j u hu => by simp at hu) h1
 obtain ⟨bk, o, rfl, hc⟩ := h.2 h0;exact Src.ofSlice w hk ⟨bk, o, none⟩ n c news h.1 (fun j u hu => by rw [add_lit]; exact (hc j u hu).1) h1
theorem fits_wide {need old : Nat} (h : old < need) (hb : need ≤ 140737488400000) : Builtin.nextslicecap need old * 1 ≤ 281474976710656 := by
 rw [Nat.mul_one];unfold Builtin.nextslicecap;split
 ·omega
 split
 ·omega
 rw [growBy_four]
 repeat' split
 all_goals omega
theorem run_append_fit (base : Nat) (t tx ty e : TypeId) (i : TypeInfo) (z : Value) (size bytes : Nat) (ht : P.underlying t = some (.slice e)) (hi : P.info? e = some i) (hz : i.zero = some z)
 (hsize : i.size = size) (hby : i.bytes = bytes) (hzs : z.cells.size = size)
 (v : Value) (n : Nat) (xs : List Value) (hown : w.ownsRow base e size v n xs) (x : Value) (m : Nat) (news : List Value) (hs : Src P size tx x m news w)
 (hfit : ∀ old, old < n + m → Builtin.nextslicecap (n + m) old * bytes ≤ 281474976710656) (h63 : n + m ≤ maxLen) (hbase : base ≤ w.heap.size) :
 ∃ A c w', (Builtin.append_ #[t, tx] ty #[v, x]).run P w = .ok (.slice A (n + m) c) w' ∧ w'.ownsRow base e size (.slice A (n + m) c) (n + m) (xs ++ news) ∧ w.grownBy w' v.ownBlock ∧
  (Value.ownBlock (.slice A (n + m) c) = v.ownBlock ∨ Value.ownBlock (.slice A (n + m) c) = some w.heap.size) := by
 subst hsize;subst hby
 have hsmall : n + m ≤ 9223372036854775807 := by simp only [maxLen] at h63; omega
 have hlen : (xs ++ news).length = (n + m) * i.size := by rw [List.length_append, hown.1, hs.newsLen, Nat.add_mul]
 have grown : ∀ (old : Nat), old < n + m → ∀ (row : Option Nat),
  (w.drew.alloc (.cells ((xs ++ news).toArray ++ Builtin.zeroCells z.cells (grownCap w (n + m) old e - (n + m))) e)).ownsRow base e i.size
   (.slice (some ⟨w.heap.size, 0, none⟩) (n + m) (grownCap w (n + m) old e)) (n + m) (xs ++ news) ∧
  w.grownBy (w.drew.alloc (.cells ((xs ++ news).toArray ++ Builtin.zeroCells z.cells (grownCap w (n + m) old e - (n + m))) e)) row := by
  intro old ho row;have hge := grownCap_ge w (n + m) old e;have hcm : grownCap w (n + m) old e ≤ maxLen := grownCap_le_maxLen w (n + m) old e h63;refine ⟨⟨hlen, .inr ⟨w.heap.size, _, _, rfl, hbase, heap_alloc_new w.drew _, hge, hcm, ?_, ?_⟩⟩, ⟨rfl, rfl, rfl, by simp, fun k hk _ => Below.heap_alloc w.drew _ k hk⟩⟩
  ·simp only [Array.size_append, List.size_toArray, size_zeroCells, hzs, hlen, ← Nat.add_mul];congr 1;omega
  simp only [Array.toList_append, List.append_assoc];rw [← List.append_assoc, ← hlen];exact List.take_left
 rcases hown.2 with ⟨rfl, rfl⟩ | ⟨g, cap, cur, rfl, hbg, hg, hnc, hcm, hcs, htake⟩
 ·have hx : xs = [] := List.eq_nil_of_length_eq_zero (by simpa using hown.1);subst hx;by_cases hm : m = 0
  ·subst hm;have hn : news = [] := List.eq_nil_of_length_eq_zero (by simpa using hs.newsLen);subst hn;refine ⟨none, 0, w, ?_, World.ownsRow_nil w base e _, ⟨rfl, rfl, rfl, Nat.le_refl _, fun _ _ _ => rfl⟩, .inl rfl⟩;have hc := hs.cells;rcases hs.kind with ⟨e', hk⟩ | hk <;> simp [Builtin.append_, run_underlying ht, run_underlying hk, sizeOf, typeInfo, hi, hs.len, hc]
  have hr := run_append_grow_src (P := P) w t tx ty e i z ht hi hz none 0 0 [] (run_firstCells_none w.drew i.size 0 0 0) x m news hs (by omega) (by omega) (hfit _ (by omega));have hgr := grown 0 (by omega) (Value.ownBlock (.slice none 0 0));exact ⟨_, _, _, hr, hgr.1, hgr.2, .inr rfl⟩
 by_cases hroom : n + m ≤ cap
 ·have hcell : ∀ j, w.cell? ⟨g, j, none⟩ = cur[j]? := fun j => cell_of_row w g j cur e (0, 0) hg
  have hin : ∀ j, j < news.length → n * i.size + j < cur.size := fun j hj => by
   rw [hcs]; rw [hs.newsLen] at hj;have : (n + m) * i.size ≤ cap * i.size := Nat.mul_le_mul_right _ hroom;rw [Nat.add_mul] at this; omega
  have hr := run_append_room_src (P := P) w t tx ty e i ht hi g 0 n cap x m news hs hroom
   (fun j hj => by rw [hcell, Nat.zero_add]; simp [hin j hj]) (fun j hj => by simp [World.frozen?, hg])
  rw [Nat.zero_add] at hr;refine ⟨_, _, _, hr, ⟨hlen, .inr ⟨g, cap, (cur.toList.take (n * i.size) ++ news ++ cur.toList.drop (n * i.size + news.length)).toArray, rfl, hbg, setCells_block g e news w (n * i.size) cur hg ?_, hroom, hcm, ?_, ?_⟩⟩, ?_, .inl rfl⟩
  ·have : (n + m) * i.size ≤ cap * i.size := Nat.mul_le_mul_right _ hroom;rw [Nat.add_mul] at this; rw [hcs, hs.newsLen]; omega
  ·have : (n + m) * i.size ≤ cap * i.size := Nat.mul_le_mul_right _ hroom;rw [Nat.add_mul] at this;simp only [List.size_toArray, List.length_append, List.length_take, List.length_drop, Array.length_toList, hs.newsLen, hcs];omega
  ·rw [htake, ← hlen];exact List.take_left
  exact setCells_grown g _ rfl news w (n * i.size)
 have holds : ∀ j u, xs[j]? = some u → w.cell? ((⟨g, 0, none⟩ : Addr).add j) = some u := hown.cells (g := g) rfl;have hr := run_append_grow_src (P := P) w t tx ty e i z ht hi hz (some ⟨g, 0, none⟩) n cap xs (run_firstCells_some w.drew i.size n ⟨g, 0, none⟩ n cap xs hown.1 (by simpa using holds)) x m news hs (by omega) (by omega) (hfit _ (by omega));have hgr := grown cap (by omega) (Value.ownBlock (.slice (some ⟨g, 0, none⟩) n cap));exact ⟨_, _, _, hr, hgr.1, hgr.2, .inr rfl⟩
theorem wp_append_fit {o : Oper} {a : Act} {K : Act → World → Prop} {Q : Exit → Act → World → Prop} (s x : Operand) (t tx : TypeId)
 (ho : o.op = .call { callee := .builtin .append, args := #[s, x], argTypes := #[t, tx] })
 (base : Nat) (e : TypeId) (i : TypeInfo) (z : Value) (size bytes : Nat) (ht : P.underlying t = some (.slice e)) (hi : P.info? e = some i) (hz : i.zero = some z)
 (hsize : i.size = size) (hby : i.bytes = bytes) (hzs : z.cells.size = size)
 (v : Value) (n : Nat) (xs : List Value) (hv : a.eval s = v) (hown : w.ownsRow base e size v n xs) (u : Value) (m : Nat) (news : List Value) (hx : a.eval x = u) (hs : Src P size tx u m news w)
 (hfit : ∀ old, old < n + m → Builtin.nextslicecap (n + m) old * bytes ≤ 281474976710656) (h63 : n + m ≤ maxLen) (hbase : base ≤ w.heap.size)
 (h : ∀ A c w', w'.ownsRow base e size (.slice A (n + m) c) (n + m) (xs ++ news) → w.grownBy w' v.ownBlock →
  (Value.ownBlock (.slice A (n + m) c) = v.ownBlock ∨ Value.ownBlock (.slice A (n + m) c) = some w.heap.size) → K (a.put o.dst (.slice A (n + m) c)) w') : o.wp P a w K Q := by
 obtain ⟨A, c, w', hr, h2, h3, h4⟩ := run_append_fit (P := P) (w := w) base t tx o.type e i z size bytes ht hi hz hsize hby hzs v n xs hown u m news hs hfit h63 hbase;unfold Oper.wp execOp;simp only [ho, resolve, invoke, builtin, Sem.run_bind, Sem.run_pure, Result.andThen_ok, List.map_toArray, List.map_cons, List.map_nil, hv, hx, hr];exact h A c w' h2 h3 h4
theorem wpList_append_fit {ops : Array Oper} {rest : List Oper} {o : Oper} {a : Act} {Q : Exit → Act → World → Prop} (hgd : o.guard = none) (s x : Operand) (t tx : TypeId)
 (ho : o.op = .call { callee := .builtin .append, args := #[s, x], argTypes := #[t, tx] })
 (base : Nat) (e : TypeId) (i : TypeInfo) (z : Value) (size bytes : Nat) (ht : P.underlying t = some (.slice e)) (hi : P.info? e = some i) (hz : i.zero = some z)
 (hsize : i.size = size) (hby : i.bytes = bytes) (hzs : z.cells.size = size)
 (v : Value) (n : Nat) (xs : List Value) (hv : a.eval s = v) (hown : w.ownsRow base e size v n xs) (u : Value) (m : Nat) (news : List Value) (hx : a.eval x = u) (hs : Src P size tx u m news w)
 (hfit : ∀ old, old < n + m → Builtin.nextslicecap (n + m) old * bytes ≤ 281474976710656) (h63 : n + m ≤ maxLen) (hbase : base ≤ w.heap.size)
 (h : ∀ A c w', w'.ownsRow base e size (.slice A (n + m) c) (n + m) (xs ++ news) → w.grownBy w' v.ownBlock →
  (Value.ownBlock (.slice A (n + m) c) = v.ownBlock ∨ Value.ownBlock (.slice A (n + m) c) = some w.heap.size) → wpList P ops Q rest (a.put o.dst (.slice A (n + m) c)) w') : wpList P ops Q (o :: rest) a w :=
 wpList_plain hgd fun _ hK => wp_append_fit s x t tx ho base e i z size bytes ht hi hz hsize hby hzs v n xs hv hown u m news hx hs hfit h63 hbase fun A c w' h2 h3 h4 => hK _ _ (h A c w' h2 h3 h4)
theorem step_append_fit {ops : Array Oper} {o : Oper} {a : Act} {K : Act → World → Prop} {Q : Exit → Act → World → Prop} {E : Prop} (hgd : o.guard = none) (s x : Operand) (t tx : TypeId)
 (ho : o.op = .call { callee := .builtin .append, args := #[s, x], argTypes := #[t, tx] })
 (base : Nat) (e : TypeId) (i : TypeInfo) (z : Value) (size bytes : Nat) (ht : P.underlying t = some (.slice e)) (hi : P.info? e = some i) (hz : i.zero = some z)
 (hsize : i.size = size) (hby : i.bytes = bytes) (hzs : z.cells.size = size)
 (v : Value) (n : Nat) (xs : List Value) (hv : a.eval s = v) (hown : w.ownsRow base e size v n xs) (u : Value) (m : Nat) (news : List Value) (hx : a.eval x = u) (hs : Src P size tx u m news w)
 (hfit : ∀ old, old < n + m → Builtin.nextslicecap (n + m) old * bytes ≤ 281474976710656) (h63 : n + m ≤ maxLen) (hbase : base ≤ w.heap.size)
 (h : ∀ A c w', w'.ownsRow base e size (.slice A (n + m) c) (n + m) (xs ++ news) → w.grownBy w' v.ownBlock →
  (Value.ownBlock (.slice A (n + m) c) = v.ownBlock ∨ Value.ownBlock (.slice A (n + m) c) = some w.heap.size) → K (a.put o.dst (.slice A (n + m) c)) w') :
 if Region.wanted o (yielded ops a.tmps) = true then Oper.wp P o a w K Q else E := by
 have hw : Region.wanted o (yielded ops a.tmps) = true := by simp [Region.wanted, hgd]
 rw [if_pos hw];exact wp_append_fit s x t tx ho base e i z size bytes ht hi hz hsize hby hzs v n xs hv hown u m news hx hs hfit h63 hbase h
theorem wpList_append_src {ops : Array Oper} {rest : List Oper} {o : Oper} {a : Act} {Q : Exit → Act → World → Prop} (hgd : o.guard = none) (s x : Operand) (t tx : TypeId)
 (ho : o.op = .call { callee := .builtin .append, args := #[s, x], argTypes := #[t, tx] })
 (base : Nat) (e : TypeId) (i : TypeInfo) (z : Value) (size bytes : Nat) (ht : P.underlying t = some (.slice e)) (hi : P.info? e = some i) (hz : i.zero = some z)
 (hsize : i.size = size) (hby : i.bytes = bytes) (hzs : z.cells.size = size)
 (v : Value) (n : Nat) (xs : List Value) (hv : a.eval s = v) (hown : w.ownsRow base e size v n xs) (u : Value) (m : Nat) (news : List Value) (hx : a.eval x = u) (hs : Src P size tx u m news w)
 (hbytes : (n + m) * bytes ≤ 140737488355328) (h63 : n + m ≤ maxLen) (hbase : base ≤ w.heap.size)
 (h : ∀ A c w', w'.ownsRow base e size (.slice A (n + m) c) (n + m) (xs ++ news) → w.grownBy w' v.ownBlock →
  (Value.ownBlock (.slice A (n + m) c) = v.ownBlock ∨ Value.ownBlock (.slice A (n + m) c) = some w.heap.size) → wpList P ops Q rest (a.put o.dst (.slice A (n + m) c)) w') : wpList P ops Q (o :: rest) a w :=
 wpList_append_fit hgd s x t tx ho base e i z size bytes ht hi hz hsize hby hzs v n xs hv hown u m news hx hs (fun _ ho => growslice_fits ho hbytes) h63 hbase h
theorem step_append_src {ops : Array Oper} {o : Oper} {a : Act} {K : Act → World → Prop} {Q : Exit → Act → World → Prop} {E : Prop} (hgd : o.guard = none) (s x : Operand) (t tx : TypeId)
 (ho : o.op = .call { callee := .builtin .append, args := #[s, x], argTypes := #[t, tx] })
 (base : Nat) (e : TypeId) (i : TypeInfo) (z : Value) (size bytes : Nat) (ht : P.underlying t = some (.slice e)) (hi : P.info? e = some i) (hz : i.zero = some z)
 (hsize : i.size = size) (hby : i.bytes = bytes) (hzs : z.cells.size = size)
 (v : Value) (n : Nat) (xs : List Value) (hv : a.eval s = v) (hown : w.ownsRow base e size v n xs) (u : Value) (m : Nat) (news : List Value) (hx : a.eval x = u) (hs : Src P size tx u m news w)
 (hbytes : (n + m) * bytes ≤ 140737488355328) (h63 : n + m ≤ maxLen) (hbase : base ≤ w.heap.size)
 (h : ∀ A c w', w'.ownsRow base e size (.slice A (n + m) c) (n + m) (xs ++ news) → w.grownBy w' v.ownBlock →
  (Value.ownBlock (.slice A (n + m) c) = v.ownBlock ∨ Value.ownBlock (.slice A (n + m) c) = some w.heap.size) → K (a.put o.dst (.slice A (n + m) c)) w') :
 if Region.wanted o (yielded ops a.tmps) = true then Oper.wp P o a w K Q else E :=
 step_append_fit hgd s x t tx ho base e i z size bytes ht hi hz hsize hby hzs v n xs hv hown u m news hx hs (fun _ ho => growslice_fits ho hbytes) h63 hbase h
end
end
section
open Go.RowKit
def le : List UInt8 → Nat
 | [] => 0
 | x :: r => x.toNat + 256 * le r
def toLe (k n : Nat) : List UInt8 := (List.range k).map fun i => UInt8.ofNat (n / 256 ^ i)
theorem toLe_length (k n : Nat) : (toLe k n).length = k := by simp [toLe]
theorem toLe_succ (k n : Nat) : toLe (k + 1) n = toLe k n ++ [UInt8.ofNat (n / 256 ^ k)] := by simp [toLe, List.range_succ]
theorem take_snoc {α : Type} (l : List α) (k : Nat) (h : k < l.length) : l.take (k + 1) = l.take k ++ [l[k]] := List.take_succ_eq_append_getElem h
theorem pow256 (j : Nat) : (2 : Nat) ^ (8 * j) = 256 ^ j := by rw [Nat.pow_mul]
theorem byte_of (n j : Nat) : ((UInt8.ofNat (n / 256 ^ j)).toNat : Int) = ((n / 256 ^ j % 256 : Nat) : Int) := by rw [UInt8.toNat_ofNat']
theorem foldl_max_take {α : Type} (g : α → Nat) (l : List α) (m k : Nat) (h : k < l.length) : ((l.take (k + 1)).map g).foldl max m = max (((l.take k).map g).foldl max m) (g l[k]) := by
 rw [take_snoc l k h, List.map_append, List.foldl_append]; rfl
theorem foldl_max_le (l : List Nat) (m k : Nat) : l.foldl max m ≤ k ↔ m ≤ k ∧ ∀ x ∈ l, x ≤ k := by
 induction l generalizing m with
 | nil => simp
 | cons y l ih =>
  simp only [List.foldl_cons, ih, List.mem_cons, forall_eq_or_imp];constructor
  ·rintro ⟨h1, h2⟩; exact ⟨by omega, by omega, h2⟩
  rintro ⟨h1, h2, h3⟩; exact ⟨by omega, h3⟩
theorem flat_take {α : Type} (g : α → List UInt8) (l : List α) (j : Nat) (h : j < l.length) : ((l.take (j + 1)).map g).flatten = ((l.take j).map g).flatten ++ g l[j] := by
 rw [take_snoc l j h, List.map_append, List.flatten_append]; simp only [List.map_cons, List.map_nil, List.flatten_cons, List.flatten_nil, List.append_nil]
theorem flat_le {α : Type} (g : α → List UInt8) (l : List α) (j : Nat) : ((l.take j).map g).flatten.length ≤ (l.map g).flatten.length := by
 have : l.map g = (l.take j).map g ++ (l.drop j).map g := by rw [← List.map_append, List.take_append_drop]
 rw [this, List.flatten_append, List.length_append]; omega
theorem flat_mem {α : Type} (g : α → List UInt8) (l : List α) (x : α) (h : x ∈ l) : (g x).length ≤ (l.map g).flatten.length := by
 obtain ⟨a, b, rfl⟩ := List.append_of_mem h;simp; omega
theorem attach_all {α : Type} (l : List α) (p : α → Bool) : (l.attach.all fun x => p x.1) = l.all p := by rw [Bool.eq_iff_iff]; simp
namespace V
def count : V → Nat
 | mk _ _ _ l f => 1 + (l.attach.map fun x => count x.1).sum + (f.attach.map fun x => count x.1.2).sum
termination_by v => SizeOf.sizeOf v
decreasing_by
 ·exact sizeOf_l x.2
 exact sizeOf_f x.2
theorem count_mk (k : Int) (n : Nat) (b : List UInt8) (l : List V) (f : List (ByteArray × V)) : (mk k n b l f).count = 1 + (l.map count).sum + (f.map fun x => x.2.count).sum := by
 rw [count]; simp only [List.map_attach_eq_pmap, List.pmap_eq_map]
def most : V → Nat
 | mk _ _ _ l f => (f.attach.map fun x => most x.1.2).foldl max ((l.attach.map fun x => most x.1).foldl max (max l.length f.length))
termination_by v => SizeOf.sizeOf v
decreasing_by
 ·exact sizeOf_l x.2
 exact sizeOf_f x.2
theorem most_mk (k : Int) (n : Nat) (b : List UInt8) (l : List V) (f : List (ByteArray × V)) : (mk k n b l f).most = (f.map fun x => x.2.most).foldl max ((l.map most).foldl max (max l.length f.length)) := by
 rw [most]; simp only [List.map_attach_eq_pmap, List.pmap_eq_map]
def depth : V → Nat
 | mk k _ _ l f => (if k = 7 ∨ k = 8 then 1 else 0) + (f.attach.map fun x => depth x.1.2).foldl max ((l.attach.map fun x => depth x.1).foldl max 0)
termination_by v => SizeOf.sizeOf v
decreasing_by
 ·exact sizeOf_l x.2
 exact sizeOf_f x.2
theorem depth_mk (k : Int) (n : Nat) (b : List UInt8) (l : List V) (f : List (ByteArray × V)) : (mk k n b l f).depth = (if k = 7 ∨ k = 8 then 1 else 0) + (f.map fun x => x.2.depth).foldl max ((l.map depth).foldl max 0) := by
 rw [depth]; simp only [List.map_attach_eq_pmap, List.pmap_eq_map]
def item (s : ByteArray) (r : List UInt8) : List UInt8 := UInt8.ofNat s.size :: (s.data.toList ++ r)
def bytes : V → List UInt8
 | mk k n b l f => UInt8.ofNat k.toNat ::
  (if k = 2 then [UInt8.ofNat n] else if k = 3 ∨ k = 4 then toLe 8 n else if k = 5 ∨ k = 6 then toLe 2 b.length ++ b
   else if k = 7 then UInt8.ofNat l.length :: (l.attach.map fun x => bytes x.1).flatten
   else if k = 8 then UInt8.ofNat f.length :: (f.attach.map fun x => item x.1.1 (bytes x.1.2)).flatten else [])
termination_by v => SizeOf.sizeOf v
decreasing_by
 ·exact sizeOf_l x.2
 exact sizeOf_f x.2
theorem bytes_mk (k : Int) (n : Nat) (b : List UInt8) (l : List V) (f : List (ByteArray × V)) : (mk k n b l f).bytes = UInt8.ofNat k.toNat ::
 (if k = 2 then [UInt8.ofNat n] else if k = 3 ∨ k = 4 then toLe 8 n else if k = 5 ∨ k = 6 then toLe 2 b.length ++ b
  else if k = 7 then UInt8.ofNat l.length :: (l.map bytes).flatten
  else if k = 8 then UInt8.ofNat f.length :: (f.map fun x => item x.1 x.2.bytes).flatten else []) := by
 rw [bytes]; simp only [List.map_attach_eq_pmap, List.pmap_eq_map]
def name (s : ByteArray) : Bool := decide (1 ≤ s.size ∧ s.size ≤ 32) && s.data.toList.all (fun c => decide (32 ≤ c.toNat ∧ c.toNat ≠ 46)) && Lib.validD s.data.toList
def own (k : Int) (n : Nat) (b : List UInt8) (nl nf : Nat) : Bool :=
 decide (1 ≤ k ∧ k ≤ 8) && decide (k = 2 ∨ k = 3 ∨ k = 4 ∨ n = 0) && decide (k = 2 → n ≤ 1) && decide (k = 5 ∨ k = 6 ∨ b.length = 0) && (decide (k ≠ 5) || Lib.validD b) && decide (k = 7 ∨ nl = 0) && decide (k = 8 ∨ nf = 0)
def formed : V → Bool
 | mk k n b l f => own k n b l.length f.length && (l.attach.all fun x => formed x.1) && (f.attach.all fun x => name x.1.1 && formed x.1.2) && decide ((f.map Prod.fst).Nodup)
termination_by v => SizeOf.sizeOf v
decreasing_by
 ·exact sizeOf_l x.2
 exact sizeOf_f x.2
theorem formed_mk (k : Int) (n : Nat) (b : List UInt8) (l : List V) (f : List (ByteArray × V)) : (mk k n b l f).formed = (own k n b l.length f.length && (l.all formed) && (f.all fun x => name x.1 && x.2.formed) && decide ((f.map Prod.fst).Nodup)) := by
 rw [formed, attach_all l formed, attach_all f (fun x => name x.1 && x.2.formed)]
theorem depth_l {k : Int} {n : Nat} {b : List UInt8} {l : List V} {f : List (ByteArray × V)} {x : V} (h : x ∈ l) : x.depth ≤ (mk k n b l f).depth := by
 rw [depth_mk];have h1 := (foldl_max_le (f.map fun x => x.2.depth) ((l.map depth).foldl max 0) _).1 (Nat.le_refl _);have h2 := (foldl_max_le (l.map depth) 0 _).1 (Nat.le_refl _);have := h2.2 _ (List.mem_map_of_mem h);omega
theorem depth_f {k : Int} {n : Nat} {b : List UInt8} {l : List V} {f : List (ByteArray × V)} {x : ByteArray × V} (h : x ∈ f) : x.2.depth ≤ (mk k n b l f).depth := by
 rw [depth_mk];have h1 := (foldl_max_le (f.map fun x => x.2.depth) ((l.map depth).foldl max 0) _).1 (Nat.le_refl _);have := h1.2 _ (List.mem_map_of_mem (f := fun x : ByteArray × V => x.2.depth) h);omega
theorem depth_list (l : List V) : (mk 7 0 [] l []).depth = 1 + (l.map depth).foldl max 0 := by rw [depth_mk]; simp
theorem depth_doc (f : List (ByteArray × V)) : (mk 8 0 [] [] f).depth = 1 + (f.map fun x => x.2.depth).foldl max 0 := by rw [depth_mk]; simp
theorem bytes_list (l : List V) : (mk 7 0 [] l []).bytes = 7 :: UInt8.ofNat l.length :: (l.map bytes).flatten := by rw [bytes_mk]; simp
theorem bytes_doc (f : List (ByteArray × V)) : (mk 8 0 [] [] f).bytes = 8 :: UInt8.ofNat f.length :: (f.map fun x => item x.1 x.2.bytes).flatten := by rw [bytes_mk]; simp
theorem item_length (s : ByteArray) (r : List UInt8) : (item s r).length = 1 + s.size + r.length := by
 simp only [item, List.length_cons, List.length_append, Array.length_toList];have : s.data.size = s.size := rfl;omega
def good (v : V) : Int := if v.formed = false then 4 else if 64 < v.most then 19 else if 16 < v.depth then 3 else if 4096 < v.bytes.length then 2 else 0
theorem formed_cases {v : V} (h : v.formed = true) : v = mk 1 0 [] [] [] ∨ (∃ n, n ≤ 1 ∧ v = mk 2 n [] [] []) ∨ (∃ n, v = mk 3 n [] [] []) ∨ (∃ n, v = mk 4 n [] [] []) ∨
 (∃ b, Lib.validD b = true ∧ v = mk 5 0 b [] []) ∨ (∃ b, v = mk 6 0 b [] []) ∨ (∃ l, (∀ x ∈ l, formed x = true) ∧ v = mk 7 0 [] l []) ∨
 (∃ f : List (ByteArray × V), (∀ x ∈ f, name x.1 = true ∧ x.2.formed = true) ∧ (f.map Prod.fst).Nodup ∧ v = mk 8 0 [] [] f) := by
 obtain ⟨k, n, b, l, f⟩ := v;rw [formed_mk] at h;simp only [own, Bool.and_eq_true, Bool.or_eq_true, decide_eq_true_eq, List.all_eq_true] at h;obtain ⟨⟨⟨⟨⟨⟨⟨⟨⟨h1, h2⟩, h3⟩, h4⟩, h5⟩, h6⟩, h7⟩, hl⟩, hf⟩, hn⟩ := h;have hL : k ≠ 7 → l = [] := fun hk => List.eq_nil_of_length_eq_zero (by omega)
 have hF : k ≠ 8 → f = [] := fun hk => List.eq_nil_of_length_eq_zero (by omega)
 have hB : k ≠ 5 → k ≠ 6 → b = [] := fun h1 h2 => List.eq_nil_of_length_eq_zero (by omega)
 have hN : k ≠ 2 → k ≠ 3 → k ≠ 4 → n = 0 := fun h1 h2 h3 => by omega
 have hk : k = 1 ∨ k = 2 ∨ k = 3 ∨ k = 4 ∨ k = 5 ∨ k = 6 ∨ k = 7 ∨ k = 8 := by omega
 rcases hk with rfl | rfl | rfl | rfl | rfl | rfl | rfl | rfl
 ·rw [hL (by decide), hF (by decide), hB (by decide) (by decide), hN (by decide) (by decide) (by decide)]; exact .inl rfl
 ·rw [hL (by decide), hF (by decide), hB (by decide) (by decide)]; exact .inr (.inl ⟨n, h3 rfl, rfl⟩)
 ·rw [hL (by decide), hF (by decide), hB (by decide) (by decide)]; exact .inr (.inr (.inl ⟨n, rfl⟩))
 ·rw [hL (by decide), hF (by decide), hB (by decide) (by decide)]; exact .inr (.inr (.inr (.inl ⟨n, rfl⟩)))
 ·rw [hL (by decide), hF (by decide), hN (by decide) (by decide) (by decide)]; exact .inr (.inr (.inr (.inr (.inl ⟨b, h5.resolve_left (by decide), rfl⟩))))
 ·rw [hL (by decide), hF (by decide), hN (by decide) (by decide) (by decide)]; exact .inr (.inr (.inr (.inr (.inr (.inl ⟨b, rfl⟩)))))
 ·rw [hF (by decide), hB (by decide) (by decide), hN (by decide) (by decide) (by decide)]; exact .inr (.inr (.inr (.inr (.inr (.inr (.inl ⟨l, hl, rfl⟩))))))
 rw [hL (by decide), hB (by decide) (by decide), hN (by decide) (by decide) (by decide)]; exact .inr (.inr (.inr (.inr (.inr (.inr (.inr ⟨f, hf, hn, rfl⟩))))))
end V
end
section
open Go.RowKit
theorem info_u8 : (Tryz.prog.info? 5).map (fun i => (i.zero, i.size, i.bytes)) = some (some (.int .u8 0), 1, 1) := by kernel_rfl
theorem under_u8s : Tryz.prog.underlying 23 = some (.slice 5) := by kernel_rfl
theorem under_string : Tryz.prog.underlying 9 = some .string := by kernel_rfl
theorem ret_int {k : IntKind} {a b : Int} (h : a = b) : Ending.returned (.int k a) = .returned (.int k b) := by rw [h]
theorem InB.at_ {w : World} {A : Option Addr} {b : List UInt8} (h : InB w A b) (j : Nat) (hj : j < b.length) : ∃ bk o, A = some ⟨bk, o, none⟩ ∧ bk < w.heap.size ∧ w.cell? ⟨bk, o + j, none⟩ = some (.int .u8 (b[j].toNat : Int)) := by
 obtain ⟨bk, o, e, hc⟩ := h.2 (by omega);have := hc j _ (u8s_get b j hj);exact ⟨bk, o, e, this.2.2, this.1⟩
def Lies (w : World) (v v' : Value) : Prop := v'.ownBlock = v.ownBlock ∨ ∃ g, v'.ownBlock = some g ∧ w.heap.size ≤ g
def Row (w : World) (base : Nat) (v : Value) (m : Nat) (xs : List UInt8) : Prop := w.ownsRow base 5 1 v m (u8s xs)
structure Grew (w : World) (v : Value) (w' : World) (v' : Value) : Prop where
 grow : w.grownBy w' v.ownBlock
 lies : Lies w v v'
theorem Row.alloc {w : World} {base m : Nat} {v : Value} {xs : List UInt8} (h : Row w base v m xs) (o : Obj) : Row (w.alloc o) base v m xs := World.ownsRow.alloc h o
theorem Row.grow {w w' : World} {base m : Nat} {v : Value} {xs : List UInt8} (h : Row w base v m xs) (hg : Grow w w') : Row w' base v m xs :=
 World.ownsRow.kept h (row := none) ⟨hg.os, hg.tape, hg.output, hg.size, fun k hk _ => hg.below.block k hk⟩ (by cases v.ownBlock <;> simp)
theorem Grew.below {w w' : World} {base m : Nat} {v v' : Value} {xs : List UInt8} (h : Grew w v w' v') (hr : Row w base v m xs) (hb : base ≤ w.heap.size) : Below base w w' :=
 (Below.refl base w).grown h.grow hb (fun k hk => (World.ownsRow.lt hr k hk).1)
theorem Row.made {w : World} (cur : Array Value) (cap : Nat) (hm : cap ≤ maxLen) (hs : cur.size = cap) : Row (w.alloc (.cells cur 5)) w.heap.size (.slice (some ⟨w.heap.size, 0, none⟩) 0 cap) 0 [] :=
 World.ownsRow_made w cur cap (Nat.le_refl _) hm (by omega)
theorem Row.reads {w : World} {base m : Nat} {A : Option Addr} {c : Nat} {xs : List UInt8} (h : Row w base (.slice A m c) m xs) : InB w A xs ∧ xs.length = m := by
 have hl : xs.length = m := by simpa [u8s] using h.1
 refine ⟨⟨by rw [u8s_length, Nat.mul_one], fun hn => ?_⟩, hl⟩;obtain ⟨g, cap, hv, _, hlt⟩ := World.ownsRow.form h (by omega);have hA : A = some ⟨g, 0, none⟩ := by injection hv
 subst hA;refine ⟨g, 0, rfl, fun j u hu => ⟨?_, Nat.zero_le _, hlt⟩⟩;rw [← add_lit];exact World.ownsRow.cells h (g := g) rfl j u hu
section
variable {w : World} {ops : Array Oper} {rest : List Oper} {o : Oper} {a : Act} {Q : Exit → Act → World → Prop}
theorem app_src (hgd : o.guard = none) (s x : Operand) (tx : TypeId)
 (ho : o.op = .call { callee := .builtin .append, args := #[s, x], argTypes := #[23, tx] })
 {base m : Nat} {A : Option Addr} {c : Nat} {xs ys : List UInt8} (hv : a.eval s = .slice A m c) (hrow : Row w base (.slice A m c) m xs) (u : Value) (hx : a.eval x = u) (hs : Src Tryz.prog 1 tx u ys.length (u8s ys) w)
 (hbytes : m + ys.length ≤ 140737488400000) (hbase : base ≤ w.heap.size)
 (h : ∀ A' c' w', Row w' base (.slice A' (m + ys.length) c') (m + ys.length) (xs ++ ys) → Grew w (.slice A m c) w' (.slice A' (m + ys.length) c') → wpList Tryz.prog ops Q rest (a.put o.dst (.slice A' (m + ys.length) c')) w') : wpList Tryz.prog ops Q (o :: rest) a w := by
 obtain ⟨i0, hi0, hz0, hz1, hz2⟩ := info_parts info_u8;refine wpList_append_fit hgd s x _ tx ho base 5 i0 _ 1 1 under_u8s hi0 hz0 hz1 hz2 rfl _ m _ hv hrow u ys.length _ hx hs (fun _ ho => fits_wide ho hbytes) (by simp only [maxLen]; omega) hbase (fun A' c' w' h2 h3 h4 => h A' c' w' ?_ ⟨h3, ?_⟩)
 ·unfold Row; rw [u8s_append]; exact h2
 rcases h4 with h4 | h4
 ·exact .inl h4
 exact .inr ⟨_, h4, Nat.le_refl _⟩
theorem step_app_src {K : Act → World → Prop} {E : Prop} (hgd : o.guard = none) (s x : Operand) (tx : TypeId)
 (ho : o.op = .call { callee := .builtin .append, args := #[s, x], argTypes := #[23, tx] })
 {base m : Nat} {A : Option Addr} {c : Nat} {xs ys : List UInt8} (hv : a.eval s = .slice A m c) (hrow : Row w base (.slice A m c) m xs) (u : Value) (hx : a.eval x = u) (hs : Src Tryz.prog 1 tx u ys.length (u8s ys) w)
 (hbytes : m + ys.length ≤ 140737488400000) (hbase : base ≤ w.heap.size)
 (h : ∀ A' c' w', Row w' base (.slice A' (m + ys.length) c') (m + ys.length) (xs ++ ys) → Grew w (.slice A m c) w' (.slice A' (m + ys.length) c') → K (a.put o.dst (.slice A' (m + ys.length) c')) w') :
 if Region.wanted o (yielded ops a.tmps) = true then Oper.wp Tryz.prog o a w K Q else E := by
 obtain ⟨i0, hi0, hz0, hz1, hz2⟩ := info_parts info_u8;refine step_append_fit hgd s x _ tx ho base 5 i0 _ 1 1 under_u8s hi0 hz0 hz1 hz2 rfl _ m _ hv hrow u ys.length _ hx hs (fun _ ho => fits_wide ho hbytes) (by simp only [maxLen]; omega) hbase (fun A' c' w' h2 h3 h4 => h A' c' w' ?_ ⟨h3, ?_⟩)
 ·unfold Row; rw [u8s_append]; exact h2
 rcases h4 with h4 | h4
 ·exact .inl h4
 exact .inr ⟨_, h4, Nat.le_refl _⟩
end
end
section
open Go.RowKit
abbrev thrown (e : Int) : List PanicEntry := [{ v := .iface 29 (.int .i64 e), recovered := false }]
theorem u8s_take (b : List UInt8) (n : Nat) : u8s (b.take n) = (u8s b).take n := by simp [u8s]
theorem u8s_drop (b : List UInt8) (n : Nat) : u8s (b.drop n) = (u8s b).drop n := by simp [u8s]
theorem Reads.take_ {C : Addr → Value → Prop} {A : Option Addr} {n : Nat} {xs : List Value} (h : Reads C 1 A n xs) (k : Nat) (hk : k ≤ n) : Reads C 1 A k (xs.take k) := by
 refine ⟨by rw [List.length_take, h.1, Nat.mul_one, Nat.mul_one]; omega, fun hn => ?_⟩;obtain ⟨bk, o, e, hc⟩ := h.2 (by omega);refine ⟨bk, o, e, fun j u hu => hc j u ?_⟩;rw [List.getElem?_take] at hu;split at hu
 ·exact hu
 cases hu
end
section
open Go.RowKit
def ixF : List UInt8 → Nat → Int
 | [], n => n
 | c :: r, n => if c.toNat < 48 ∨ 57 < c.toNat then -1 else ixF r (10 * n + (c.toNat - 48))
def ixN (s : List UInt8) : Int := if s = [] ∨ 4 < s.length ∨ (1 < s.length ∧ s.head? = some 48) then -1 else ixF s 0
theorem ixF_at (s : List UInt8) (j : Nat) (h : j < s.length) (n : Nat) : ixF (s.drop j) n = if s[j].toNat < 48 ∨ 57 < s[j].toNat then -1 else ixF (s.drop (j + 1)) (10 * n + (s[j].toNat - 48)) := by
 rw [List.drop_eq_getElem_cons h, ixF]
theorem bytes_get (s : ByteArray) (j : Nat) (h : j < s.size) : s[j] = s.data.toList[j]'(by simpa using h) := by
 show s.data[j] = _;simp
theorem toList_data (s : ByteArray) : s.toList = s.data.toList := by
 exact ByteArray.toList_eq s
theorem vindex_any (s : ByteArray) (w : World) : Calls Tryz.prog 91 #[.string s] w fun e w' => e = .returned (.int .i64 (ixN s.data.toList)) ∧ w = w' := by
 obtain ⟨z, hz⟩ : ∃ z, ixN s.data.toList = z := ⟨_, rfl⟩;rw [hz];have hlen : s.data.toList.length = s.size := by simp
 by_cases h0 : s.size = 0
 ·have he : s.data.toList = [] := List.length_eq_zero_iff.1 (by omega);have hz' : z = -1 := by rw [← hz, he]; rfl
  have hse : s = ⟨#[]⟩ := by apply ByteArray.ext; apply Array.ext'; exact he
  subst hse;subst hz';clear h0 hz he hlen;go_enter Tryz.func91, Tryz.ntmps91;go_wp2_with fail;go_ret;exact ⟨rfl, rfl⟩
 have hne : s.data.toList ≠ [] := fun h => h0 (by rw [← hlen, h]; rfl)
 have hl1 : ¬ s.toList = [] := by
  intro h;have := toList_data s;rw [h] at this;exact hne this.symm
 have hl2 : s.toList.isEmpty = false := by simpa using hl1
 have hpos : 0 < s.size := by omega
 by_cases h4 : 4 < s.size
 ·have hz' : z = -1 := by rw [← hz]; unfold ixN; rw [if_pos (.inr (.inl (by omega)))]
  subst hz';clear h0 hz hne hlen;go_enter Tryz.func91, Tryz.ntmps91;go_wp2_with fail;go_ret;exact ⟨rfl, rfl⟩
 obtain ⟨x, hx⟩ : ∃ x, s[0]'hpos = x := ⟨_, rfl⟩;have hx0 : s.data.toList.head? = some x := by
  rw [← hx, bytes_get s 0 hpos, List.head?_eq_getElem?, List.getElem?_eq_getElem]
 have hxl := x.toNat_lt;by_cases h1 : 1 < s.size ∧ x.toNat = 48
 ·have hz' : z = -1 := by
   rw [← hz]; unfold ixN;rw [if_pos (.inr (.inr ⟨by omega, by rw [hx0]; congr 1; apply UInt8.toNat_inj.1; exact h1.2⟩))]
  subst hz';obtain ⟨h1, h2⟩ := h1;have h2b : ((x.toNat : Int) == 48) = true := by simp; omega
  clear h0 hz hne hlen hx0 h2;go_enter Tryz.func91, Tryz.ntmps91;go_wp2_with fail;go_ret;exact ⟨rfl, rfl⟩
 have hz' : ixF s.data.toList 0 = z := by
  rw [← hz]; unfold ixN;rw [if_neg];rintro (h | h | ⟨h, h'⟩)
  ·exact hne h
  ·omega
  exact h1 ⟨by omega, by rw [hx0] at h'; injection h' with h'; rw [h']; rfl⟩
 have HZ := hide hz';have hs1 : ¬ 1 < s.size ∨ (1 < s.size ∧ ((x.toNat : Int) == 48) = false) := by
  rcases Nat.lt_or_ge 1 s.size with h | h
  ·right; exact ⟨h, by simp; omega⟩
  left; omega
 clear hz hz' hne hlen hx0 h1 h0;have hs4 : s.size ≤ 4 := by omega
 have hsj : ∀ (n : Nat) (j : Nat), j < s.size → n < 10 ^ j → n ≤ 999 := fun n j h1 h2 => by
  have : 10 ^ j ≤ 10 ^ 3 := Nat.pow_le_pow_right (by omega) (by omega);omega
 have HSJ := hide hsj;clear hsj;rcases hs1 with hs1 | ⟨hs1, hs2⟩
 all_goals
  go_enter Tryz.func91, Tryz.ntmps91
  go_wp2_with fail
  go_loopg [3, 24] (s.size + 1) (fun gk a i wr => w = wr ∧ ∃ (j n : Nat), j ≤ s.size ∧ gk + j = s.size + 1 ∧ i = .int .i64 j ∧ a = .int .i64 (n : Int) ∧ n < 10 ^ j ∧ ixF (s.data.toList.drop j) n = z)
  case atStart => exact ⟨rfl, 0, 0, by omega, by omega, rfl, rfl, by simp, HZ.out⟩
  case round =>
   obtain ⟨rfl, j, n, hj, hgk, rfl, rfl, hn, hf⟩ := hrel
   have HF := hide hf
   have HN := hide hn
   clear hf
   by_cases hlt : j < s.size
   ·obtain ⟨gk', rfl⟩ := gk_ gk (by omega)
    have hn9 := HSJ.out n j hlt hn
    clear hn
    have hstep := ixF_at s.data.toList j (by simpa using hlt) n
    rw [HF.out, ← bytes_get s j hlt] at hstep
    obtain ⟨y, hy⟩ : ∃ y, s[j] = y := ⟨_, rfl⟩
    rw [hy] at hstep
    have HST := hide hstep
    have hyl := y.toNat_lt
    clear hstep
    by_cases c1 : y.toNat < 48
    ·have HE := hide (show z = -1 by rw [HST.out, if_pos (.inl c1)])
     go_wp2_with fail
     go_ret
     exact ⟨ret_int HE.out.symm, rfl⟩
    by_cases c2 : 57 < y.toNat
    ·have HE := hide (show z = -1 by rw [HST.out, if_pos (.inr c2)])
     go_wp2_with fail
     go_ret
     exact ⟨ret_int HE.out.symm, rfl⟩
    have HE := hide (show z = ixF (s.data.toList.drop (j + 1)) (10 * n + (y.toNat - 48)) by rw [HST.out, if_neg (by omega)])
    go_wp2_with fail
    go_roundg gk'
    case measure => omega
    case rel => exact ⟨rfl, j + 1, 10 * n + (y.toNat - 48), by omega, by omega, by go_num, by go_num, by have := HN.out; rw [Nat.pow_succ]; omega, HE.out.symm⟩
   obtain rfl : j = s.size := by omega
   have HE := hide (show z = (n : Int) by rw [← HF.out, List.drop_of_length_le (by simp)]; rfl)
   clear hn
   go_wp2_with fail
   go_ret
   exact ⟨ret_int HE.out.symm, rfl⟩
end
section
open Go.Lib
def nameByte (c : UInt8) : Bool := decide (32 ≤ c.toNat ∧ c.toNat ≠ 46)
def badRune (x : Nat) : Bool := decide (x < 32 ∨ x = 46)
theorem dec_class (n b0 b1 b2 b3 : Nat) (_hl : 0 < n) (_h0 : b0 < 256) (h1 : b1 < 256) (h2 : b2 < 256) (h3 : b3 < 256) :
 (b0 < 128 ∧ decodeN n b0 b1 b2 b3 = (b0, 1)) ∨ decodeN n b0 b1 b2 b3 = (65533, 1) ∨
 (∃ r, decodeN n b0 b1 b2 b3 = (r, 2) ∧ 128 ≤ r ∧ 2 ≤ n ∧ 128 ≤ b0 ∧ 128 ≤ b1) ∨
 (∃ r, decodeN n b0 b1 b2 b3 = (r, 3) ∧ 128 ≤ r ∧ 3 ≤ n ∧ 128 ≤ b0 ∧ 128 ≤ b1 ∧ 128 ≤ b2) ∨
 (∃ r, decodeN n b0 b1 b2 b3 = (r, 4) ∧ 128 ≤ r ∧ 4 ≤ n ∧ 128 ≤ b0 ∧ 128 ≤ b1 ∧ 128 ≤ b2 ∧ 128 ≤ b3) := by
 unfold decodeN;split
 ·rename_i h; exact .inl ⟨h, rfl⟩
 split
 ·split
  ·rename_i h _ hr; exact .inr (.inr (.inl ⟨_, rfl, by omega⟩))
  exact .inr (.inl rfl)
 split
 ·split
  ·rename_i h _ hr; exact .inr (.inr (.inr (.inl ⟨_, rfl, by omega⟩)))
  exact .inr (.inl rfl)
 split
 ·split
  ·rename_i h _ hr; exact .inr (.inr (.inr (.inr ⟨_, rfl, by omega⟩)))
  exact .inr (.inl rfl)
 exact .inr (.inl rfl)
theorem nameByte_big (c : UInt8) (h : 128 ≤ c.toNat) : nameByte c = true := decide_eq_true (by omega)
theorem all_big (l : List UInt8) (k : Nat) (hk : k ≤ l.length) (h : ∀ i, i < k → 128 ≤ (l.getD i 0).toNat) : (l.take k).all nameByte = true := by
 rw [List.all_eq_true];intro x hx;obtain ⟨i, hi, rfl⟩ := List.mem_iff_getElem.1 hx;have hik : i < k := by rw [List.length_take] at hi; omega
 have := h i hik;rw [List.getD_eq_getElem?_getD, List.getElem?_eq_getElem (by omega)] at this;rw [List.getElem_take];exact nameByte_big _ this
theorem name_idx (s : ByteArray) : ∀ (f pos : Nat), validD (s.data.toList.drop pos) = true → s.size ≤ pos + f →
 decide (0 ≤ idxFuncFrom badRune true s f pos) = !((s.data.toList.drop pos).all nameByte) := by
 intro f
 induction f with
 | zero =>
  intro pos _ hp;have : s.data.toList.drop pos = [] := List.drop_eq_nil_of_le (by have : s.data.toList.length = s.size := rfl; omega);rw [this]; rfl
 | succ f ih =>
  intro pos hv hp;by_cases hlt : pos < s.size
  ·have hsz : s.data.toList.length = s.size := rfl;obtain ⟨l, hl⟩ : ∃ l, s.data.toList.drop pos = l := ⟨_, rfl⟩;have hll : l.length = s.size - pos := by rw [← hl, List.length_drop, hsz]
   have hne : l ≠ [] := fun h => by rw [h] at hll; simp at hll; omega
   have hd : Utf8.decode s pos = decodeL l := by rw [← hl, decodeL_drop]
   have hdrop : ∀ k, s.data.toList.drop (pos + k) = l.drop k := fun k => by rw [← hl, List.drop_drop]
   have hsplit : ∀ k, l.all nameByte = ((l.take k).all nameByte && (l.drop k).all nameByte) := fun k => by rw [← List.all_append, List.take_append_drop]
   have hstep := validD_step l hne;rw [hl] at hv;rw [hv] at hstep;unfold idxFuncFrom;rw [if_pos hlt, hd, hl];rw [decodeL_N] at hstep ⊢;have big : ∀ (r k : Nat), 0 < k → decodeN l.length (l.getD 0 0).toNat (l.getD 1 0).toNat (l.getD 2 0).toNat (l.getD 3 0).toNat = (r, k) → 128 ≤ r → k ≤ l.length → (∀ i, i < k → 128 ≤ (l.getD i 0).toNat) → (k = 1 → False) →
    decide (0 ≤ if badRune (r, k).1 = true then (pos : Int) else idxFuncFrom badRune true s f (pos + (r, k).2)) = !(l.all nameByte) := by
    intro r k hk0 he hr hk hb hk1;rw [he, if_neg (fun h => hk1 h.2)] at hstep;rw [if_neg (by simp [badRune]; omega), hsplit k, all_big l k hk hb, Bool.true_and, ← hdrop];exact ih (pos + k) (by rw [hdrop]; exact hstep.symm) (by omega)
   rcases dec_class l.length _ _ _ _ (by omega) (l.getD 0 0).toNat_lt (l.getD 1 0).toNat_lt (l.getD 2 0).toNat_lt (l.getD 3 0).toNat_lt with ⟨h0, e⟩ | e | ⟨r, e, hr, hn, h⟩ | ⟨r, e, hr, hn, h⟩ | ⟨r, e, hr, hn, h⟩
   ·rw [e, if_neg (fun h => by have h1 : (l.getD 0 0).toNat = 65533 := h.1; omega)] at hstep;rw [e]
    match l, hne with
    | c :: t, _ =>
     simp only [List.getD_cons_zero] at h0 ⊢;by_cases hc : c.toNat < 32 ∨ c.toNat = 46
     ·rw [if_pos (by simp [badRune]; omega)];have : nameByte c = false := decide_eq_false (by omega);rw [List.all_cons, this];simp
     rw [if_neg (by simp [badRune]; omega)];have : nameByte c = true := decide_eq_true (by omega);rw [List.all_cons, this, Bool.true_and];have hd1 := hdrop 1;have := ih (pos + 1) (by rw [hd1]; exact hstep.symm) (by omega);rw [hd1] at this;exact this
   ·rw [e] at hstep;simp at hstep
   ·rw [e]; exact big r 2 (by omega) e hr hn (fun i hi => by match i, hi with | 0, _ => exact h.1 | 1, _ => exact h.2) (by omega)
   ·rw [e]; exact big r 3 (by omega) e hr hn (fun i hi => by match i, hi with | 0, _ => exact h.1 | 1, _ => exact h.2.1 | 2, _ => exact h.2.2) (by omega)
   rw [e]; exact big r 4 (by omega) e hr hn (fun i hi => by match i, hi with | 0, _ => exact h.1 | 1, _ => exact h.2.1 | 2, _ => exact h.2.2.1 | 3, _ => exact h.2.2.2) (by omega)
  rw [idxFuncFrom_end _ _ _ _ _ hlt];have : s.data.toList.drop pos = [] := List.drop_eq_nil_of_le (by have : s.data.toList.length = s.size := rfl; omega);rw [this]; rfl
theorem name_of (s : ByteArray) (hv : validD s.data.toList = true) : (!decide (0 ≤ idxFunc badRune true s)) = s.data.toList.all nameByte := by
 have := name_idx s s.size 0 hv (by omega);rw [List.drop_zero] at this;rw [idxFunc, this, Bool.not_not]
end
section
open Go.RowKit Go.Maps
def nlit (s : ByteArray) : Lit := .string s.data.toList
def NS (l : List ByteArray) : DataW Unit := setOf (.agg []) (l.map nlit)
theorem NS_nil : NS [] = .map [] := rfl
theorem NS_snoc (l : List ByteArray) (s : ByteArray) : NS (l ++ [s]) = (NS l).put (nlit s) (.agg []) := by
 unfold NS;rw [List.map_append, List.map_singleton, setOf_snoc]
theorem nlit_key (l : List ByteArray) : ∀ x ∈ l.map nlit, WideAt.IsKeyLit x := fun x hx => by
 obtain ⟨s, _, rfl⟩ := List.mem_map.1 hx;trivial
theorem nlit_inj {a b : ByteArray} (h : nlit a = nlit b) : a = b := by
 injection h with h;exact ByteArray.ext (Array.ext' h)
theorem has_NS (l : List ByteArray) (s : ByteArray) : Maps.has (NS l) (nlit s) = true ↔ s ∈ l := by
 unfold NS;rw [has_setOf _ _ _ (nlit_key l), List.any_map, List.any_eq_true];constructor
 ·rintro ⟨x, hx, h⟩;by_cases e : nlit x = nlit s
  ·rw [← nlit_inj e]; exact hx
  rw [Function.comp, sameKey_ne e] at h;exact absurd h Bool.false_ne_true
 intro h;exact ⟨s, h, show (nlit s).sameKey (nlit s) = true from WideAt.sameKey_self (a := nlit s) (nlit_key [s] (nlit s) (by simp))⟩
theorem size_NS_old (l : List ByteArray) (s : ByteArray) (h : s ∈ l) : Maps.size (NS (l ++ [s])) = Maps.size (NS l) := by
 rw [NS_snoc, size_put (D := NS l) (tidy_setOf _ _ (nlit_key l)), if_pos ((has_NS l s).2 h)]
theorem size_NS_new (l : List ByteArray) (s : ByteArray) (h : ¬ s ∈ l) : Maps.size (NS (l ++ [s])) = Maps.size (NS l) + 1 := by
 rw [NS_snoc, size_put (D := NS l) (tidy_setOf _ _ (nlit_key l)), if_neg (fun e => h ((has_NS l s).1 e))]
theorem size_NS (l : List ByteArray) : ∀ j, j ≤ l.length → Maps.size (NS (l.take j)) ≤ j ∧ (Maps.size (NS (l.take j)) = j ↔ (l.take j).Nodup) := by
 intro j
 induction j with
 | zero => intro _; exact ⟨Nat.le_of_eq rfl, by simp [NS_nil]; rfl⟩
 | succ j ih =>
  intro h;obtain ⟨h1, h2⟩ := ih (by omega);rw [take_snoc l j (by omega)];by_cases hm : l[j] ∈ l.take j
  ·rw [size_NS_old _ _ hm];refine ⟨by omega, ⟨fun e => by omega, fun hn => ?_⟩⟩;rw [List.nodup_append] at hn;exact absurd rfl (hn.2.2 _ hm _ (by simp))
  rw [size_NS_new _ _ hm];refine ⟨by omega, ⟨fun e => ?_, fun hn => ?_⟩⟩
  ·rw [List.nodup_append];refine ⟨h2.1 (by omega), by simp, fun a ha b hb => ?_⟩;rw [List.mem_singleton] at hb;subst hb;intro e;subst e;exact hm ha
  rw [List.nodup_append] at hn;have := h2.2 hn.1;omega
theorem size_NS_all (l : List ByteArray) : (((Maps.size (NS l) : Nat) : Int) == (l.length : Int)) = decide l.Nodup := by
 have := (size_NS l l.length (Nat.le_refl _)).2;rw [List.take_length] at this;apply Bool.eq_iff_iff.2;rw [decide_eq_true_eq, beq_iff_eq, ← this];omega
end
section
open Go.RowKit
def CF (w : World) (p : Addr) (u : Value) : Prop := w.cell? p = some u ∧ w.frozen? p = false
theorem CF.block {w w' : World} {p : Addr} {u : Value} (h : CF w p u) (e : w'.heap[p.block]? = w.heap[p.block]?) : CF w' p u :=
 ⟨(World.cell?_of_block e).trans h.1, (World.frozen?_of_block e).trans h.2⟩
def IsS (C : Addr → Value → Prop) : V → Cv → (Nat → Prop) → Prop
 | .mk k n b l f, c, S => c.k = k ∧ c.n = (n : Int) ∧ c.nB = b.length ∧ c.nL = l.length ∧ c.nF = f.length ∧
  -9223372036854775808 ≤ k ∧ k ≤ 9223372036854775807 ∧ n < 18446744073709551616 ∧
  b.length ≤ c.cB ∧ b.length ≤ 140737488355328 ∧ l.length ≤ c.cL ∧ l.length ≤ 140737488355328 ∧ f.length ≤ c.cF ∧ f.length ≤ 140737488355328 ∧
  Reads (fun p u => C p u ∧ S p.block) 1 c.aB b.length (u8s b) ∧
  (∃ T : Nat → Nat → Prop, (∀ i (h : i < l.length), ∃ bk o x, c.aL = some ⟨bk, o, none⟩ ∧ S bk ∧ ¬ T i bk ∧ (∀ q, T i q → S q) ∧ At5 C bk (o + i * 5) x ∧ IsS C l[i] x (T i)) ∧
   (∀ i j, i < j → j < l.length → ∀ q, T i q → ¬ T j q)) ∧
  (∃ T : Nat → Nat → Prop, (∀ i (h : i < f.length), ∃ bk o x, c.aF = some ⟨bk, o, none⟩ ∧ S bk ∧ ¬ T i bk ∧ (∀ q, T i q → S q) ∧ C ⟨bk, o + i * 6, none⟩ (.string f[i].1) ∧ f[i].1.size ≤ 140737488355328 ∧ At5 C bk (o + i * 6 + 1) x ∧ IsS C f[i].2 x (T i)) ∧
   (∀ i j, i < j → j < f.length → ∀ q, T i q → ¬ T j q))
termination_by v => SizeOf.sizeOf v
decreasing_by
 ·exact V.sizeOf_l (List.getElem_mem _)
 exact V.sizeOf_f (List.getElem_mem _)
theorem At5.mono' {C C' : Addr → Value → Prop} {bk o : Nat} {c : Cv} (h : ∀ p u, C p u → p.block = bk → C' p u) (hc : At5 C bk o c) : At5 C' bk o c :=
 ⟨h _ _ hc.1 rfl, h _ _ hc.2.1 rfl, h _ _ hc.2.2.1 rfl, h _ _ hc.2.2.2.1 rfl, h _ _ hc.2.2.2.2 rfl⟩
theorem IsS.mono {C C' : Addr → Value → Prop} (v : V) : ∀ (c : Cv) (S S' : Nat → Prop), (∀ p u, C p u → S p.block → C' p u) → (∀ q, S q → S' q) → IsS C v c S → IsS C' v c S' := by
 induction v using V.ind with
 | h k n b l f hl hf =>
  intro c S S' hC hS hv;rw [IsS] at hv ⊢;obtain ⟨e1, e2, e3, e4, e5, h1, h2, h3, h4, h5, h6, h7, h8, h9, hb, ⟨T, hL, hLd⟩, ⟨U, hF, hFd⟩⟩ := hv;refine ⟨e1, e2, e3, e4, e5, h1, h2, h3, h4, h5, h6, h7, h8, h9, hb.mono (fun p u h => ⟨hC p u h.1 h.2, hS _ h.2⟩), ⟨T, fun i hi => ?_, hLd⟩, ⟨U, fun i hi => ?_, hFd⟩⟩
  ·obtain ⟨bk, o, x, e, s, nt, ts, k0, kv⟩ := hL i hi;exact ⟨bk, o, x, e, hS _ s, nt, fun q hq => hS _ (ts q hq), k0.mono' (fun p u h e => hC p u h (e ▸ s)), hl _ (List.getElem_mem hi) _ _ _ (fun p u h hq => hC p u h (ts _ hq)) (fun q h => h) kv⟩
  obtain ⟨bk, o, x, e, s, nt, ts, ks, kz, k0, kv⟩ := hF i hi;exact ⟨bk, o, x, e, hS _ s, nt, fun q hq => hS _ (ts q hq), hC _ _ ks s, kz, k0.mono' (fun p u h e => hC p u h (e ▸ s)), hf _ (List.getElem_mem hi) _ _ _ (fun p u h hq => hC p u h (ts _ hq)) (fun q h => h) kv⟩
theorem IsS.isV {C : Addr → Value → Prop} (v : V) : ∀ (c : Cv) (S : Nat → Prop), IsS C v c S → IsV (fun p u => C p u ∧ S p.block) v c := by
 induction v using V.ind with
 | h k n b l f hl hf =>
  intro c S hv;rw [IsS] at hv;rw [IsV];obtain ⟨e1, e2, e3, e4, e5, h1, h2, h3, h4, h5, h6, h7, h8, h9, hb, ⟨T, hL, hLd⟩, ⟨U, hF, hFd⟩⟩ := hv;refine ⟨e1, e2, e3, e4, e5, h1, h2, h3, h4, h5, h6, h7, h8, h9, hb, fun i hi => ?_, fun i hi => ?_⟩
  ·obtain ⟨bk, o, x, e, s, nt, ts, k0, kv⟩ := hL i hi;exact ⟨bk, o, x, e, k0.mono' (fun p u h e => ⟨h, e ▸ s⟩), IsV.mono (fun p u h => ⟨h.1, ts _ h.2⟩) _ _ (hl _ (List.getElem_mem hi) _ _ kv)⟩
  obtain ⟨bk, o, x, e, s, nt, ts, ks, kz, k0, kv⟩ := hF i hi;exact ⟨bk, o, x, e, ⟨ks, s⟩, kz, k0.mono' (fun p u h e => ⟨h, e ▸ s⟩), IsV.mono (fun p u h => ⟨h.1, ts _ h.2⟩) _ _ (hf _ (List.getElem_mem hi) _ _ kv)⟩
def InS (w : World) (lo hi : Nat) (v : V) (c : Cv) : Prop := hi ≤ w.heap.size ∧ IsS (CF w) v c (fun q => lo ≤ q ∧ q < hi)
theorem InS.atW {w : World} {lo hi : Nat} {v : V} {c : Cv} (h : InS w lo hi v c) : IsV (AtW w lo hi) v c :=
 IsV.mono (fun _ _ h => ⟨h.1.1, h.2.1, h.2.2⟩) _ _ (h.2.isV v c _)
theorem InS.blocks {w w' : World} {lo hi : Nat} {v : V} {c : Cv} (h : InS w lo hi v c) (hz : w.heap.size ≤ w'.heap.size) (hb : ∀ k, lo ≤ k → k < hi → w'.heap[k]? = w.heap[k]?) : InS w' lo hi v c :=
 ⟨Nat.le_trans h.1 hz, IsS.mono v c _ _ (fun _ _ q s => q.block (hb _ s.1 s.2)) (fun _ q => q) h.2⟩
theorem InS.grow {w w' : World} {lo hi : Nat} {v : V} {c : Cv} (h : InS w lo hi v c) (hg : Grow w w') : InS w' lo hi v c :=
 h.blocks hg.size (fun k _ hk => hg.below.block k (Nat.lt_of_lt_of_le hk h.1))
end
section
open V
abbrev Got := Except Int (V × List UInt8)
def rdN : List UInt8 → Option (ByteArray × List UInt8)
 | [] => none
 | m :: r => if m.toNat ≤ r.length then some (⟨(r.take m.toNat).toArray⟩, r.drop m.toNat) else none
open Classical in
noncomputable def rdF (f : List UInt8 → Got) : Nat → List ByteArray → List UInt8 → Except Int (List (ByteArray × V) × List UInt8)
 | 0, _, bs => .ok ([], bs)
 | n + 1, met, bs => match rdN bs with
  | none => .error 4
  | some (s, r) => if name s = true ∧ ¬ s ∈ met then
   match f r with
   | .error e => .error e
   | .ok (x, r') => match rdF f n (met ++ [s]) r' with
    | .error e => .error e
    | .ok (l, r'') => .ok ((s, x) :: l, r'')
   else .error 4
end
section
open V
theorem name_size {s : ByteArray} (h : name s = true) : s.size ≤ 32 := by
 simp only [name, Bool.and_eq_true, decide_eq_true_eq] at h;exact h.1.1.2
def V.fit : V → Prop
 | mk _ n _ l f => n < 18446744073709551616 ∧ (∀ x ∈ l, fit x) ∧ (∀ x ∈ f, fit x.2)
termination_by v => SizeOf.sizeOf v
decreasing_by
 ·exact sizeOf_l ‹_›
 exact sizeOf_f ‹_›
theorem IsV.fit {C : Addr → Value → Prop} (v : V) : ∀ c, IsV C v c → v.fit := by
 induction v using V.ind with
 | h k n b l f hl hf =>
  intro c hv;rw [IsV] at hv;rw [V.fit];obtain ⟨e1, e2, e3, e4, e5, h1, h2, h3, h4, h5, h6, h7, h8, h9, hb, hL, hF⟩ := hv;refine ⟨h3, fun x hx => ?_, fun x hx => ?_⟩
  ·obtain ⟨i, hi, rfl⟩ := List.mem_iff_getElem.1 hx;obtain ⟨bk, o, y, e, k0, kv⟩ := hL i hi;exact hl _ hx _ kv
  obtain ⟨i, hi, rfl⟩ := List.mem_iff_getElem.1 hx;obtain ⟨bk, o, y, e, ks, kz, k0, kv⟩ := hF i hi;exact hf _ hx _ kv
theorem ofNat_toNat8 (n : Nat) (h : n < 256) : (UInt8.ofNat n).toNat = n := by rw [UInt8.toNat_ofNat']; omega
theorem good_iff {v : V} : v.good = 0 ↔ v.formed = true ∧ v.most ≤ 64 ∧ v.depth ≤ 16 ∧ v.bytes.length ≤ 4096 := by
 unfold V.good
 cases hf : v.formed
 ·simp
 simp only [Bool.true_eq_false, if_false, true_and];by_cases h1 : 64 < v.most
 ·rw [if_pos h1]; constructor
  ·intro h; omega
  intro h; omega
 rw [if_neg h1];by_cases h2 : 16 < v.depth
 ·rw [if_pos h2]; constructor
  ·intro h; omega
  intro h; omega
 rw [if_neg h2];by_cases h3 : 4096 < v.bytes.length
 ·rw [if_pos h3]; constructor
  ·intro h; omega
  intro h; omega
 rw [if_neg h3]; constructor
 ·intro _; omega
 intro _; rfl
end
section
open V
theorem sum_le_flat {α : Type} (g : α → List UInt8) (f : α → Nat) (l : List α) (h : ∀ x ∈ l, f x ≤ (g x).length) : (l.map f).sum ≤ ((l.map g).flatten).length := by
 induction l with
 | nil => simp
 | cons x xs ih =>
  have h1 := h x (by simp);have h2 := ih fun y hy => h y (by simp [hy])
  simp only [List.map_cons, List.sum_cons, List.flatten_cons, List.length_append];omega
theorem count_le (v : V) : v.formed = true → v.count ≤ v.bytes.length := by
 induction v using V.ind with
 | h k n b l f hl hf =>
  intro hfm;rcases formed_cases hfm with h | ⟨n', hn', h⟩ | ⟨n', h⟩ | ⟨n', h⟩ | ⟨b', hb', h⟩ | ⟨b', h⟩ | ⟨l', hl', h⟩ | ⟨f', hf', hnd, h⟩ <;> cases h
  ·rw [count_mk, bytes_mk]; simp
  ·rw [count_mk, bytes_mk]; simp
  ·rw [count_mk, bytes_mk]; simp
  ·rw [count_mk, bytes_mk]; simp
  ·rw [count_mk, bytes_mk]; simp
  ·rw [count_mk, bytes_mk]; simp
  ·have h1 := sum_le_flat V.bytes V.count l fun x hx => hl x hx (hl' x hx)
   rw [count_mk, bytes_list];simp only [List.map_nil, List.sum_nil, List.length_cons];omega
  have h1 := sum_le_flat (fun x : ByteArray × V => item x.1 x.2.bytes) (fun x => x.2.count) f fun x hx => by
   have := hf x hx (hf' x hx).2;rw [item_length];omega
  rw [count_mk, bytes_doc];simp only [List.map_nil, List.sum_nil, List.length_cons];omega
end
section
open Go.RowKit
theorem under_u8 : Tryz.prog.underlying 5 = some (.int .u8) := by kernel_rfl
theorem conv_str {w : World} {A : Option Addr} {b : List UInt8} {lo hi : Nat} (c : Nat) (h : Reads (AtW w lo hi) 1 A b.length (u8s b)) :
 (convert 23 9 (.slice A b.length c)).run Tryz.prog w = .ok (.string ⟨b.toArray⟩) w := by
 rcases Nat.eq_zero_or_pos b.length with h0 | h0
 ·have : b = [] := List.eq_nil_of_length_eq_zero h0;subst this;rcases A with _ | ad
  ·exact Lib.run_convert_nil_bytes w _ _ _ c under_u8s under_u8 under_string
  exact run_convert_bytes_back w _ _ _ ad c [] under_u8s under_u8 under_string (fun j hj => absurd hj (by simp))
 obtain ⟨bk, o, rfl, hc⟩ := h.2 h0;refine run_convert_bytes_back w _ _ _ _ c b under_u8s under_u8 under_string (fun j hj => ?_);rw [add_lit];exact (hc j _ (u8s_get b j hj)).1
open Classical in
noncomputable def sameB (a b : V) : Bool := decide (a = b)
theorem sameB_self (a : V) : sameB a a = true := by simp [sameB]
theorem sameB_ne {a b : V} (h : a ≠ b) : sameB a b = false := by simp [sameB, h]
theorem sameB_iff {a b : V} : sameB a b = true ↔ a = b := by simp [sameB]
theorem str_beq (a b : ByteArray) : (a.toList == b.toList) = true ↔ a = b := by rw [← beq_toListBytes]; exact MapKept.bytes_beq a b
theorem ret_bool {a b : Bool} (h : a = b) : Ending.returned (.bool a) = .returned (.bool b) := by rw [h]
theorem lists_eq {α : Type} {l l' : List α} (hl : l.length = l'.length) (h : ∀ i (h1 : i < l.length) (h2 : i < l'.length), l[i] = l'[i]) : l = l' := List.ext_getElem hl h
theorem same_head (k k' : Int) (n n' : Nat) (b b' : List UInt8) (l l' : List V) (f f' : List (ByteArray × V)) (c c' : Cv) (w : World) (hv : In w (.mk k n b l f) c) (hv' : In w (.mk k' n' b' l' f') c')
 (hne : k ≠ k' ∨ n ≠ n' ∨ b ≠ b' ∨ l.length ≠ l'.length ∨ f.length ≠ f'.length) :
 Calls Tryz.prog 26 #[c.agg, c'.agg] w fun e w' => e = .returned (.bool false) ∧ Grow w w' := by
 obtain ⟨aB, aL, aF, cB, cL, cF, rfl, h1, h2, h3, h4, h5, h6, h7, h8, h9, hb⟩ := hv.open;obtain ⟨aB', aL', aF', cB', cL', cF', rfl, h1', h2', h3', h4', h5', h6', h7', h8', h9', hb'⟩ := hv'.open;have hc1 : ∀ o1 o2 : Obj, (convert 23 9 (.slice aB b.length cB)).run Tryz.prog ((w.alloc o1).alloc o2) = .ok (.string ⟨b.toArray⟩) ((w.alloc o1).alloc o2) := fun o1 o2 => conv_str _ (hb.grow (((Grow.refl w).alloc o1).alloc o2))
 have hc2 : ∀ o1 o2 : Obj, (convert 23 9 (.slice aB' b'.length cB')).run Tryz.prog ((w.alloc o1).alloc o2) = .ok (.string ⟨b'.toArray⟩) ((w.alloc o1).alloc o2) := fun o1 o2 => conv_str _ (hb'.grow (((Grow.refl w).alloc o1).alloc o2))
 clear hv hv' hb hb' h1 h2 h3 h4 h5 h6 h7 h8 h9 h1' h2' h3' h4' h5' h6' h7' h8' h9';by_cases e1 : k = k'
 ·by_cases e2 : n = n'
  ·by_cases e3 : b = b'
   ·have hne2 := ((hne.resolve_left (fun h => h e1)).resolve_left (fun h => h e2)).resolve_left (fun h => h e3);clear hne;subst e1 e2 e3;by_cases e4 : l.length = l'.length
    ·have e5 : f.length ≠ f'.length := hne2.resolve_left (fun h => h e4);have t4 : ((l.length : Int) != (l'.length : Int)) = false := by simp [e4]
     have t5 : ((f.length : Int) != (f'.length : Int)) = true := by simp; omega
     clear hne2 e4 e5;go_enter Tryz.func26, Tryz.ntmps26;go_wp2_with fail;go_ret;exact ⟨rfl, ((Grow.refl w).alloc _).alloc _⟩
    have t4 : ((l.length : Int) != (l'.length : Int)) = true := by simp; omega
    clear hne2 e4;go_enter Tryz.func26, Tryz.ntmps26;go_wp2_with fail;go_ret;exact ⟨rfl, ((Grow.refl w).alloc _).alloc _⟩
   subst e1 e2;have t3 : (b == b') = false := by simpa using e3
   clear hne e3;go_enter Tryz.func26, Tryz.ntmps26;go_wp2_with fail;go_ret;exact ⟨rfl, ((Grow.refl w).alloc _).alloc _⟩
  subst e1;have t2 : ((n : Int) != (n' : Int)) = true := by simp; omega
  clear hne e2;go_enter Tryz.func26, Tryz.ntmps26;go_wp2_with fail;go_ret;exact ⟨rfl, ((Grow.refl w).alloc _).alloc _⟩
 have t1 : (k != k') = true := by simpa using e1
 clear hne e1;go_enter Tryz.func26, Tryz.ntmps26;go_wp2_with fail;go_ret;exact ⟨rfl, ((Grow.refl w).alloc _).alloc _⟩
def SameC (x : V) : Prop := ∀ (y : V) (w : World) (c c' : Cv), In w x c → In w y c' →
 Calls Tryz.prog 26 #[c.agg, c'.agg] w fun e w' => e = .returned (.bool (sameB x y)) ∧ Grow w w'
theorem same_tail (k : Int) (n : Nat) (b : List UInt8) (l l' : List V) (f f' : List (ByteArray × V)) (c c' : Cv) (w : World) (hv : In w (.mk k n b l f) c) (hv' : In w (.mk k n b l' f') c')
 (hll : l.length = l'.length) (hff : f.length = f'.length) (hl : ∀ x ∈ l, SameC x) (hf : ∀ x ∈ f, SameC x.2) :
 Calls Tryz.prog 26 #[c.agg, c'.agg] w fun e w' => e = .returned (.bool (sameB (.mk k n b l f) (.mk k n b l' f'))) ∧ Grow w w' := by
 obtain ⟨aB, aL, aF, cB, cL, cF, rfl, h1, h2, h3, h4, h5, h6, h7, h8, h9, hb⟩ := hv.open;obtain ⟨aB', aL', aF', cB', cL', cF', rfl, h1', h2', h3', h4', h5', h6', h7', h8', h9', hb'⟩ := hv'.open;have hc1 : ∀ o1 o2 : Obj, (convert 23 9 (.slice aB b.length cB)).run Tryz.prog ((w.alloc o1).alloc o2) = .ok (.string ⟨b.toArray⟩) ((w.alloc o1).alloc o2) := fun o1 o2 => conv_str _ (hb.grow (((Grow.refl w).alloc o1).alloc o2))
 have hc2 : ∀ o1 o2 : Obj, (convert 23 9 (.slice aB' b.length cB')).run Tryz.prog ((w.alloc o1).alloc o2) = .ok (.string ⟨b.toArray⟩) ((w.alloc o1).alloc o2) := fun o1 o2 => conv_str _ (hb'.grow (((Grow.refl w).alloc o1).alloc o2))
 have HV := hide hv;have HV' := hide hv';have Hl := hide hl;have Hf := hide hf;have t4 : ((l.length : Int) != (l'.length : Int)) = false := by simp [hll]
 have t5 : ((f.length : Int) != (f'.length : Int)) = false := by simp [hff]
 have hll2 : l.length ≤ l'.length := by omega
 have hff2 : f.length ≤ f'.length := by omega
 have HLL := hide hll;have HFF := hide hff;clear hv hv' hb hb' h1 h2 h3 h4 h5 h6 h8 h1' h2' h3' h4' h5' h6' h8' hl hf hll hff;go_enter Tryz.func26, Tryz.ntmps26;go_wp2_with fail;clear hc1 hc2 t4 t5;go_loopg [5] (l.length + 1) (fun gk i wr => ∃ j : Nat, j ≤ l.length ∧ gk + j = l.length + 1 ∧ i = .int .i64 j ∧ (∀ i (h1 : i < l.length) (h2 : i < l'.length), i < j → l[i] = l'[i]) ∧ Grow w wr ∧
  Blk wr w.heap.size 27 (Cv.cells ⟨k, (n : Int), aB, b.length, cB, aL, l.length, cL, aF, f.length, cF⟩) ∧ Blk wr (w.heap.size + 1) 27 (Cv.cells ⟨k, (n : Int), aB', b.length, cB', aL', l'.length, cL', aF', f'.length, cF'⟩))
 case atStart => exact ⟨0, by omega, by omega, rfl, fun i _ _ h => absurd h (by omega), ((Grow.refl w).alloc _).alloc _, (Blk.new _ _ _).alloc _, Blk.new' (by simp) _ _⟩
 case round =>
  obtain ⟨j, hj, hg, rfl, heq, hw, hB, hB'⟩ := hrel;obtain ⟨gk', rfl⟩ := gk_ gk (by omega);have hc3 := hB.cell;have hc3' := hB'.cell;have HW := hide hw;have HEQ := hide heq;have HB := hide hB;have HB' := hide hB';by_cases hlt : j < l.length
  ·have hlt' : j < l'.length := by omega
   obtain ⟨bk, o, x, ha, hbk, e0, e1, e2, e3, e4, hx⟩ := (HV.out.grow hw).elemL j hlt;obtain ⟨bk', o', x', ha', hbk', e0', e1', e2', e3', e4', hx'⟩ := (HV'.out.grow hw).elemL j hlt';dsimp only at ha ha';subst ha ha';have HX := hide hx;have HX' := hide hx';have Hlj := hide (Hl.out _ (List.getElem_mem hlt));clear hw hx hx' hB hB' heq;have hz0 : w.heap.size < wr.heap.size := HB.out.lt;have hz1 : w.heap.size + 1 < wr.heap.size := HB'.out.lt;by_cases he : l[j] = l'[j]
   ·have hs : sameB l[j] l'[j] = true := sameB_iff.2 he;have HE := hide he;clear he;go_wp2_with fail;go_region_held3 (fun w' => ∀ b o, b < wr.heap.size → w'.cell? ⟨b, o, none⟩ = wr.cell? ⟨b, o, none⟩) (first | exact fun _ _ _ => rfl | exact fun b o h => hgr.below.cell (p := ⟨b, o, none⟩) h)
     (first | (go_at_call 26; refine (Hlj.out _ _ x x' (HX.out.grow (Grow.refl wr).drew) (HX'.out.grow (Grow.refl wr).drew)).mono ?_; rintro e w2 ⟨rfl, hb2⟩; have hgr : Grow wr w2 := (Grow.refl wr).drew.trans hb2))
    have HGR := hide hgr;clear hgr hb2;go_wp2_with fail;go_roundg gk'
    case measure => omega
    case rel =>
     refine ⟨j + 1, by omega, by omega, by go_num, fun i h1 h2 h3 => ?_, HW.out.trans HGR.out, HB.out.grow HGR.out, HB'.out.grow HGR.out⟩;rcases Nat.lt_or_ge i j with h | h
     ·exact HEQ.out i h1 h2 h
     obtain rfl : i = j := by omega
     exact HE.out
   have hs : sameB l[j] l'[j] = false := sameB_ne he;have HE := hide he;clear he;go_wp2_with fail;go_region_held3 (fun w' => ∀ b o, b < wr.heap.size → w'.cell? ⟨b, o, none⟩ = wr.cell? ⟨b, o, none⟩) (first | exact fun _ _ _ => rfl | exact fun b o h => hgr.below.cell (p := ⟨b, o, none⟩) h)
    (first | (go_at_call 26; refine (Hlj.out _ _ x x' (HX.out.grow (Grow.refl wr).drew) (HX'.out.grow (Grow.refl wr).drew)).mono ?_; rintro e w2 ⟨rfl, hb2⟩; have hgr : Grow wr w2 := (Grow.refl wr).drew.trans hb2))
   have HGR := hide hgr;clear hgr hb2;go_wp2_with fail;go_ret;refine ⟨ret_bool (sameB_ne (fun h => HE.out ?_)).symm, HW.out.trans HGR.out⟩;injection h with _ _ _ h _;subst h; rfl
  obtain rfl : j = l.length := by omega
  have hll : l = l' := lists_eq HLL.out (fun i h1 h2 => HEQ.out i h1 h2 h1);clear hw hB hB' heq HEQ;go_wp2_with fail;go_loopg [6] (f.length + 1) (fun gk i wr => ∃ j : Nat, j ≤ f.length ∧ gk + j = f.length + 1 ∧ i = .int .i64 j ∧ (∀ i (h1 : i < f.length) (h2 : i < f'.length), i < j → f[i] = f'[i]) ∧ Grow w wr ∧
   Blk wr w.heap.size 27 (Cv.cells ⟨k, (n : Int), aB, b.length, cB, aL, l.length, cL, aF, f.length, cF⟩) ∧ Blk wr (w.heap.size + 1) 27 (Cv.cells ⟨k, (n : Int), aB', b.length, cB', aL', l'.length, cL', aF', f'.length, cF'⟩))
  case atStart => exact ⟨0, by omega, by omega, rfl, fun i _ _ h => absurd h (by omega), HW.out, HB.out, HB'.out⟩
  case round =>
   obtain ⟨j, hj, hg, rfl, heq, hw, hB, hB'⟩ := hrel;obtain ⟨gk', rfl⟩ := gk_ gk (by omega);clear hc3 hc3';have hc4 := hB.cell;have hc4' := hB'.cell;have HW := hide hw;have HEQ := hide heq;have HB := hide hB;have HB' := hide hB';have HLq := hide hll;clear hll;by_cases hlt : j < f.length
   ·have hlt' : j < f'.length := by omega
    obtain ⟨bk, o, x, ha, hbk, es, esz, e0, e1, e2, e3, e4, hx⟩ := (HV.out.grow hw).elemF j hlt;obtain ⟨bk', o', x', ha', hbk', es', esz', e0', e1', e2', e3', e4', hx'⟩ := (HV'.out.grow hw).elemF j hlt';dsimp only at ha ha';subst ha ha';have HX := hide hx;have HX' := hide hx';have Hfj := hide (Hf.out _ (List.getElem_mem hlt));have hz0 : w.heap.size < wr.heap.size := HB.out.lt;have hz1 : w.heap.size + 1 < wr.heap.size := HB'.out.lt;clear hw hx hx' hB hB' heq esz esz';by_cases hn : f[j].1 = f'[j].1
    ·have hn1 : (f[j].1.toList == f'[j].1.toList) = true := (str_beq _ _).2 hn;have hn2 : (f[j].1.toList != f'[j].1.toList) = false := by rw [bne, hn1]; rfl
     have HN := hide hn;clear hn;by_cases he : f[j].2 = f'[j].2
     ·have hs : sameB f[j].2 f'[j].2 = true := sameB_iff.2 he;have HE := hide he;clear he;go_wp2_with fail;go_region_held3 (fun w' => ∀ b o, b < wr.heap.size → w'.cell? ⟨b, o, none⟩ = wr.cell? ⟨b, o, none⟩) (first | exact fun _ _ _ => rfl | exact fun b o h => hgr.below.cell (p := ⟨b, o, none⟩) h)
       (first | (go_at_call 26; refine (Hfj.out _ _ x x' (HX.out.grow (Grow.refl wr).drew) (HX'.out.grow (Grow.refl wr).drew)).mono ?_; rintro e w2 ⟨rfl, hb2⟩; have hgr : Grow wr w2 := (Grow.refl wr).drew.trans hb2))
      have HGR := hide hgr;clear hgr hb2;go_wp2_with fail;go_roundg gk'
      case measure => omega
      case rel =>
       refine ⟨j + 1, by omega, by omega, by go_num, fun i h1 h2 h3 => ?_, HW.out.trans HGR.out, HB.out.grow HGR.out, HB'.out.grow HGR.out⟩;rcases Nat.lt_or_ge i j with h | h
       ·exact HEQ.out i h1 h2 h
       obtain rfl : i = j := by omega
       exact Prod.ext HN.out HE.out
     have hs : sameB f[j].2 f'[j].2 = false := sameB_ne he;have HE := hide he;clear he;go_wp2_with fail;go_region_held3 (fun w' => ∀ b o, b < wr.heap.size → w'.cell? ⟨b, o, none⟩ = wr.cell? ⟨b, o, none⟩) (first | exact fun _ _ _ => rfl | exact fun b o h => hgr.below.cell (p := ⟨b, o, none⟩) h)
      (first | (go_at_call 26; refine (Hfj.out _ _ x x' (HX.out.grow (Grow.refl wr).drew) (HX'.out.grow (Grow.refl wr).drew)).mono ?_; rintro e w2 ⟨rfl, hb2⟩; have hgr : Grow wr w2 := (Grow.refl wr).drew.trans hb2))
     have HGR := hide hgr;clear hgr hb2;go_wp2_with fail;go_ret;refine ⟨ret_bool (sameB_ne (fun h => HE.out ?_)).symm, HW.out.trans HGR.out⟩;injection h with _ _ _ _ h;subst h; rfl
    have hn1 : (f[j].1.toList == f'[j].1.toList) = false := by
     rw [Bool.eq_false_iff]; exact fun h => hn ((str_beq _ _).1 h)
    have hn2 : (f[j].1.toList != f'[j].1.toList) = true := by rw [bne, hn1]; rfl
    have HN := hide hn;clear hn;go_wp2_with fail;go_quiet (fail);go_wp2_with fail;go_ret;refine ⟨ret_bool (sameB_ne (fun h => HN.out ?_)).symm, HW.out.drewN _⟩;injection h with _ _ _ _ h;subst h; rfl
   obtain rfl : j = f.length := by omega
   have hff : f = f' := lists_eq HFF.out (fun i h1 h2 => HEQ.out i h1 h2 h1);have HFq := hide hff;clear hw hB hB' heq HEQ hff;go_wp2_with fail;go_ret;exact ⟨ret_bool (by rw [HLq.out, HFq.out, sameB_self]), HW.out⟩
theorem same_any (x : V) : SameC x := by
 induction x using V.ind with
 | h k n b l f hl hf =>
  intro y w c c' hv hv';obtain ⟨k', n', b', l', f'⟩ := y;by_cases hne : k ≠ k' ∨ n ≠ n' ∨ b ≠ b' ∨ l.length ≠ l'.length ∨ f.length ≠ f'.length
  ·refine (same_head k k' n n' b b' l l' f f' c c' w hv hv' hne).mono ?_;rintro e w' ⟨rfl, hg⟩;refine ⟨ret_bool (sameB_ne (fun h => ?_)).symm, hg⟩;injection h with h1 h2 h3 h4 h5;subst h1 h2 h3 h4 h5;simp at hne
  have h1 : k = k' := Decidable.byContradiction fun h => hne (.inl h)
  have h2 : n = n' := Decidable.byContradiction fun h => hne (.inr (.inl h))
  have h3 : b = b' := Decidable.byContradiction fun h => hne (.inr (.inr (.inl h)))
  have h4 : l.length = l'.length := Decidable.byContradiction fun h => hne (.inr (.inr (.inr (.inl h))))
  have h5 : f.length = f'.length := Decidable.byContradiction fun h => hne (.inr (.inr (.inr (.inr h))))
  clear hne;subst h1 h2 h3;exact same_tail k n b l l' f f' c c' w hv hv' h4 h5 hl hf
theorem In.zero_ (w : World) : In w V.zero Cv.zero := by
 unfold In V.zero;rw [IsV];exact ⟨rfl, rfl, rfl, rfl, rfl, by omega, by omega, by omega, by simp, by simp, by simp, by simp, by simp, by simp, ⟨rfl, fun h => absurd h (by simp)⟩, fun i h => absurd h (by simp), fun i h => absurd h (by simp)⟩
end
section
open Go.RowKit
theorem V.count_pos (v : V) : 1 ≤ v.count := by obtain ⟨k, n, b, l, f⟩ := v; rw [V.count_mk]; omega
abbrev lcv (A : Option Addr) (n cap : Nat) : Cv := ⟨7, 0, none, 0, 0, A, n, cap, none, 0, 0⟩
def InL (w : World) (A : Option Addr) (cap : Nat) (vs : List V) : Prop := In w (.mk 7 0 [] vs []) (lcv A vs.length cap)
theorem InL.grow {w w' : World} {A : Option Addr} {cap : Nat} {vs : List V} (h : InL w A cap vs) (hg : Grow w w') : InL w' A cap vs := In.grow h hg
end
section
open Go.RowKit Go.Shelf
theorem utf8word_any (x0 x1 x2 x3 x4 x5 x6 x7 : UInt8) (bk o n cap : Nat) (w : World) (hn : 8 ≤ n)
 (c0 : w.cell? ⟨bk, o, none⟩ = some (.int .u8 (x0.toNat : Int)))
 (c1 : w.cell? ⟨bk, o + 1, none⟩ = some (.int .u8 (x1.toNat : Int)))
 (c2 : w.cell? ⟨bk, o + 2, none⟩ = some (.int .u8 (x2.toNat : Int)))
 (c3 : w.cell? ⟨bk, o + 3, none⟩ = some (.int .u8 (x3.toNat : Int)))
 (c4 : w.cell? ⟨bk, o + 4, none⟩ = some (.int .u8 (x4.toNat : Int)))
 (c5 : w.cell? ⟨bk, o + 5, none⟩ = some (.int .u8 (x5.toNat : Int)))
 (c6 : w.cell? ⟨bk, o + 6, none⟩ = some (.int .u8 (x6.toNat : Int)))
 (c7 : w.cell? ⟨bk, o + 7, none⟩ = some (.int .u8 (x7.toNat : Int))) :
 Calls Tryz.prog 129 #[.slice (some ⟨bk, o, none⟩) n cap] w fun e w' => e = .returned (.int .u64 (Lib.leNat [x0, x1, x2, x3, x4, x5, x6, x7])) ∧ ∃ q, w' = w.drewN q := by
 have h0 := x0.toNat_lt;have h1 := x1.toNat_lt;have h2 := x2.toNat_lt;have h3 := x3.toNat_lt;have h4 := x4.toNat_lt;have h5 := x5.toNat_lt;have h6 := x6.toNat_lt;have h7 := x7.toNat_lt;have hv : ((Lib.leNat [x0, x1, x2, x3, x4, x5, x6, x7] : Nat) : Int) = (x0.toNat : Int) + (x1.toNat : Int) * 256 + (x2.toNat : Int) * 65536 + (x3.toNat : Int) * 16777216 + (x4.toNat : Int) * 4294967296 + (x5.toNat : Int) * 1099511627776 + (x6.toNat : Int) * 281474976710656 + (x7.toNat : Int) * 72057594037927936 := by
  simp only [Lib.leNat];push_cast;omega
 go_enter Tryz.func129, Tryz.ntmps129;go_wp2_with fail;go_quiet (fail);go_wp2;go_ret;refine ⟨?_, _, rfl⟩;simp (disch := omega) only [u64_or8, u64_or16, u64_or24, u64_or32, u64_or40, u64_or48, u64_or56];rw [hv];rfl
end
section
open Ieee Go
theorem dbl_sign : Ieee.double.signWeight = 9223372036854775808 := by decide
theorem dbl_binade : Ieee.double.binade = 4503599627370496 := by decide
theorem dbl_inf : Ieee.double.infRung = 9218868437227405312 := by decide
theorem dbl_least : Ieee.double.leastPlace = -1074 := by decide
theorem word_lo (r : Nat) (h : r < 9223372036854775808) (neg : Bool) : Ieee.double.word neg r % 9223372036854775808 = r := by
 unfold Format.word; rw [dbl_sign]; cases neg
 ·simp; omega
 simp; omega
theorem word_hi (r : Nat) (h : r < 9223372036854775808) (neg : Bool) : (Ieee.double.word neg r / 9223372036854775808 % 2 == 1) = neg := by
 unfold Format.word; rw [dbl_sign]; cases neg
 ·simp; omega
 simp; omega
theorem read_rung (neg : Bool) (e m : Nat) (h1 : 1 ≤ e) (h2 : e ≤ 2046) (hm : m < 4503599627370496) :
 Ieee.double.read (Ieee.double.word neg (e * 4503599627370496 + m)) = .number neg (4503599627370496 + m) ((e : Int) - 1075) := by
 have hr : e * 4503599627370496 + m < 9223372036854775808 := by omega
 unfold Format.read;simp only [dbl_sign, dbl_binade, dbl_inf, dbl_least, word_lo _ hr, word_hi _ hr];rw [if_neg (by omega), if_pos (by omega)];have e1 : (e * 4503599627370496 + m) % 4503599627370496 = m := by omega
 have e2 : (e * 4503599627370496 + m) / 4503599627370496 = e := by omega
 rw [e1, e2];congr 1;omega
theorem shl_one (k : Nat) : (1 : Nat) <<< k = 2 ^ k := by rw [Nat.shiftLeft_eq, Nat.one_mul]
theorem cut_zero_drop (way : Toward) (neg : Bool) (n : Nat) : way.cut neg n 0 = n := by
 unfold Toward.cut;have : (1 : Nat) <<< min 0 (n.log2 + 2) = 1 := by simp
 rw [this];simp only [Nat.div_one, Nat.mod_one]
 cases way <;> simp
theorem pow53 : (2 : Nat) ^ 53 = 9007199254740992 := by decide
theorem nearest_eq (neg : Bool) (mag : Nat) (h0 : mag ≠ 0) (last : Int) (h : max ((0 : Int) + (mag.log2 : Int) - 52) (-1074) = last) :
 Ieee.double.nearest neg mag 0 = Ieee.double.word neg (min ((last - -1074).toNat * 4503599627370496 + Toward.even.cut neg (mag <<< (0 - last).toNat) (last - 0).toNat) 9218868437227405312) := by
 have hf : ((Ieee.double.fractionBits : Nat) : Int) = 52 := rfl;unfold Format.nearest;rw [if_neg h0, dbl_least, dbl_binade, dbl_inf, hf, h]
theorem word_min (neg : Bool) (a b : Nat) (h : a = b) (hb : b ≤ 9218868437227405312) : Ieee.double.word neg (min a 9218868437227405312) = Ieee.double.word neg b := by
 subst h; rw [Nat.min_eq_left hb]
theorem nearest_small (neg : Bool) (mag : Nat) (h0 : mag ≠ 0) (hL : mag.log2 ≤ 52) :
 Ieee.double.nearest neg mag 0 = Ieee.double.word neg ((mag.log2 + 1022) * 4503599627370496 + mag * 2 ^ (52 - mag.log2)) := by
 rw [nearest_eq neg mag h0 ((mag.log2 : Int) - 52) (by omega)];have e1 : ((0 : Int) - ((mag.log2 : Int) - 52)).toNat = 52 - mag.log2 := by omega
 have e2 : ((mag.log2 : Int) - 52 - 0).toNat = 0 := by omega
 have e3 : ((mag.log2 : Int) - 52 - -1074).toNat = mag.log2 + 1022 := by omega
 rw [e1, e2, e3, cut_zero_drop, Nat.shiftLeft_eq];have hlt := Nat.lt_log2_self (n := mag);have h3 : mag * 2 ^ (52 - mag.log2) < 2 ^ (mag.log2 + 1) * 2 ^ (52 - mag.log2) := Nat.mul_lt_mul_of_pos_right hlt (Nat.pow_pos (by omega));rw [← Nat.pow_add, show mag.log2 + 1 + (52 - mag.log2) = 53 by omega, pow53] at h3;generalize mag * 2 ^ (52 - mag.log2) = x at h3 ⊢;generalize mag.log2 = L at hL ⊢;exact word_min _ _ _ rfl (by omega)
def up (mag d : Nat) : Bool := decide (2 ^ d < 2 * (mag % 2 ^ d)) || (2 ^ d == 2 * (mag % 2 ^ d) && mag / 2 ^ d % 2 == 1)
theorem cut_even (neg : Bool) (mag d : Nat) (h : d ≤ mag.log2 + 2) : Toward.even.cut neg mag d = mag / 2 ^ d + (up mag d).toNat := by
 unfold Toward.cut;have : min d (mag.log2 + 2) = d := by omega
 simp only [this, shl_one, up]
theorem nearest_great (neg : Bool) (mag d : Nat) (h0 : mag ≠ 0) (hd : 1 ≤ d) (hL : mag.log2 = 52 + d) (hd2 : d ≤ 11) :
 Ieee.double.nearest neg mag 0 = Ieee.double.word neg ((d + 1074) * 4503599627370496 + (mag / 2 ^ d + (up mag d).toNat)) := by
 rw [nearest_eq neg mag h0 (d : Int) (by omega)];have e1 : ((0 : Int) - (d : Int)).toNat = 0 := by omega
 have e2 : ((d : Int) - 0).toNat = d := by omega
 have e3 : ((d : Int) - -1074).toNat = d + 1074 := by omega
 rw [e1, e2, e3, Nat.shiftLeft_zero, cut_even neg mag d (by omega)];have hlt := Nat.lt_log2_self (n := mag);have hlt2 : mag / 2 ^ d < 2 ^ 53 := by
  rw [Nat.div_lt_iff_lt_mul (Nat.pow_pos (by omega)), ← Nat.pow_add];have : mag.log2 + 1 = 53 + d := by omega
  rwa [this] at hlt
 rw [pow53] at hlt2;have hu : (up mag d).toNat ≤ 1 := Bool.toNat_le _;generalize mag / 2 ^ d = x at hlt2 ⊢;generalize (up mag d).toNat = y at hu ⊢;exact word_min _ _ _ rfl (by omega)
theorem num_congr {neg : Bool} {a b : Nat} {p q : Int} (h1 : a = b) (h2 : p = q) : Datum.number neg a p = .number neg b q := by subst h1 h2; rfl
theorem pow52 : (2 : Nat) ^ 52 = 4503599627370496 := by decide
theorem read_t (neg : Bool) (d t : Nat) (hd : d ≤ 11) (h1 : 4503599627370496 ≤ t) (h2 : t < 9007199254740992) :
 Ieee.double.read (Ieee.double.word neg ((d + 1074) * 4503599627370496 + t)) = .number neg t (d : Int) := by
 have := read_rung neg (d + 1075) (t - 4503599627370496) (by omega) (by omega) (by omega);rw [show (d + 1074) * 4503599627370496 + t = (d + 1075) * 4503599627370496 + (t - 4503599627370496) by omega, this];exact num_congr (by omega) (by omega)
theorem read_top (neg : Bool) (d : Nat) (hd : d ≤ 11) :
 Ieee.double.read (Ieee.double.word neg ((d + 1074) * 4503599627370496 + 9007199254740992)) = .number neg 4503599627370496 ((d : Int) + 1) := by
 have := read_rung neg (d + 1076) 0 (by omega) (by omega) (by omega);rw [show (d + 1074) * 4503599627370496 + 9007199254740992 = (d + 1076) * 4503599627370496 + 0 by omega, this];exact num_congr rfl (by omega)
theorem read_small (neg : Bool) (L t : Nat) (hd : L ≤ 52) (h1 : 4503599627370496 ≤ t) (h2 : t < 9007199254740992) :
 Ieee.double.read (Ieee.double.word neg ((L + 1022) * 4503599627370496 + t)) = .number neg t ((L : Int) - 52) := by
 have := read_rung neg (L + 1023) (t - 4503599627370496) (by omega) (by omega) (by omega);rw [show (L + 1022) * 4503599627370496 + t = (L + 1023) * 4503599627370496 + (t - 4503599627370496) by omega, this];exact num_congr (by omega) (by omega)
theorem toInt_up (neg : Bool) (m : Nat) (d : Nat) : (Datum.number neg m (d : Int)).toInt .zero = some (if neg then -((m * 2 ^ d : Nat) : Int) else ((m * 2 ^ d : Nat) : Int)) := by
 unfold Datum.toInt Datum.integral;simp only [show (-(d : Int)).toNat = 0 by omega, Int.toNat_natCast, cut_zero_drop, signed, Nat.shiftLeft_eq, Nat.pow_zero, Nat.mul_one]
theorem cut_exact (neg : Bool) (mag q : Nat) (h0 : mag ≠ 0) : Toward.zero.cut neg (mag * 2 ^ q) q = mag := by
 have hp : 0 < 2 ^ q := Nat.pow_pos (by omega);have hle : q ≤ (mag * 2 ^ q).log2 := by
  rw [Nat.le_log2 (by have := Nat.mul_pos (Nat.pos_of_ne_zero h0) hp; omega)];exact Nat.le_mul_of_pos_left _ (Nat.pos_of_ne_zero h0)
 unfold Toward.cut;have : min q ((mag * 2 ^ q).log2 + 2) = q := by omega
 simp only [this, shl_one, Nat.mul_div_cancel _ hp, Bool.toNat_false, Nat.add_zero]
theorem toInt_down (neg : Bool) (mag q : Nat) (h0 : mag ≠ 0) (p : Int) (hp : p = -(q : Int)) : (Datum.number neg (mag * 2 ^ q) p).toInt .zero = some (if neg then -(mag : Int) else (mag : Int)) := by
 subst hp;unfold Datum.toInt Datum.integral;simp only [show (-(q : Int)).toNat = 0 by omega, Int.neg_neg, Int.toNat_natCast, Nat.shiftLeft_zero, cut_exact neg mag q h0, signed]
theorem read63 : Ieee.double.read 4890909195324358656 = .number false 4503599627370496 11 := by
 have := read_t false 11 4503599627370496 (by omega) (by omega) (by omega);rw [show Ieee.double.word false ((11 + 1074) * 4503599627370496 + 4503599627370496) = 4890909195324358656 by unfold Format.word; decide] at this;exact this
theorem ordInt_lt {a b : Int} (h : a < b) : compare a b = .lt := by simp [compare, compareOfLessAndEq, h]
theorem ordInt_eq {a b : Int} (h : a = b) : compare a b = .eq := by subst h; simp [compare, compareOfLessAndEq]
theorem ordInt_gt {a b : Int} (h : b < a) : compare a b = .gt := by
 have h1 : ¬ a < b := by omega
 have h2 : ¬ a = b := by omega
 simp [compare, compareOfLessAndEq, h1, h2]
theorem order63 {f : Nat} {s : Bool} {m : Nat} {p : Int} (h : Ieee.double.read f = .number s m p) (hp : p ≤ 11) :
 Ieee.double.order f 4890909195324358656 = some (compare (if s then -(m : Int) else (m : Int)) ((4503599627370496 * 2 ^ (11 - p).toNat : Nat) : Int)) := by
 unfold Format.order;rw [h, read63];unfold Datum.order;simp only [show min p 11 = p by omega, show (p - p).toNat = 0 by omega, signed, Nat.shiftLeft_eq, Nat.pow_zero, Nat.mul_one, Bool.false_eq_true, if_false]
theorem order_self {f : Nat} {s : Bool} {m : Nat} {p : Int} (h : Ieee.double.read f = .number s m p) : Ieee.double.order f f = some .eq := by
 unfold Format.order;rw [h];unfold Datum.order;simp
theorem read_ninf : Ieee.double.read 18442240474082181120 = .infinity true := by decide
theorem read_zero : Ieee.double.read 0 = .number false 0 (-1074) := by decide
theorem order_ninf {f : Nat} {s : Bool} {m : Nat} {p : Int} (h : Ieee.double.read f = .number s m p) : Ieee.double.order f 18442240474082181120 = some .gt ∧ Ieee.double.order 18442240474082181120 f = some .lt := by
 unfold Format.order;rw [h, read_ninf];exact ⟨rfl, rfl⟩
theorem order_zero {f : Nat} {s : Bool} {m : Nat} {p : Int} (h : Ieee.double.read f = .number s m p) (hm : m ≠ 0) (hp : -1074 ≤ p) : Ieee.double.order f 0 = some (if s then .lt else .gt) := by
 unfold Format.order;rw [h, read_zero];unfold Datum.order;have hpos : 0 < m * 2 ^ (p - -1074).toNat := Nat.mul_pos (Nat.pos_of_ne_zero hm) (Nat.pow_pos (by omega));simp only [show min p (-1074) = -1074 by omega, signed, Nat.shiftLeft_eq];generalize m * 2 ^ (p - -1074).toNat = x at hpos ⊢
 cases s
 ·simp only [Bool.false_eq_true, if_false];rw [ordInt_gt]; omega
 simp only [if_true];rw [ordInt_lt]; simp; omega
def sh (m : Nat) : Nat := m.log2 - 52
def fl (i : Int) : Nat × Nat :=
 if 0 ≤ i then (Ieee.double.nearest false (i.toNat / 2 ^ sh i.toNat * 2 ^ sh i.toNat) 0, i.toNat % 2 ^ sh i.toNat)
 else (Ieee.double.nearest true ((i.natAbs + (2 ^ sh i.natAbs - 1)) / 2 ^ sh i.natAbs * 2 ^ sh i.natAbs) 0, (i.natAbs + (2 ^ sh i.natAbs - 1)) / 2 ^ sh i.natAbs * 2 ^ sh i.natAbs - i.natAbs)
theorem log2_mul (t d : Nat) (h1 : 4503599627370496 ≤ t) (h2 : t < 9007199254740992) : (t * 2 ^ d).log2 = 52 + d := by
 have hp : 0 < 2 ^ d := Nat.pow_pos (by omega);have h0 : t * 2 ^ d ≠ 0 := by have := Nat.mul_pos (show 0 < t by omega) hp; omega
 have ha : 52 + d ≤ (t * 2 ^ d).log2 := by
  rw [Nat.le_log2 h0, Nat.pow_add, pow52]; exact Nat.mul_le_mul_right _ h1
 have hb : (t * 2 ^ d).log2 < 52 + d + 1 := by
  rw [Nat.log2_lt h0, show 52 + d + 1 = 53 + d by omega, Nat.pow_add, pow53]; exact Nat.mul_lt_mul_of_pos_right h2 hp
 omega
theorem up_exact (t d : Nat) : up (t * 2 ^ d) d = false := by
 have hp : 0 < 2 ^ d := Nat.pow_pos (by omega);unfold up;rw [Nat.mul_mod_left];simp
theorem nearest_exact (neg : Bool) (t d : Nat) (hd1 : 1 ≤ d) (hd2 : d ≤ 10) (h1 : 4503599627370496 ≤ t) (h2 : t ≤ 9007199254740992) :
 Ieee.double.nearest neg (t * 2 ^ d) 0 = Ieee.double.word neg ((d + 1074) * 4503599627370496 + t) := by
 have hp : ∀ d : Nat, 0 < 2 ^ d := fun d => Nat.pow_pos (by omega)
 rcases Nat.lt_or_eq_of_le h2 with h2 | rfl
 ·rw [nearest_great neg _ d (by have := Nat.mul_pos (show 0 < t by omega) (hp d); omega) hd1 (log2_mul t d h1 h2) (by omega), up_exact, Nat.mul_div_cancel _ (hp d)];rfl
 rw [show 9007199254740992 * 2 ^ d = 4503599627370496 * 2 ^ (d + 1) by rw [Nat.pow_succ]; omega,
  nearest_great neg _ (d + 1) (by have := Nat.mul_pos (show 0 < 4503599627370496 by omega) (hp (d + 1)); omega) (by omega) (log2_mul _ _ (by omega) (by omega)) (by omega), up_exact, Nat.mul_div_cancel _ (hp (d + 1))]
 refine congrArg (Ieee.double.word neg) ?_;simp only [Bool.toNat_false];omega
theorem exact_facts (neg : Bool) (t d : Nat) (hd2 : d ≤ 10) (h1 : 4503599627370496 ≤ t) (h2 : t ≤ 9007199254740992) :
 ∃ m p, Ieee.double.read (Ieee.double.word neg ((d + 1074) * 4503599627370496 + t)) = .number neg m p ∧ m ≠ 0 ∧ -1074 ≤ p ∧ p ≤ 11 ∧ m * 2 ^ p.toNat = t * 2 ^ d ∧ 0 ≤ p ∧
  (Datum.number neg m p).toInt .zero = some (if neg then -((t * 2 ^ d : Nat) : Int) else ((t * 2 ^ d : Nat) : Int)) := by
 rcases Nat.lt_or_eq_of_le h2 with h2 | rfl
 ·exact ⟨t, d, read_t neg d t (by omega) h1 h2, by omega, by omega, by omega, by rw [Int.toNat_natCast], by omega, toInt_up neg t d⟩
 have e : 9007199254740992 * 2 ^ d = 4503599627370496 * 2 ^ (d + 1) := by rw [Nat.pow_succ]; omega
 refine ⟨4503599627370496, ((d + 1 : Nat) : Int), read_top neg d (by omega), by omega, by omega, by omega, by rw [Int.toNat_natCast, e], by omega, ?_⟩;rw [toInt_up neg _ (d + 1), e]
theorem toIntVal_of {f : Nat} {s : Bool} {m : Nat} {p n : Int} (h : Ieee.double.read f = .number s m p) (ht : (Datum.number s m p).toInt .zero = some n) (h1 : -9223372036854775808 ≤ n) (h2 : n ≤ 9223372036854775807) :
 floatToIntVal .f64 f .i64 = some n := by
 unfold floatToIntVal;rw [show FloatKind.f64.decode f = .number s m p from h, ht];exact if_pos ⟨h1, h2⟩
def Step (i : Int) (f0 g : Nat) : Prop :=
 f0 = g ∨
 (0 < i ∧ f0 = g + 1 ∧ (Ieee.double.order f0 4890909195324358656 = some .eq ∨ (Ieee.double.order f0 4890909195324358656 = some .lt ∧ ∃ n', floatToIntVal .f64 f0 .i64 = some n' ∧ i < n')) ∧
  ∃ s m p, Ieee.double.read f0 = .number s m p ∧ m ≠ 0 ∧ -1074 ≤ p ∧ s = false) ∨
 (i < 0 ∧ f0 + 1 = g ∧ (Ieee.double.order f0 4890909195324358656 = some .lt ∧ ∃ n', floatToIntVal .f64 f0 .i64 = some n' ∧ i < n') ∧
  ∃ s m p, Ieee.double.read f0 = .number s m p ∧ m ≠ 0 ∧ -1074 ≤ p ∧ s = true)
structure FloorC (i : Int) (f0 g rest : Nat) (n : Int) : Prop where
 eq : n = i - (rest : Int)
 small : rest < 2048
 lo : -9223372036854775808 ≤ n
 hi : n ≤ i
 val : floatToIntVal .f64 g .i64 = some n
 lt : Ieee.double.order g 4890909195324358656 = some .lt
 ge : Ieee.double.order g 14114281232179134464 = some .gt ∨ Ieee.double.order g 14114281232179134464 = some .eq
 bits : g < 18446744073709551616
 step : Step i f0 g
theorem read_n63 : Ieee.double.read 14114281232179134464 = .number true 4503599627370496 11 := by
 have := read_t true 11 4503599627370496 (by omega) (by omega) (by omega);rw [show Ieee.double.word true ((11 + 1074) * 4503599627370496 + 4503599627370496) = 14114281232179134464 by unfold Format.word; decide] at this;exact this
theorem ordern63 {f : Nat} {s : Bool} {m : Nat} {p : Int} (h : Ieee.double.read f = .number s m p) (hp : p ≤ 11) :
 Ieee.double.order f 14114281232179134464 = some (compare (if s then -(m : Int) else (m : Int)) (-((4503599627370496 * 2 ^ (11 - p).toNat : Nat) : Int))) := by
 unfold Format.order;rw [h, read_n63];unfold Datum.order;simp only [show min p 11 = p by omega, show (p - p).toNat = 0 by omega, signed, Nat.shiftLeft_eq, Nat.pow_zero, Nat.mul_one, if_true]
theorem word_lt64 (neg : Bool) (r : Nat) (h : r < 9223372036854775808) : Ieee.double.word neg r < 18446744073709551616 := by
 unfold Format.word; rw [dbl_sign]; cases neg <;> simp <;> omega
theorem word_succ (neg : Bool) (r : Nat) : Ieee.double.word neg (r + 1) = Ieee.double.word neg r + 1 := by
 unfold Format.word; cases neg <;> simp <;> omega
theorem scale (p : Int) (h0 : 0 ≤ p) (h : p ≤ 11) : 4503599627370496 * 2 ^ (11 - p).toNat * 2 ^ p.toNat = 9223372036854775808 := by
 rw [Nat.mul_assoc, ← Nat.pow_add, show (11 - p).toNat + p.toNat = 11 by omega]
theorem below63 {m x : Nat} {p : Int} (h0 : 0 ≤ p) (h : p ≤ 11) (e : m * 2 ^ p.toNat = x) : (m < 4503599627370496 * 2 ^ (11 - p).toNat ↔ x < 9223372036854775808) ∧ (m = 4503599627370496 * 2 ^ (11 - p).toNat ↔ x = 9223372036854775808) := by
 have hp : 0 < 2 ^ p.toNat := Nat.pow_pos (by omega);rw [← e, ← scale p h0 h];exact ⟨(Nat.mul_lt_mul_right hp).symm, ⟨fun h => by rw [h], fun h => Nat.eq_of_mul_eq_mul_right hp h⟩⟩
theorem val_facts (neg : Bool) (t d : Nat) (hd2 : d ≤ 10) (h1 : 4503599627370496 ≤ t) (h2 : t ≤ 9007199254740992) (h3 : t * 2 ^ d ≤ 9223372036854775808) (x : Nat) (hx : t * 2 ^ d = x) (g : Nat) (hg : g = Ieee.double.word neg ((d + 1074) * 4503599627370496 + t)) :
 (∃ s m p, Ieee.double.read g = .number s m p ∧ m ≠ 0 ∧ -1074 ≤ p ∧ s = neg) ∧ g < 18446744073709551616 ∧
 (neg = true → floatToIntVal .f64 g .i64 = some (-(x : Int)) ∧ Ieee.double.order g 4890909195324358656 = some .lt ∧ (Ieee.double.order g 14114281232179134464 = some .gt ∨ Ieee.double.order g 14114281232179134464 = some .eq)) ∧
 (neg = false → (x = 9223372036854775808 → Ieee.double.order g 4890909195324358656 = some .eq) ∧
  (x < 9223372036854775808 → floatToIntVal .f64 g .i64 = some (x : Int) ∧ Ieee.double.order g 4890909195324358656 = some .lt ∧ Ieee.double.order g 14114281232179134464 = some .gt)) := by
 obtain ⟨m, p, hr, hm, hp1, hp2, he, hp0, hti⟩ := exact_facts neg t d hd2 h1 h2;rw [hx] at hti he h3;rw [← hg] at hr;obtain ⟨b1, b2⟩ := below63 hp0 hp2 he;have ho := order63 hr hp2;have hn := ordern63 hr hp2;refine ⟨⟨neg, m, p, hr, hm, hp1, rfl⟩, ?_, fun e => ?_, fun e => ⟨fun ex => ?_, fun ex => ?_⟩⟩
 ·rw [hg]; exact word_lt64 _ _ (by omega)
 ·subst e;simp only [if_true] at ho hn hti;refine ⟨toIntVal_of hr hti (by omega) (by omega), ?_, ?_⟩
  ·rw [ho, ordInt_lt]; omega
  rcases Nat.lt_or_eq_of_le h3 with h | h
  ·left; rw [hn, ordInt_gt]; have := b1.2 h; omega
  right; rw [hn, ordInt_eq]; have := b2.2 h; omega
 ·subst e;rw [ho, ordInt_eq];have := b2.2 ex;simp only [Bool.false_eq_true, if_false];omega
 subst e;simp only [Bool.false_eq_true, if_false] at ho hn hti;have := b1.2 ex;refine ⟨toIntVal_of hr hti (by omega) (by omega), ?_, ?_⟩
 ·rw [ho, ordInt_lt]; omega
 rw [hn, ordInt_gt]; omega
theorem small_facts (neg : Bool) (mag : Nat) (h0 : mag ≠ 0) (hL : mag.log2 ≤ 52) (g : Nat) (hg : g = Ieee.double.nearest neg mag 0) (i : Int) (hi : i = if neg then -(mag : Int) else (mag : Int)) :
 g < 18446744073709551616 ∧ floatToIntVal .f64 g .i64 = some i ∧ Ieee.double.order g 4890909195324358656 = some .lt ∧ Ieee.double.order g 14114281232179134464 = some .gt := by
 have hlt := Nat.lt_log2_self (n := mag);have hge := Nat.log2_self_le h0;have hp : 0 < 2 ^ (52 - mag.log2) := Nat.pow_pos (by omega);have ha : 4503599627370496 ≤ mag * 2 ^ (52 - mag.log2) := by
  have := Nat.mul_le_mul_right (2 ^ (52 - mag.log2)) hge;rwa [← Nat.pow_add, show mag.log2 + (52 - mag.log2) = 52 by omega, pow52] at this
 have hb : mag * 2 ^ (52 - mag.log2) < 9007199254740992 := by
  have := Nat.mul_lt_mul_of_pos_right hlt hp;rwa [← Nat.pow_add, show mag.log2 + 1 + (52 - mag.log2) = 53 by omega, pow53] at this
 have hm : mag < 9007199254740992 := Nat.lt_of_le_of_lt (Nat.le_mul_of_pos_right _ hp) hb;rw [nearest_small neg mag h0 hL] at hg;have hr := read_small neg mag.log2 _ hL ha hb;rw [← hg] at hr;have hti := toInt_down neg mag (52 - mag.log2) h0 ((mag.log2 : Int) - 52) (by omega);have ho := order63 hr (by omega);have hn := ordern63 hr (by omega);have hbig : 9007199254740992 ≤ 4503599627370496 * 2 ^ (11 - ((mag.log2 : Int) - 52)).toNat := by
  have : 2 ^ 1 ≤ 2 ^ (11 - ((mag.log2 : Int) - 52)).toNat := Nat.pow_le_pow_right (by omega) (by omega);omega
 rw [← hi] at hti;refine ⟨by rw [hg]; exact word_lt64 _ _ (by omega), toIntVal_of hr hti ?_ ?_, ?_, ?_⟩
 ·rw [hi]; split <;> omega
 ·rw [hi]; split <;> omega
 ·rw [ho, ordInt_lt]; split <;> omega
 rw [hn, ordInt_gt]; split <;> omega
theorem floor_cases (i : Int) (h1 : -9223372036854775808 ≤ i) (h2 : i ≤ 9223372036854775807) :
 FloorC i (FloatKind.f64.nearest i) (fl i).1 (fl i).2 (i - (fl i).2) := by
 have hf0 : FloatKind.f64.nearest i = Ieee.double.nearest (decide (i < 0)) i.natAbs 0 := rfl;by_cases hz : i = 0
 ·subst hz;have e1 : fl 0 = (0, 0) := by decide
  have e2 : FloatKind.f64.nearest 0 = 0 := by decide
  rw [e1, e2];refine ⟨rfl, by omega, by simp, by simp, ?_, by decide, .inl (by decide), by simp, .inl rfl⟩;exact toIntVal_of read_zero (by decide) (by simp) (by simp)
 by_cases hmin : i = -9223372036854775808
 ·subst hmin;have e1 : fl (-9223372036854775808) = (14114281232179134464, 0) := by kernel_rfl
  have e2 : FloatKind.f64.nearest (-9223372036854775808) = 14114281232179134464 := by kernel_rfl
  rw [e1, e2];refine ⟨rfl, by omega, by simp, by simp, ?_, by kernel_rfl, .inr (by kernel_rfl), by simp, .inl rfl⟩;exact toIntVal_of read_n63 (by kernel_rfl) (by simp) (by simp)
 have hm0 : i.natAbs ≠ 0 := by omega
 by_cases hL : i.natAbs.log2 ≤ 52
 ·have hsh : sh i.natAbs = 0 := by unfold sh; omega
  have hfl : fl i = (FloatKind.f64.nearest i, 0) := by
   unfold fl;by_cases hi : 0 ≤ i
   ·have e : i.toNat = i.natAbs := by omega
    rw [if_pos hi, e, hsh, hf0];simp only [Nat.pow_zero, Nat.div_one, Nat.mul_one, Nat.mod_one, decide_eq_false (show ¬ i < 0 by omega)]
   rw [if_neg hi, hsh, hf0];simp only [Nat.pow_zero, Nat.div_one, Nat.mul_one, Nat.sub_self, Nat.add_zero, decide_eq_true (show i < 0 by omega)]
  have hs := small_facts (decide (i < 0)) i.natAbs hm0 hL (FloatKind.f64.nearest i) hf0 i (by by_cases hi : i < 0 <;> simp [hi] <;> omega);rw [hfl];exact ⟨rfl, by omega, by simp; omega, by simp, by simpa using hs.2.1, hs.2.2.1, .inl hs.2.2.2, hs.1, .inl rfl⟩
 obtain ⟨d, hd⟩ : ∃ d, i.natAbs.log2 = 52 + d := ⟨i.natAbs.log2 - 52, by omega⟩;have hsh : sh i.natAbs = d := by unfold sh; omega
 have hlt := Nat.lt_log2_self (n := i.natAbs);have hge := Nat.log2_self_le hm0;have hd1 : 1 ≤ d := by omega
 have hd2 : d ≤ 11 := by
  rcases Nat.lt_or_ge d 12 with h | h
  ·omega
  have : 2 ^ 64 ≤ 2 ^ i.natAbs.log2 := Nat.pow_le_pow_right (by omega) (by omega);have e : (2 : Nat) ^ 64 = 18446744073709551616 := by decide
  omega
 have hp : 0 < 2 ^ d := Nat.pow_pos (by omega);obtain ⟨t, ht⟩ : ∃ t, i.natAbs / 2 ^ d = t := ⟨_, rfl⟩;obtain ⟨r, hr⟩ : ∃ r, i.natAbs % 2 ^ d = r := ⟨_, rfl⟩;have hdm : i.natAbs = t * 2 ^ d + r := by rw [← ht, ← hr, Nat.mul_comm]; exact (Nat.div_add_mod _ _).symm
 have hrl : r < 2 ^ d := by rw [← hr]; exact Nat.mod_lt _ hp
 have hp11 : 2 ^ d ≤ 2 ^ 11 := Nat.pow_le_pow_right (by omega) hd2;have e11 : (2 : Nat) ^ 11 = 2048 := by decide
 have ht1 : 4503599627370496 ≤ t := by
  rw [← ht, Nat.le_div_iff_mul_le hp, ← pow52, ← Nat.pow_add, ← hd]; exact hge
 have ht2 : t < 9007199254740992 := by
  rw [← ht, Nat.div_lt_iff_lt_mul hp, ← pow53, ← Nat.pow_add, show 53 + d = i.natAbs.log2 + 1 by omega]; exact hlt
 have hng := fun neg => nearest_great neg i.natAbs d hm0 hd1 hd hd2
 rw [ht] at hng;have hup : up i.natAbs d = true → r ≠ 0 := by
  intro hu hr0;rw [hdm, hr0, Nat.add_zero, up_exact] at hu
  cases hu
 have hd10 : d ≤ 10 := by
  rcases Nat.lt_or_ge d 11 with h | h
  ·omega
  have : 2 ^ 63 ≤ 2 ^ i.natAbs.log2 := Nat.pow_le_pow_right (by omega) (by omega);have e : (2 : Nat) ^ 63 = 9223372036854775808 := by decide
  omega
 have h63 : (t + 1) * 2 ^ d ≤ 9223372036854775808 := by
  have e : (9223372036854775808 : Nat) = 2 ^ (63 - d) * 2 ^ d := by rw [← Nat.pow_add, show 63 - d + d = 63 by omega]
  have h3 : t * 2 ^ d < 9223372036854775808 := by omega
  rw [e] at h3 ⊢;exact Nat.mul_le_mul_right _ (Nat.lt_of_mul_lt_mul_right h3)
 have e1 : (t + 1) * 2 ^ d = t * 2 ^ d + 2 ^ d := Nat.succ_mul _ _;rw [hf0];by_cases hi : 0 ≤ i
 ·have e : i.toNat = i.natAbs := by omega
  have hfl : fl i = (Ieee.double.word false ((d + 1074) * 4503599627370496 + t), r) := by
   unfold fl;rw [if_pos hi, e, hsh, ht, hr, nearest_exact false t d hd1 hd10 ht1 (by omega)]
  rw [hfl, decide_eq_false (show ¬ i < 0 by omega), hng];obtain ⟨⟨s, m, p, a1, a2, a3, a4⟩, v2, -, v4⟩ := val_facts false t d hd10 ht1 (by omega) (by omega) _ rfl _ rfl;have hv := (v4 rfl).2 (by omega);have en : i - (r : Int) = ((t * 2 ^ d : Nat) : Int) := by omega
  refine ⟨rfl, by omega, by simp only; omega, by simp only; omega, by simp only; rw [en]; exact hv.1, hv.2.1, .inl hv.2.2, v2, ?_⟩
  cases hu : up i.natAbs d with
  | false => exact .inl rfl
  | true =>
   refine .inr (.inl ⟨by omega, ?_, ?_⟩)
   ·rw [← word_succ, Bool.toNat_true, Nat.add_assoc]
   obtain ⟨w1, w2, -, w4⟩ := val_facts false (t + 1) d hd10 (by omega) (by omega) h63 _ rfl _ rfl;rw [Bool.toNat_true];refine ⟨?_, w1⟩;rcases Nat.lt_or_eq_of_le h63 with h | h
   ·have hw := (w4 rfl).2 h;exact .inr ⟨hw.2.1, _, hw.1, by omega⟩
   exact .inl ((w4 rfl).1 h)
 obtain ⟨u, hu⟩ : ∃ u, (i.natAbs + (2 ^ d - 1)) / 2 ^ d = u := ⟨_, rfl⟩;have hu2 : u = if r = 0 then t else t + 1 := by
  rw [← hu, hdm, show t * 2 ^ d + r + (2 ^ d - 1) = (r + (2 ^ d - 1)) + t * 2 ^ d by omega, Nat.add_mul_div_right _ _ hp];split
  ·rw [Nat.div_eq_of_lt (by omega)]; omega
  rw [Nat.div_eq_of_lt_le (k := 1) (by omega) (by omega)]; omega
 have hut : t ≤ u ∧ u ≤ t + 1 := by rw [hu2]; split <;> omega
 have hu63 : u * 2 ^ d ≤ 9223372036854775808 := Nat.le_trans (Nat.mul_le_mul_right _ hut.2) h63;have hfl : fl i = (Ieee.double.word true ((d + 1074) * 4503599627370496 + u), u * 2 ^ d - i.natAbs) := by
  unfold fl;rw [if_neg hi, hsh, hu, nearest_exact true u d hd1 hd10 (by omega) (by omega)]
 have hum : i.natAbs ≤ u * 2 ^ d ∧ u * 2 ^ d < i.natAbs + 2048 := by
  rw [hu2]; split
  ·rename_i h; rw [h] at hdm; omega
  omega
 rw [hfl, decide_eq_true (show i < 0 by omega), hng];obtain ⟨v1, v2, v3, -⟩ := val_facts true u d hd10 (by omega) (by omega) hu63 _ rfl _ rfl;have hv := v3 rfl;have en : i - ((u * 2 ^ d - i.natAbs : Nat) : Int) = -((u * 2 ^ d : Nat) : Int) := by omega
 refine ⟨rfl, by simp only; omega, by simp only; omega, by simp only; omega, by simp only; rw [en]; exact hv.1, hv.2.1, hv.2.2, v2, ?_⟩
 cases hup2 : up i.natAbs d with
 | true =>
  left;have := hup hup2;rw [hu2, if_neg this]; rfl
 | false =>
  by_cases hr0 : r = 0
  ·left; rw [hu2, if_pos hr0]; simp only [Bool.toNat_false, Nat.add_zero]
  refine .inr (.inr ⟨by omega, ?_, ?_⟩)
  ·rw [hu2, if_neg hr0]; simp only [Bool.toNat_false, Nat.add_zero]; rw [← word_succ, Nat.add_assoc]
  obtain ⟨w1, w2, w3, -⟩ := val_facts true t d hd10 (by omega) (by omega) (by omega) _ rfl _ rfl;rw [Bool.toNat_false];have hw := w3 rfl;exact ⟨⟨hw.2.1, _, hw.1, by omega⟩, w1⟩
end
section
open Go.RowKit
def bsG (cf : Nat → Int) : Nat → Nat → Nat → Nat
 | 0, i, _ => i
 | g + 1, i, j => if i < j then (if cf ((i + j) / 2) < 0 then bsG cf g ((i + j) / 2 + 1) j else bsG cf g i ((i + j) / 2)) else i
theorem bsG_end {cf : Nat → Int} {g i j : Nat} (h : j ≤ i) : bsG cf g i j = i := by
 cases g with
 | zero => rfl
 | succ g => rw [bsG, if_neg (by omega)]
theorem bsG_up {cf : Nat → Int} {g i j : Nat} (h : i < j) (hc : cf ((i + j) / 2) < 0) : bsG cf (g + 1) i j = bsG cf g ((i + j) / 2 + 1) j := by rw [bsG, if_pos h, if_pos hc]
theorem bsG_down {cf : Nat → Int} {g i j : Nat} (h : i < j) (hc : ¬ cf ((i + j) / 2) < 0) : bsG cf (g + 1) i j = bsG cf g i ((i + j) / 2) := by rw [bsG, if_pos h, if_neg hc]
theorem bsG_fuel {cf : Nat → Int} : ∀ (g g' i j : Nat), j - i ≤ g → j - i ≤ g' → bsG cf g i j = bsG cf g' i j
 | 0, g', i, j, h, h' => by rw [bsG_end (by omega), bsG_end (by omega)]
 | g + 1, 0, i, j, h, h' => by rw [bsG_end (by omega), bsG_end (by omega)]
 | g + 1, g' + 1, i, j, h, h' => by
  by_cases hij : i < j
  ·by_cases hc : cf ((i + j) / 2) < 0
   ·rw [bsG_up hij hc, bsG_up hij hc]; exact bsG_fuel g g' _ _ (by omega) (by omega)
   rw [bsG_down hij hc, bsG_down hij hc]; exact bsG_fuel g g' _ _ (by omega) (by omega)
  rw [bsG_end (by omega), bsG_end (by omega)]
def bsN (cf : Nat → Int) (n : Nat) : Nat := bsG cf n 0 n
theorem bsG_le {cf : Nat → Int} : ∀ (g i j : Nat), i ≤ j → i ≤ bsG cf g i j ∧ bsG cf g i j ≤ j
 | 0, i, j, h => by rw [bsG]; omega
 | g + 1, i, j, h => by
  by_cases hij : i < j
  ·by_cases hc : cf ((i + j) / 2) < 0
   ·rw [bsG_up hij hc]; have := bsG_le (cf := cf) g ((i + j) / 2 + 1) j (by omega); omega
   rw [bsG_down hij hc]; have := bsG_le (cf := cf) g i ((i + j) / 2) (by omega); omega
  rw [bsG_end (by omega)]; omega
theorem bsN_le (cf : Nat → Int) (n : Nat) : bsN cf n ≤ n := (bsG_le n 0 n (by omega)).2
def bsF (cf : Nat → Int) (n : Nat) : Bool := decide (bsN cf n < n) && cf (bsN cf n) == 0
def RowR (w : World) (A : Option Addr) (z n : Nat) (cs : Nat → Array Value) : Prop :=
 ∀ j, j < n → ∃ bk o, A = some ⟨bk, o, none⟩ ∧ bk < w.heap.size ∧ ∀ i v, (cs j)[i]? = some v → w.cell? ⟨bk, o + j * z + i, none⟩ = some v
theorem RowR.grow {w w' : World} {A : Option Addr} {z n : Nat} {cs : Nat → Array Value} (h : RowR w A z n cs) (hg : Grow w w') : RowR w' A z n cs := fun j hj => by
 obtain ⟨bk, o, ha, hb, hc⟩ := h j hj;exact ⟨bk, o, ha, Nat.lt_of_lt_of_le hb hg.size, fun i v hv => (hg.below.cell hb).trans (hc i v hv)⟩
structure Cc where
 nm : ByteArray
 dA : Option Addr
 dn : Nat
 dc : Nat
 xA : Option Addr
 xn : Nat
 xc : Nat
abbrev Cc.cells (c : Cc) : Array Value := #[.string c.nm, .slice c.dA c.dn c.dc, .slice c.xA c.xn c.xc]
structure Ix where
 name : ByteArray
 path : ByteArray
 uniq : Bool
abbrev Ix.cells (c : Ix) : Array Value := #[.string c.name, .string c.path, .bool c.uniq]
end
section
open Go.RowKit
theorem bytesOf_u8V (l : List UInt8) : Lib.bytesOf (l.map fun b => (b.toNat : Int)) = l := by
 induction l with
 | nil => rfl
 | cons x l ih => simp only [Lib.bytesOf, List.map_cons, List.map_map] at ih ⊢; rw [ih]; simp
theorem run_bytes_inV {w : World} {A : Option Addr} {b : List UInt8} (c : Nat) (h : InB w A b) : (Extern.Bytes.bytesOf (.slice A b.length c)).run Tryz.prog w = .ok ⟨b.toArray⟩ w := by
 rcases A with _ | ad
 ·rcases Nat.eq_zero_or_pos b.length with h0 | h0
  ·have : b = [] := List.eq_nil_of_length_eq_zero h0;subst this; rfl
  obtain ⟨_, _, e, _⟩ := h.2 h0; cases e
 have hl := Lib.run_loadBytesX (P := Tryz.prog) w (b.map fun x => (x.toNat : Int)) ad .empty (fun j x hj => by
  rw [List.getElem?_map] at hj
  cases hb : b[j]? with
  | none => rw [hb] at hj; cases hj
  | some y =>
   rw [hb] at hj;have hjl : j < b.length := (List.getElem?_eq_some_iff.1 hb).1;obtain ⟨bk, o, e, hc⟩ := h.2 (by omega);injection e with e;subst e;rw [add_lit]
   cases hj
   exact (hc j _ (by rw [u8s, List.getElem?_map, hb]; rfl)).1)
 rw [List.length_map, bytesOf_u8V] at hl;show (Extern.Bytes.loadBytes ad b.length .empty).run Tryz.prog w = _;rw [hl]; simp
theorem run_cmp_inV {w : World} {A B : Option Addr} {a b : List UInt8} (c d : Nat) (h : InB w A a) (g : InB w B b) :
 (Extern.BytealgCompare.compare #[.slice A a.length c, .slice B b.length d]).run Tryz.prog w = .ok (.int .i64 (Lib.compareBytes a b)) w := by
 change Sem.run Tryz.prog (do pure (goInt (Extern.BytealgCompare.cmp (← Extern.Bytes.bytesOf (.slice A a.length c)) (← Extern.Bytes.bytesOf (.slice B b.length d))))) w = _;simp only [Sem.run_bind, run_bytes_inV c h, run_bytes_inV d g, Sem.run_pure, Result.andThen];rw [Lib.cmp_eq];rfl
theorem balg_anyV (a b : List UInt8) (A B : Option Addr) (c d : Nat) (w : World) (h : InB w A a) (g : InB w B b) :
 Calls Tryz.prog 54 #[.slice A a.length c, .slice B b.length d] w fun e w' => e = .returned (.int .i64 (Lib.compareBytes a b)) ∧ w' = w := by
 go_enter Tryz.func54, Tryz.ntmps54;go_wp2_with fail;rw [run_callFunc_extern (P := Tryz.prog) (f := 99) (fn := Tryz.f99) (by kernel_rfl) (by kernel_rfl) (by kernel_rfl) (by kernel_rfl) (e := Extern.BytealgCompare.compare) (by kernel_rfl), run_cmp_inV c d h g];simp only [Result.andThen];rw [Oper.upon_value];go_wp2_with fail;go_ret;exact ⟨rfl, rfl⟩
end
section
open V
structure Rq where
 do_ : Int
 coll : ByteArray
 index : ByteArray
 path : ByteArray
 unique : Bool
 key : V
 low : V
 high : V
 doc : V
 n : Int
structure Rp where
 e : Int
 n : Int
 docs : List V
 cursor : Int
def Rp.zero : Rp := ⟨0, 0, [], 0⟩
abbrev rqCells (d : Int) (c i p : ByteArray) (u : Bool) (k l h x : Cv) (n : Int) : Array Value :=
 #[.int .i64 d, .string c, .string i, .string p, .bool u, .int .i64 k.k, .int .u64 k.n, .slice k.aB k.nB k.cB, .slice k.aL k.nL k.cL, .slice k.aF k.nF k.cF,
  .int .i64 l.k, .int .u64 l.n, .slice l.aB l.nB l.cB, .slice l.aL l.nL l.cL, .slice l.aF l.nF l.cF, .int .i64 h.k, .int .u64 h.n, .slice h.aB h.nB h.cB, .slice h.aL h.nL h.cL, .slice h.aF h.nF h.cF,
  .int .i64 x.k, .int .u64 x.n, .slice x.aB x.nB x.cB, .slice x.aL x.nL x.cL, .slice x.aF x.nF x.cF, .int .i64 n]
abbrev rpCells (e n : Int) (A : Option Addr) (l c : Nat) (k : Int) : Array Value := #[.int .i64 e, .int .i64 n, .slice A l c, .int .i64 k]
abbrev zeroQ : Array Value := #[.int .i64 0, .string ⟨#[]⟩, .string ⟨#[]⟩, .string ⟨#[]⟩, .bool false, .int .i64 0, .int .u64 0, .slice none 0 0, .slice none 0 0, .slice none 0 0, .int .i64 0, .int .u64 0, .slice none 0 0, .slice none 0 0, .slice none 0 0, .int .i64 0, .int .u64 0, .slice none 0 0, .slice none 0 0, .slice none 0 0, .int .i64 0, .int .u64 0, .slice none 0 0, .slice none 0 0, .slice none 0 0, .int .i64 0]
end
section
open Go.RowKit
theorem pmust_yes (e : Int) (w : World) : Calls Tryz.prog 114 #[.bool true, .int .i64 e] w fun e w' => e = .returned (.tuple #[]) ∧ w = w' := by
 go_enter Tryz.func114, Tryz.ntmps114;go_wp2;go_end0;exact ⟨rfl, rfl⟩
theorem pmust_no (e : Int) (w : World) : Calls Tryz.prog 114 #[.bool false, .int .i64 e] w fun r w' => r = .panicked (thrown e) ∧ w = w' := by
 go_enter Tryz.func114, Tryz.ntmps114;go_wp2;exact ⟨rfl, rfl, rfl⟩
theorem right_yes (w : World) : Calls Tryz.prog 119 #[.int .i64 0] w fun e w' => e = .returned (.tuple #[]) ∧ w = w' := by
 go_enter Tryz.func119, Tryz.ntmps119;go_wp2_with fail;refine (pmust_yes 0 w).mono ?_;rintro e w' ⟨rfl, rfl⟩;go_wp2_with fail;go_end0;exact ⟨rfl, rfl⟩
theorem right_no (e : Int) (he : e ≠ 0) (w : World) : Calls Tryz.prog 119 #[.int .i64 e] w fun r w' => r = .panicked (thrown e) ∧ w = w' := by
 have he2 : (e == 0) = false := by simpa using he
 clear he;go_enter Tryz.func119, Tryz.ntmps119;go_wp2_with fail;refine (pmust_no e w).mono ?_;rintro r w' ⟨rfl, rfl⟩;go_wp2_with fail;exact ⟨rfl, rfl, rfl⟩
end
end Go.Proofs.YtndjopkdbdcmdaaGreatDoor
