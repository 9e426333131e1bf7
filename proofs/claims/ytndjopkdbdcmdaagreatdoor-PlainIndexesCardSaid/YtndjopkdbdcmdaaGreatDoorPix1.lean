/- Part 1 of the proof of pindexes_card. -/
import Derived.Test.YtndjopkdbdcmdaaGreatDoorTk
import Derived.WalkKit
import Derived.WalkSpells
import Derived.WalkLawsBesides
import Derived.Deep.LoopGhost
import Derived.Deep.AppendLies
import Derived.Deep.Draws
import Derived.Deep.AppendSrc
import Derived.Maps.AppendAt
import Derived.Lib.AppendStr
import Derived.Laws.BitsAllLaws
import Derived.Laws.Bits64
import Derived.Lib.ValidU
import Derived.Test.YtndjopkdbdcmdaaGreatDoorRows
import Derived.Laws.IdiomStrings
import Derived.MapKept
import Derived.Lib.BufferRead
import Derived.Deep.QuietTactic
import Derived.BigQuiet
import Derived.Shelf.Unicode.WordAny
import Derived.Deep.DeepBigQuietO
import Derived.Lib.BytesEntry
import Derived.Lib.Bytealg
import Derived.Laws.IdiomCopy
import Derived.Lib.AppendZerosOnto
import Derived.Lib.Overlaps
set_option linter.unusedVariables false
set_option linter.unusedSimpArgs false
set_option maxRecDepth 100000
set_option maxHeartbeats 12800000
namespace Go.Proofs.YtndjopkdbdcmdaaGreatDoor
section
open Go.RowKit
theorem hide {p : Prop} (h : p) : Hid p := h
inductive V where
 | mk (k : Int) (n : Nat) (b : List UInt8) (l : List V) (f : List (ByteArray × V))
namespace V
def k : V → Int | mk k _ _ _ _ => k
def n : V → Nat | mk _ n _ _ _ => n
def b : V → List UInt8 | mk _ _ b _ _ => b
def l : V → List V | mk _ _ _ l _ => l
def f : V → List (ByteArray × V) | mk _ _ _ _ f => f
def zero : V := mk 0 0 [] [] []
theorem sizeOf_l {k : Int} {n : Nat} {b : List UInt8} {l : List V} {f : List (ByteArray × V)} {x : V} (h : x ∈ l) : SizeOf.sizeOf x < SizeOf.sizeOf (mk k n b l f) := by
 have := List.sizeOf_lt_of_mem h;simp only [mk.sizeOf_spec];omega
theorem sizeOf_f {k : Int} {n : Nat} {b : List UInt8} {l : List V} {f : List (ByteArray × V)} {x : ByteArray × V} (h : x ∈ f) : SizeOf.sizeOf x.2 < SizeOf.sizeOf (mk k n b l f) := by
 have := List.sizeOf_lt_of_mem h;obtain ⟨s,y⟩ := x;simp only [mk.sizeOf_spec,Prod.mk.sizeOf_spec] at *;omega
theorem ind {p : V → Prop} (h : ∀ k n b l f,(∀ x ∈ l,p x) → (∀ x ∈ f,p x.2) → p (mk k n b l f)) (v : V) : p v := by
 match v with
 | mk k n b l f => exact h k n b l f (fun x _ => ind h x) (fun x _ => ind h x.2)
termination_by SizeOf.sizeOf v
decreasing_by
 ·exact sizeOf_l ‹_›
 exact sizeOf_f ‹_›
end V
structure Cv where
 k : Int
 n : Int
 aB : Option Addr
 nB : Nat
 cB : Nat
 aL : Option Addr
 nL : Nat
 cL : Nat
 aF : Option Addr
 nF : Nat
 cF : Nat
abbrev Cv.cells (c : Cv) : Array Value := #[.int .i64 c.k,.int .u64 c.n,.slice c.aB c.nB c.cB,.slice c.aL c.nL c.cL,.slice c.aF c.nF c.cF]
abbrev Cv.agg (c : Cv) : Value := .agg c.cells
abbrev Cv.zero : Cv := ⟨0,0,none,0,0,none,0,0,none,0,0⟩
def Reads (C : Addr → Value → Prop) (size : Nat) (A : Option Addr) (n : Nat) (xs : List Value) : Prop :=
 xs.length = n * size ∧ (0 < n → ∃ bk o,A = some ⟨bk,o,none⟩ ∧ ∀ j u,xs[j]? = some u → C ⟨bk,o + j,none⟩ u)
def u8s (b : List UInt8) : List Value := b.map fun x => .int .u8 (x.toNat : Int)
def At5 (C : Addr → Value → Prop) (bk o : Nat) (c : Cv) : Prop :=
 C ⟨bk,o,none⟩ (.int .i64 c.k) ∧ C ⟨bk,o + 1,none⟩ (.int .u64 c.n) ∧ C ⟨bk,o + 2,none⟩ (.slice c.aB c.nB c.cB) ∧ C ⟨bk,o + 3,none⟩ (.slice c.aL c.nL c.cL) ∧ C ⟨bk,o + 4,none⟩ (.slice c.aF c.nF c.cF)
def IsV (C : Addr → Value → Prop) : V → Cv → Prop
 | .mk k n b l f,c => c.k = k ∧ c.n = (n : Int) ∧ c.nB = b.length ∧ c.nL = l.length ∧ c.nF = f.length ∧
  -9223372036854775808 ≤ k ∧ k ≤ 9223372036854775807 ∧ n < 18446744073709551616 ∧
  b.length ≤ c.cB ∧ b.length ≤ 140737488355328 ∧ l.length ≤ c.cL ∧ l.length ≤ 140737488355328 ∧ f.length ≤ c.cF ∧ f.length ≤ 140737488355328 ∧
  Reads C 1 c.aB b.length (u8s b) ∧
  (∀ i (h : i < l.length),∃ bk o x,c.aL = some ⟨bk,o,none⟩ ∧ At5 C bk (o + i * 5) x ∧ IsV C l[i] x) ∧
  (∀ i (h : i < f.length),∃ bk o x,c.aF = some ⟨bk,o,none⟩ ∧ C ⟨bk,o + i * 6,none⟩ (.string f[i].1) ∧ f[i].1.size ≤ 140737488355328 ∧ At5 C bk (o + i * 6 + 1) x ∧ IsV C f[i].2 x)
termination_by v => SizeOf.sizeOf v
decreasing_by
 ·exact V.sizeOf_l (List.getElem_mem _)
 exact V.sizeOf_f (List.getElem_mem _)
def AtW (w : World) (lo hi : Nat) (p : Addr) (u : Value) : Prop := w.cell? p = some u ∧ lo ≤ p.block ∧ p.block < hi
theorem Reads.mono {C C' : Addr → Value → Prop} (h : ∀ p u,C p u → C' p u) {size : Nat} {A : Option Addr} {n : Nat} {xs : List Value} (hr : Reads C size A n xs) : Reads C' size A n xs :=
 ⟨hr.1,fun hn => by obtain ⟨bk,o,e,hc⟩ := hr.2 hn;exact ⟨bk,o,e,fun j u hu => h _ _ (hc j u hu)⟩⟩
theorem At5.mono {C C' : Addr → Value → Prop} (h : ∀ p u,C p u → C' p u) {bk o : Nat} {c : Cv} (hc : At5 C bk o c) : At5 C' bk o c :=
 ⟨h _ _ hc.1,h _ _ hc.2.1,h _ _ hc.2.2.1,h _ _ hc.2.2.2.1,h _ _ hc.2.2.2.2⟩
theorem IsV.mono {C C' : Addr → Value → Prop} (h : ∀ p u,C p u → C' p u) (v : V) : ∀ c,IsV C v c → IsV C' v c := by
 induction v using V.ind with
 | h k n b l f hl hf =>
  intro c hv;rw [IsV] at hv ⊢;obtain ⟨e1,e2,e3,e4,e5,h1,h2,h3,h4,h5,h6,h7,h8,h9,hb,hL,hF⟩ := hv;refine ⟨e1,e2,e3,e4,e5,h1,h2,h3,h4,h5,h6,h7,h8,h9,hb.mono h,fun i hi => ?_,fun i hi => ?_⟩
  ·obtain ⟨bk,o,x,e,k0,kv⟩ := hL i hi;exact ⟨bk,o,x,e,k0.mono h,hl _ (List.getElem_mem _) _ kv⟩
  obtain ⟨bk,o,x,e,ks,kz,k0,kv⟩ := hF i hi;exact ⟨bk,o,x,e,h _ _ ks,kz,k0.mono h,hf _ (List.getElem_mem _) _ kv⟩
theorem AtW.below {w w' : World} {B lo hi lo' hi' : Nat} (hb : Below B w w') (h0 : lo' ≤ lo) (h1 : hi ≤ B) (h2 : hi ≤ hi') (p : Addr) (u : Value) (h : AtW w lo hi p u) : AtW w' lo' hi' p u :=
 ⟨(hb.cell (Nat.lt_of_lt_of_le h.2.2 h1)).trans h.1,Nat.le_trans h0 h.2.1,Nat.lt_of_lt_of_le h.2.2 h2⟩
def Grow (w w' : World) : Prop := Below w.heap.size w w'
theorem Grow.below {w w' : World} (h : Grow w w') : Below w.heap.size w w' := h
theorem Grow.refl (w : World) : Grow w w := Below.refl _ _
theorem Grow.size {w w' : World} (h : Grow w w') : w.heap.size ≤ w'.heap.size := Below.size h
theorem Grow.trans {a b c : World} (h : Grow a b) (k : Grow b c) : Grow a c := Below.trans h (Below.mono k h.size)
theorem Grow.alloc {a w : World} (h : Grow a w) (o : Obj) : Grow a (w.alloc o) := Below.alloc h h.size o
theorem Grow.drew {a w : World} (h : Grow a w) : Grow a w.drew := Below.drew h
theorem Grow.drewN {a w : World} (h : Grow a w) (n : Nat) : Grow a (w.drewN n) := ⟨h.os,h.tape,h.output,h.size,h.block⟩
theorem Grow.setCell {a w : World} (h : Grow a w) {p : Addr} (hp : a.heap.size ≤ p.block) (u : Value) : Grow a (w.setCell p u) := Below.setCell h hp u
theorem Grow.grown {a w w' : World} {row : Option Nat} (h : Grow a w) (hg : w.grownBy w' row) (hr : ∀ k,row = some k → a.heap.size ≤ k) : Grow a w' := Below.grown h hg h.size hr
def In (w : World) (v : V) (c : Cv) : Prop := IsV (AtW w 0 w.heap.size) v c
theorem In.grow {w w' : World} {v : V} {c : Cv} (h : In w v c) (hb : Grow w w') : In w' v c :=
 IsV.mono (AtW.below hb.below (Nat.le_refl _) (Nat.le_refl _) hb.size) v c h
def InB (w : World) (A : Option Addr) (b : List UInt8) : Prop := Reads (AtW w 0 w.heap.size) 1 A b.length (u8s b)
theorem InB.grow {w w' : World} {A : Option Addr} {b : List UInt8} (h : InB w A b) (hb : Grow w w') : InB w' A b :=
 Reads.mono (AtW.below hb.below (Nat.le_refl _) (Nat.le_refl _) hb.size) h
def InU (w : World) (hi : Nat) (v : V) (c : Cv) : Prop := IsV (AtW w 0 hi) v c
theorem InU.below {w w' : World} {B hi hi' : Nat} {v : V} {c : Cv} (h : InU w hi v c) (hb : Below B w w') (h1 : hi ≤ B) (h2 : hi ≤ hi') : InU w' hi' v c :=
 IsV.mono (AtW.below hb (Nat.le_refl _) h1 h2) v c h
theorem In.under {w : World} {v : V} {c : Cv} (h : In w v c) : InU w w.heap.size v c := h
theorem InU.in_ {w : World} {hi : Nat} {v : V} {c : Cv} (h : InU w hi v c) (hz : hi ≤ w.heap.size) : In w v c := IsV.mono (AtW.below (Below.refl hi w) (Nat.le_refl _) (Nat.le_refl _) hz) v c h
theorem InU.open {w : World} {hi : Nat} {k : Int} {n : Nat} {b : List UInt8} {l : List V} {f : List (ByteArray × V)} {c : Cv} (h : InU w hi (.mk k n b l f) c) :
 ∃ (aB aL aF : Option Addr) (cB cL cF : Nat),c = ⟨k,(n : Int),aB,b.length,cB,aL,l.length,cL,aF,f.length,cF⟩ ∧
  -9223372036854775808 ≤ k ∧ k ≤ 9223372036854775807 ∧ n < 18446744073709551616 ∧
  b.length ≤ cB ∧ b.length ≤ 140737488355328 ∧ l.length ≤ cL ∧ l.length ≤ 140737488355328 ∧ f.length ≤ cF ∧ f.length ≤ 140737488355328 ∧ Reads (AtW w 0 hi) 1 aB b.length (u8s b) := by
 unfold InU at h;rw [IsV] at h;obtain ⟨c1,c2,aB,c3,cB,aL,c4,cL,aF,c5,cF⟩ := c;obtain ⟨e1,e2,e3,e4,e5,h1,h2,h3,h4,h5,h6,h7,h8,h9,hb,hL,hF⟩ := h;dsimp only at *;subst e1 e2 e3 e4 e5;exact ⟨aB,aL,aF,cB,cL,cF,rfl,h1,h2,h3,h4,h5,h6,h7,h8,h9,hb⟩
theorem InU.elemL {w : World} {hi : Nat} {k : Int} {n : Nat} {b : List UInt8} {l : List V} {f : List (ByteArray × V)} {c : Cv} (h : InU w hi (.mk k n b l f) c) (i : Nat) (hil : i < l.length) :
 ∃ bk o x,c.aL = some ⟨bk,o,none⟩ ∧ bk < hi ∧ w.cell? ⟨bk,o + i * 5,none⟩ = some (.int .i64 x.k) ∧ w.cell? ⟨bk,o + i * 5 + 1,none⟩ = some (.int .u64 x.n) ∧
  w.cell? ⟨bk,o + i * 5 + 2,none⟩ = some (.slice x.aB x.nB x.cB) ∧ w.cell? ⟨bk,o + i * 5 + 3,none⟩ = some (.slice x.aL x.nL x.cL) ∧
  w.cell? ⟨bk,o + i * 5 + 4,none⟩ = some (.slice x.aF x.nF x.cF) ∧ InU w hi l[i] x := by
 unfold InU at h;rw [IsV] at h;obtain ⟨e1,e2,e3,e4,e5,h1,h2,h3,h4,h5,h6,h7,h8,h9,hb,hL,hF⟩ := h;obtain ⟨bk,o,x,e,⟨k0,k1,k2,k3,k4⟩,kv⟩ := hL i hil;exact ⟨bk,o,x,e,k0.2.2,k0.1,k1.1,k2.1,k3.1,k4.1,kv⟩
theorem InU.elemF {w : World} {hi : Nat} {k : Int} {n : Nat} {b : List UInt8} {l : List V} {f : List (ByteArray × V)} {c : Cv} (h : InU w hi (.mk k n b l f) c) (i : Nat) (hif : i < f.length) :
 ∃ bk o x,c.aF = some ⟨bk,o,none⟩ ∧ bk < hi ∧ w.cell? ⟨bk,o + i * 6,none⟩ = some (.string f[i].1) ∧ f[i].1.size ≤ 140737488355328 ∧
  w.cell? ⟨bk,o + i * 6 + 1,none⟩ = some (.int .i64 x.k) ∧ w.cell? ⟨bk,o + i * 6 + 1 + 1,none⟩ = some (.int .u64 x.n) ∧
  w.cell? ⟨bk,o + i * 6 + 1 + 2,none⟩ = some (.slice x.aB x.nB x.cB) ∧ w.cell? ⟨bk,o + i * 6 + 1 + 3,none⟩ = some (.slice x.aL x.nL x.cL) ∧
  w.cell? ⟨bk,o + i * 6 + 1 + 4,none⟩ = some (.slice x.aF x.nF x.cF) ∧ InU w hi f[i].2 x := by
 unfold InU at h;rw [IsV] at h;obtain ⟨e1,e2,e3,e4,e5,h1,h2,h3,h4,h5,h6,h7,h8,h9,hb,hL,hF⟩ := h;obtain ⟨bk,o,x,e,ks,kz,⟨k0,k1,k2,k3,k4⟩,kv⟩ := hF i hif;exact ⟨bk,o,x,e,ks.2.2,ks.1,kz,k0.1,k1.1,k2.1,k3.1,k4.1,kv⟩
theorem In.open {w : World} {k : Int} {n : Nat} {b : List UInt8} {l : List V} {f : List (ByteArray × V)} {c : Cv} (h : In w (.mk k n b l f) c) :
 ∃ (aB aL aF : Option Addr) (cB cL cF : Nat),c = ⟨k,(n : Int),aB,b.length,cB,aL,l.length,cL,aF,f.length,cF⟩ ∧
  -9223372036854775808 ≤ k ∧ k ≤ 9223372036854775807 ∧ n < 18446744073709551616 ∧
  b.length ≤ cB ∧ b.length ≤ 140737488355328 ∧ l.length ≤ cL ∧ l.length ≤ 140737488355328 ∧ f.length ≤ cF ∧ f.length ≤ 140737488355328 ∧ InB w aB b := InU.open h
theorem In.elemL {w : World} {k : Int} {n : Nat} {b : List UInt8} {l : List V} {f : List (ByteArray × V)} {c : Cv} (h : In w (.mk k n b l f) c) (i : Nat) (hi : i < l.length) :
 ∃ bk o x,c.aL = some ⟨bk,o,none⟩ ∧ bk < w.heap.size ∧ w.cell? ⟨bk,o + i * 5,none⟩ = some (.int .i64 x.k) ∧ w.cell? ⟨bk,o + i * 5 + 1,none⟩ = some (.int .u64 x.n) ∧
  w.cell? ⟨bk,o + i * 5 + 2,none⟩ = some (.slice x.aB x.nB x.cB) ∧ w.cell? ⟨bk,o + i * 5 + 3,none⟩ = some (.slice x.aL x.nL x.cL) ∧
  w.cell? ⟨bk,o + i * 5 + 4,none⟩ = some (.slice x.aF x.nF x.cF) ∧ In w l[i] x := InU.elemL h i hi
theorem In.elemF {w : World} {k : Int} {n : Nat} {b : List UInt8} {l : List V} {f : List (ByteArray × V)} {c : Cv} (h : In w (.mk k n b l f) c) (i : Nat) (hi : i < f.length) :
 ∃ bk o x,c.aF = some ⟨bk,o,none⟩ ∧ bk < w.heap.size ∧ w.cell? ⟨bk,o + i * 6,none⟩ = some (.string f[i].1) ∧ f[i].1.size ≤ 140737488355328 ∧
  w.cell? ⟨bk,o + i * 6 + 1,none⟩ = some (.int .i64 x.k) ∧ w.cell? ⟨bk,o + i * 6 + 1 + 1,none⟩ = some (.int .u64 x.n) ∧
  w.cell? ⟨bk,o + i * 6 + 1 + 2,none⟩ = some (.slice x.aB x.nB x.cB) ∧ w.cell? ⟨bk,o + i * 6 + 1 + 3,none⟩ = some (.slice x.aL x.nL x.cL) ∧
  w.cell? ⟨bk,o + i * 6 + 1 + 4,none⟩ = some (.slice x.aF x.nF x.cF) ∧ In w f[i].2 x := InU.elemF h i hi
def Blk (w : World) (g : Nat) (t : TypeId) (cs : Array Value) : Prop := w.heap[g]? = some (.cells cs t (0,0))
theorem Blk.lt {w : World} {g : Nat} {t : TypeId} {cs : Array Value} (h : Blk w g t cs) : g < w.heap.size := by
 rcases Nat.lt_or_ge g w.heap.size with hlt | hge
 ·exact hlt
 unfold Blk at h;rw [Array.getElem?_eq_none hge] at h;cases h
theorem Blk.grow {w w' : World} {g : Nat} {t : TypeId} {cs : Array Value} (h : Blk w g t cs) (hb : Grow w w') : Blk w' g t cs := (hb.below.block g h.lt).trans h
theorem Blk.new (w : World) (t : TypeId) (cs : Array Value) : Blk (w.alloc (.cells cs t)) w.heap.size t cs := heap_alloc_new w _
theorem Blk.new' {w : World} {g : Nat} (h : g = w.heap.size) (t : TypeId) (cs : Array Value) : Blk (w.alloc (.cells cs t)) g t cs := h ▸ Blk.new w t cs
theorem Blk.cell {w : World} {g : Nat} {t : TypeId} {cs : Array Value} (h : Blk w g t cs) (i : Nat) : w.cell? ⟨g,i,none⟩ = cs[i]? := cell_of_row w g i cs t (0,0) h
theorem Blk.frozen {w : World} {g : Nat} {t : TypeId} {cs : Array Value} (h : Blk w g t cs) (i : Nat) : w.frozen? ⟨g,i,none⟩ = false := by
 unfold Blk at h;simp [World.frozen?,h]
theorem Blk.set_ {w : World} {g : Nat} {t : TypeId} {cs : Array Value} (h : Blk w g t cs) (i : Nat) (u : Value) : Blk (w.setCell ⟨g,i,none⟩ u) g t (cs.setIfInBounds i u) := by
 unfold Blk at h ⊢;simp [World.setCell,Array.getElem?_modify,h]
theorem Blk.far {w : World} {g : Nat} {t : TypeId} {cs : Array Value} (h : Blk w g t cs) {p : Addr} (hp : g ≠ p.block) (u : Value) : Blk (w.setCell p u) g t cs := (Below.heap_setCell w p u g hp).trans h
theorem Blk.drew {w : World} {g : Nat} {t : TypeId} {cs : Array Value} (h : Blk w g t cs) : Blk w.drew g t cs := h
theorem Blk.drewN {w : World} {g : Nat} {t : TypeId} {cs : Array Value} (h : Blk w g t cs) (n : Nat) : Blk (w.drewN n) g t cs := h
theorem Blk.alloc {w : World} {g : Nat} {t : TypeId} {cs : Array Value} (h : Blk w g t cs) (o : Obj) : Blk (w.alloc o) g t cs := h.grow ((Grow.refl w).alloc o)
end
section
open Go.RowKit
theorem u8s_length (b : List UInt8) : (u8s b).length = b.length := by simp [u8s]
theorem u8s_append (a b : List UInt8) : u8s (a ++ b) = u8s a ++ u8s b := by simp [u8s]
theorem u8s_one (b : List UInt8) : ∀ u ∈ u8s b,u.oneCell' = true := by
 intro u hu;obtain ⟨x,_,rfl⟩ := List.mem_map.1 hu;rfl
theorem u8s_get (b : List UInt8) (j : Nat) (h : j < b.length) : (u8s b)[j]? = some (.int .u8 (b[j].toNat : Int)) := by simp [u8s,h]
theorem add_lit (b o j : Nat) : (⟨b,o,none⟩ : Addr).add j = ⟨b,o + j,none⟩ := by unfold Addr.add;split <;> simp_all
theorem take_set_succ {α : Type} (v : α) : ∀ (l : List α) (o : Nat),o < l.length → (l.set o v).take (o + 1) = l.take o ++ [v]
 | [],o,h => by simp at h
 | x :: l,0,_ => by simp
 | x :: l,o + 1,h => by
  simp only [List.set_cons_succ,List.take_succ_cons,List.cons_append];rw [take_set_succ v l o (by simpa using h)]
theorem drop_set_lt {α : Type} (v : α) : ∀ (l : List α) (o k : Nat),o < k → (l.set o v).drop k = l.drop k
 | [],_,_,_ => by simp
 | x :: l,0,k + 1,_ => by simp
 | x :: l,o + 1,k + 1,h => by
  simp only [List.set_cons_succ,List.drop_succ_cons];exact drop_set_lt v l o k (by omega)
theorem setCells_block (g : Nat) (e : TypeId) : ∀ (vs : List Value) (w : World) (o : Nat) (cur : Array Value),w.heap[g]? = some (.cells cur e (0,0)) → o + vs.length ≤ cur.size →
 (w.setCells g o vs).heap[g]? = some (.cells (cur.toList.take o ++ vs ++ cur.toList.drop (o + vs.length)).toArray e (0,0))
 | [],w,o,cur,hg,ho => by
  simp only [World.setCells,List.append_nil,List.length_nil,Nat.add_zero,List.take_append_drop,Array.toArray_toList];exact hg
 | v :: r,w,o,cur,hg,ho => by
  simp only [World.setCells];have h1 : (w.setCell ⟨g,o,none⟩ v).heap[g]? = some (.cells (cur.setIfInBounds o v) e (0,0)) := by
   simp [World.setCell,Array.getElem?_modify,hg]
  simp only [List.length_cons] at ho;rw [setCells_block g e r _ (o + 1) _ h1 (by simp;omega)];have hl : o < cur.toList.length := by simp;omega
  simp only [Array.toList_setIfInBounds,take_set_succ v _ _ hl,drop_set_lt v _ o (o + 1 + r.length) (by omega),List.append_assoc,List.cons_append,List.nil_append,List.length_cons];rw [show o + 1 + r.length = o + (r.length + 1) from by omega]
theorem setCells_grown (g : Nat) (R : Option Nat) (hR : R = some g) : ∀ (vs : List Value) (w : World) (o : Nat),w.grownBy (w.setCells g o vs) R
 | [],w,_ => World.grownBy.refl w _
 | v :: r,w,o => by
  subst hR;have h1 : w.grownBy (w.setCell ⟨g,o,none⟩ v) (some g) := ⟨rfl,rfl,rfl,by simp [World.setCell],fun k _ hk => Below.heap_setCell w ⟨g,o,none⟩ v k (fun e => hk (by rw [e]))⟩;exact World.grownBy.trans h1 (setCells_grown g _ rfl r _ (o + 1))
section
variable {P : Program} {w : World}
theorem Src.ofReads {size : Nat} {tx e' : TypeId} (hk : P.underlying tx = some (.slice e')) {lo hi : Nat} {A : Option Addr} {n c : Nat} {news : List Value} (h : Reads (AtW w lo hi) size A n news)
 (h1 : ∀ u ∈ news,u.oneCell' = true) : Src P size tx (.slice A n c) n news w := by
 rcases Nat.eq_zero_or_pos n with h0 | h0
 ·subst h0;have hn : news = [] := List.eq_nil_of_length_eq_zero (by simpa using h.1);subst hn;rcases A with _ | ad
  ·exact Src.ofNil w hk c
  exact Src.ofSlice w hk ad 0 c [] (by simp) (fun j u hu => by simp at hu) h1
 obtain ⟨bk,o,rfl,hc⟩ := h.2 h0;exact Src.ofSlice w hk ⟨bk,o,none⟩ n c news h.1 (fun j u hu => by rw [add_lit];exact (hc j u hu).1) h1
theorem fits_wide {need old : Nat} (h : old < need) (hb : need ≤ 140737488400000) : Builtin.nextslicecap need old * 1 ≤ 281474976710656 := by
 rw [Nat.mul_one];unfold Builtin.nextslicecap;split
 ·omega
 split
 ·omega
 rw [growBy_four]
 repeat' split
 all_goals omega
theorem run_append_fit (base : Nat) (t tx ty e : TypeId) (i : TypeInfo) (z : Value) (size bytes : Nat) (ht : P.underlying t = some (.slice e)) (hi : P.info? e = some i) (hz : i.zero = some z)
 (hsize : i.size = size) (hby : i.bytes = bytes) (hzs : z.cells.size = size)
 (v : Value) (n : Nat) (xs : List Value) (hown : w.ownsRow base e size v n xs) (x : Value) (m : Nat) (news : List Value) (hs : Src P size tx x m news w)
 (hfit : ∀ old,old < n + m → Builtin.nextslicecap (n + m) old * bytes ≤ 281474976710656) (h63 : n + m ≤ maxLen) (hbase : base ≤ w.heap.size) :
 ∃ A c w',(Builtin.append_ #[t,tx] ty #[v,x]).run P w = .ok (.slice A (n + m) c) w' ∧ w'.ownsRow base e size (.slice A (n + m) c) (n + m) (xs ++ news) ∧ w.grownBy w' v.ownBlock ∧
  (Value.ownBlock (.slice A (n + m) c) = v.ownBlock ∨ Value.ownBlock (.slice A (n + m) c) = some w.heap.size) := by
 subst hsize;subst hby
 have hsmall : n + m ≤ 9223372036854775807 := by simp only [maxLen] at h63;omega
 have hlen : (xs ++ news).length = (n + m) * i.size := by rw [List.length_append,hown.1,hs.newsLen,Nat.add_mul]
 have grown : ∀ (old : Nat),old < n + m → ∀ (row : Option Nat),
  (w.drew.alloc (.cells ((xs ++ news).toArray ++ Builtin.zeroCells z.cells (grownCap w (n + m) old e - (n + m))) e)).ownsRow base e i.size
   (.slice (some ⟨w.heap.size,0,none⟩) (n + m) (grownCap w (n + m) old e)) (n + m) (xs ++ news) ∧
  w.grownBy (w.drew.alloc (.cells ((xs ++ news).toArray ++ Builtin.zeroCells z.cells (grownCap w (n + m) old e - (n + m))) e)) row := by
  intro old ho row;have hge := grownCap_ge w (n + m) old e;have hcm : grownCap w (n + m) old e ≤ maxLen := grownCap_le_maxLen w (n + m) old e h63;refine ⟨⟨hlen,.inr ⟨w.heap.size,_,_,rfl,hbase,heap_alloc_new w.drew _,hge,hcm,?_,?_⟩⟩,⟨rfl,rfl,rfl,by simp,fun k hk _ => Below.heap_alloc w.drew _ k hk⟩⟩
  ·simp only [Array.size_append,List.size_toArray,size_zeroCells,hzs,hlen,← Nat.add_mul];congr 1;omega
  simp only [Array.toList_append,List.append_assoc];rw [← List.append_assoc,← hlen];exact List.take_left
 rcases hown.2 with ⟨rfl,rfl⟩ | ⟨g,cap,cur,rfl,hbg,hg,hnc,hcm,hcs,htake⟩
 ·have hx : xs = [] := List.eq_nil_of_length_eq_zero (by simpa using hown.1);subst hx;by_cases hm : m = 0
  ·subst hm;have hn : news = [] := List.eq_nil_of_length_eq_zero (by simpa using hs.newsLen);subst hn;refine ⟨none,0,w,?_,World.ownsRow_nil w base e _,⟨rfl,rfl,rfl,Nat.le_refl _,fun _ _ _ => rfl⟩,.inl rfl⟩;have hc := hs.cells;rcases hs.kind with ⟨e',hk⟩ | hk <;> simp [Builtin.append_,run_underlying ht,run_underlying hk,sizeOf,typeInfo,hi,hs.len,hc]
  have hr := run_append_grow_src (P := P) w t tx ty e i z ht hi hz none 0 0 [] (run_firstCells_none w.drew i.size 0 0 0) x m news hs (by omega) (by omega) (hfit _ (by omega));have hgr := grown 0 (by omega) (Value.ownBlock (.slice none 0 0));exact ⟨_,_,_,hr,hgr.1,hgr.2,.inr rfl⟩
 by_cases hroom : n + m ≤ cap
 ·have hcell : ∀ j,w.cell? ⟨g,j,none⟩ = cur[j]? := fun j => cell_of_row w g j cur e (0,0) hg
  have hin : ∀ j,j < news.length → n * i.size + j < cur.size := fun j hj => by
   rw [hcs];rw [hs.newsLen] at hj;have : (n + m) * i.size ≤ cap * i.size := Nat.mul_le_mul_right _ hroom;rw [Nat.add_mul] at this;omega
  have hr := run_append_room_src (P := P) w t tx ty e i ht hi g 0 n cap x m news hs hroom
   (fun j hj => by rw [hcell,Nat.zero_add];simp [hin j hj]) (fun j hj => by simp [World.frozen?,hg])
  rw [Nat.zero_add] at hr;refine ⟨_,_,_,hr,⟨hlen,.inr ⟨g,cap,(cur.toList.take (n * i.size) ++ news ++ cur.toList.drop (n * i.size + news.length)).toArray,rfl,hbg,setCells_block g e news w (n * i.size) cur hg ?_,hroom,hcm,?_,?_⟩⟩,?_,.inl rfl⟩
  ·have : (n + m) * i.size ≤ cap * i.size := Nat.mul_le_mul_right _ hroom;rw [Nat.add_mul] at this;rw [hcs,hs.newsLen];omega
  ·have : (n + m) * i.size ≤ cap * i.size := Nat.mul_le_mul_right _ hroom;rw [Nat.add_mul] at this;simp only [List.size_toArray,List.length_append,List.length_take,List.length_drop,Array.length_toList,hs.newsLen,hcs];omega
  ·rw [htake,← hlen];exact List.take_left
  exact setCells_grown g _ rfl news w (n * i.size)
 have holds : ∀ j u,xs[j]? = some u → w.cell? ((⟨g,0,none⟩ : Addr).add j) = some u := hown.cells (g := g) rfl;have hr := run_append_grow_src (P := P) w t tx ty e i z ht hi hz (some ⟨g,0,none⟩) n cap xs (run_firstCells_some w.drew i.size n ⟨g,0,none⟩ n cap xs hown.1 (by simpa using holds)) x m news hs (by omega) (by omega) (hfit _ (by omega));have hgr := grown cap (by omega) (Value.ownBlock (.slice (some ⟨g,0,none⟩) n cap));exact ⟨_,_,_,hr,hgr.1,hgr.2,.inr rfl⟩
theorem wp_append_fit {o : Oper} {a : Act} {K : Act → World → Prop} {Q : Exit → Act → World → Prop} (s x : Operand) (t tx : TypeId)
 (ho : o.op = .call { callee := .builtin .append,args := #[s,x],argTypes := #[t,tx] })
 (base : Nat) (e : TypeId) (i : TypeInfo) (z : Value) (size bytes : Nat) (ht : P.underlying t = some (.slice e)) (hi : P.info? e = some i) (hz : i.zero = some z)
 (hsize : i.size = size) (hby : i.bytes = bytes) (hzs : z.cells.size = size)
 (v : Value) (n : Nat) (xs : List Value) (hv : a.eval s = v) (hown : w.ownsRow base e size v n xs) (u : Value) (m : Nat) (news : List Value) (hx : a.eval x = u) (hs : Src P size tx u m news w)
 (hfit : ∀ old,old < n + m → Builtin.nextslicecap (n + m) old * bytes ≤ 281474976710656) (h63 : n + m ≤ maxLen) (hbase : base ≤ w.heap.size)
 (h : ∀ A c w',w'.ownsRow base e size (.slice A (n + m) c) (n + m) (xs ++ news) → w.grownBy w' v.ownBlock →
  (Value.ownBlock (.slice A (n + m) c) = v.ownBlock ∨ Value.ownBlock (.slice A (n + m) c) = some w.heap.size) → K (a.put o.dst (.slice A (n + m) c)) w') : o.wp P a w K Q := by
 obtain ⟨A,c,w',hr,h2,h3,h4⟩ := run_append_fit (P := P) (w := w) base t tx o.type e i z size bytes ht hi hz hsize hby hzs v n xs hown u m news hs hfit h63 hbase;unfold Oper.wp execOp;simp only [ho,resolve,invoke,builtin,Sem.run_bind,Sem.run_pure,Result.andThen_ok,List.map_toArray,List.map_cons,List.map_nil,hv,hx,hr];exact h A c w' h2 h3 h4
theorem wpList_append_fit {ops : Array Oper} {rest : List Oper} {o : Oper} {a : Act} {Q : Exit → Act → World → Prop} (hgd : o.guard = none) (s x : Operand) (t tx : TypeId)
 (ho : o.op = .call { callee := .builtin .append,args := #[s,x],argTypes := #[t,tx] })
 (base : Nat) (e : TypeId) (i : TypeInfo) (z : Value) (size bytes : Nat) (ht : P.underlying t = some (.slice e)) (hi : P.info? e = some i) (hz : i.zero = some z)
 (hsize : i.size = size) (hby : i.bytes = bytes) (hzs : z.cells.size = size)
 (v : Value) (n : Nat) (xs : List Value) (hv : a.eval s = v) (hown : w.ownsRow base e size v n xs) (u : Value) (m : Nat) (news : List Value) (hx : a.eval x = u) (hs : Src P size tx u m news w)
 (hfit : ∀ old,old < n + m → Builtin.nextslicecap (n + m) old * bytes ≤ 281474976710656) (h63 : n + m ≤ maxLen) (hbase : base ≤ w.heap.size)
 (h : ∀ A c w',w'.ownsRow base e size (.slice A (n + m) c) (n + m) (xs ++ news) → w.grownBy w' v.ownBlock →
  (Value.ownBlock (.slice A (n + m) c) = v.ownBlock ∨ Value.ownBlock (.slice A (n + m) c) = some w.heap.size) → wpList P ops Q rest (a.put o.dst (.slice A (n + m) c)) w') : wpList P ops Q (o :: rest) a w :=
 wpList_plain hgd fun _ hK => wp_append_fit s x t tx ho base e i z size bytes ht hi hz hsize hby hzs v n xs hv hown u m news hx hs hfit h63 hbase fun A c w' h2 h3 h4 => hK _ _ (h A c w' h2 h3 h4)
theorem step_append_fit {ops : Array Oper} {o : Oper} {a : Act} {K : Act → World → Prop} {Q : Exit → Act → World → Prop} {E : Prop} (hgd : o.guard = none) (s x : Operand) (t tx : TypeId)
 (ho : o.op = .call { callee := .builtin .append,args := #[s,x],argTypes := #[t,tx] })
 (base : Nat) (e : TypeId) (i : TypeInfo) (z : Value) (size bytes : Nat) (ht : P.underlying t = some (.slice e)) (hi : P.info? e = some i) (hz : i.zero = some z)
 (hsize : i.size = size) (hby : i.bytes = bytes) (hzs : z.cells.size = size)
 (v : Value) (n : Nat) (xs : List Value) (hv : a.eval s = v) (hown : w.ownsRow base e size v n xs) (u : Value) (m : Nat) (news : List Value) (hx : a.eval x = u) (hs : Src P size tx u m news w)
 (hfit : ∀ old,old < n + m → Builtin.nextslicecap (n + m) old * bytes ≤ 281474976710656) (h63 : n + m ≤ maxLen) (hbase : base ≤ w.heap.size)
 (h : ∀ A c w',w'.ownsRow base e size (.slice A (n + m) c) (n + m) (xs ++ news) → w.grownBy w' v.ownBlock →
  (Value.ownBlock (.slice A (n + m) c) = v.ownBlock ∨ Value.ownBlock (.slice A (n + m) c) = some w.heap.size) → K (a.put o.dst (.slice A (n + m) c)) w') :
 if Region.wanted o (yielded ops a.tmps) = true then Oper.wp P o a w K Q else E := by
 have hw : Region.wanted o (yielded ops a.tmps) = true := by simp [Region.wanted,hgd]
 rw [if_pos hw];exact wp_append_fit s x t tx ho base e i z size bytes ht hi hz hsize hby hzs v n xs hv hown u m news hx hs hfit h63 hbase h
theorem wpList_append_src {ops : Array Oper} {rest : List Oper} {o : Oper} {a : Act} {Q : Exit → Act → World → Prop} (hgd : o.guard = none) (s x : Operand) (t tx : TypeId)
 (ho : o.op = .call { callee := .builtin .append,args := #[s,x],argTypes := #[t,tx] })
 (base : Nat) (e : TypeId) (i : TypeInfo) (z : Value) (size bytes : Nat) (ht : P.underlying t = some (.slice e)) (hi : P.info? e = some i) (hz : i.zero = some z)
 (hsize : i.size = size) (hby : i.bytes = bytes) (hzs : z.cells.size = size)
 (v : Value) (n : Nat) (xs : List Value) (hv : a.eval s = v) (hown : w.ownsRow base e size v n xs) (u : Value) (m : Nat) (news : List Value) (hx : a.eval x = u) (hs : Src P size tx u m news w)
 (hbytes : (n + m) * bytes ≤ 140737488355328) (h63 : n + m ≤ maxLen) (hbase : base ≤ w.heap.size)
 (h : ∀ A c w',w'.ownsRow base e size (.slice A (n + m) c) (n + m) (xs ++ news) → w.grownBy w' v.ownBlock →
  (Value.ownBlock (.slice A (n + m) c) = v.ownBlock ∨ Value.ownBlock (.slice A (n + m) c) = some w.heap.size) → wpList P ops Q rest (a.put o.dst (.slice A (n + m) c)) w') : wpList P ops Q (o :: rest) a w :=
 wpList_append_fit hgd s x t tx ho base e i z size bytes ht hi hz hsize hby hzs v n xs hv hown u m news hx hs (fun _ ho => growslice_fits ho hbytes) h63 hbase h
theorem step_append_src {ops : Array Oper} {o : Oper} {a : Act} {K : Act → World → Prop} {Q : Exit → Act → World → Prop} {E : Prop} (hgd : o.guard = none) (s x : Operand) (t tx : TypeId)
 (ho : o.op = .call { callee := .builtin .append,args := #[s,x],argTypes := #[t,tx] })
 (base : Nat) (e : TypeId) (i : TypeInfo) (z : Value) (size bytes : Nat) (ht : P.underlying t = some (.slice e)) (hi : P.info? e = some i) (hz : i.zero = some z)
 (hsize : i.size = size) (hby : i.bytes = bytes) (hzs : z.cells.size = size)
 (v : Value) (n : Nat) (xs : List Value) (hv : a.eval s = v) (hown : w.ownsRow base e size v n xs) (u : Value) (m : Nat) (news : List Value) (hx : a.eval x = u) (hs : Src P size tx u m news w)
 (hbytes : (n + m) * bytes ≤ 140737488355328) (h63 : n + m ≤ maxLen) (hbase : base ≤ w.heap.size)
 (h : ∀ A c w',w'.ownsRow base e size (.slice A (n + m) c) (n + m) (xs ++ news) → w.grownBy w' v.ownBlock →
  (Value.ownBlock (.slice A (n + m) c) = v.ownBlock ∨ Value.ownBlock (.slice A (n + m) c) = some w.heap.size) → K (a.put o.dst (.slice A (n + m) c)) w') :
 if Region.wanted o (yielded ops a.tmps) = true then Oper.wp P o a w K Q else E :=
 step_append_fit hgd s x t tx ho base e i z size bytes ht hi hz hsize hby hzs v n xs hv hown u m news hx hs (fun _ ho => growslice_fits ho hbytes) h63 hbase h
end
end
section
open Go.RowKit
def le : List UInt8 → Nat
 | [] => 0
 | x :: r => x.toNat + 256 * le r
def toLe (k n : Nat) : List UInt8 := (List.range k).map fun i => UInt8.ofNat (n / 256 ^ i)
theorem toLe_length (k n : Nat) : (toLe k n).length = k := by simp [toLe]
theorem toLe_succ (k n : Nat) : toLe (k + 1) n = toLe k n ++ [UInt8.ofNat (n / 256 ^ k)] := by simp [toLe,List.range_succ]
theorem take_snoc {α : Type} (l : List α) (k : Nat) (h : k < l.length) : l.take (k + 1) = l.take k ++ [l[k]] := List.take_succ_eq_append_getElem h
theorem pow256 (j : Nat) : (2 : Nat) ^ (8 * j) = 256 ^ j := by rw [Nat.pow_mul]
theorem byte_of (n j : Nat) : ((UInt8.ofNat (n / 256 ^ j)).toNat : Int) = ((n / 256 ^ j % 256 : Nat) : Int) := by rw [UInt8.toNat_ofNat']
theorem foldl_max_take {α : Type} (g : α → Nat) (l : List α) (m k : Nat) (h : k < l.length) : ((l.take (k + 1)).map g).foldl max m = max (((l.take k).map g).foldl max m) (g l[k]) := by
 rw [take_snoc l k h,List.map_append,List.foldl_append];rfl
theorem foldl_max_le (l : List Nat) (m k : Nat) : l.foldl max m ≤ k ↔ m ≤ k ∧ ∀ x ∈ l,x ≤ k := by
 induction l generalizing m with
 | nil => simp
 | cons y l ih =>
  simp only [List.foldl_cons,ih,List.mem_cons,forall_eq_or_imp];constructor
  ·rintro ⟨h1,h2⟩;exact ⟨by omega,by omega,h2⟩
  rintro ⟨h1,h2,h3⟩;exact ⟨by omega,h3⟩
theorem flat_take {α : Type} (g : α → List UInt8) (l : List α) (j : Nat) (h : j < l.length) : ((l.take (j + 1)).map g).flatten = ((l.take j).map g).flatten ++ g l[j] := by
 rw [take_snoc l j h,List.map_append,List.flatten_append];simp only [List.map_cons,List.map_nil,List.flatten_cons,List.flatten_nil,List.append_nil]
theorem flat_le {α : Type} (g : α → List UInt8) (l : List α) (j : Nat) : ((l.take j).map g).flatten.length ≤ (l.map g).flatten.length := by
 have : l.map g = (l.take j).map g ++ (l.drop j).map g := by rw [← List.map_append,List.take_append_drop]
 rw [this,List.flatten_append,List.length_append];omega
theorem flat_mem {α : Type} (g : α → List UInt8) (l : List α) (x : α) (h : x ∈ l) : (g x).length ≤ (l.map g).flatten.length := by
 obtain ⟨a,b,rfl⟩ := List.append_of_mem h;simp;omega
theorem attach_all {α : Type} (l : List α) (p : α → Bool) : (l.attach.all fun x => p x.1) = l.all p := by rw [Bool.eq_iff_iff];simp
namespace V
def count : V → Nat
 | mk _ _ _ l f => 1 + (l.attach.map fun x => count x.1).sum + (f.attach.map fun x => count x.1.2).sum
termination_by v => SizeOf.sizeOf v
decreasing_by
 ·exact sizeOf_l x.2
 exact sizeOf_f x.2
theorem count_mk (k : Int) (n : Nat) (b : List UInt8) (l : List V) (f : List (ByteArray × V)) : (mk k n b l f).count = 1 + (l.map count).sum + (f.map fun x => x.2.count).sum := by
 rw [count];simp only [List.map_attach_eq_pmap,List.pmap_eq_map]
def most : V → Nat
 | mk _ _ _ l f => (f.attach.map fun x => most x.1.2).foldl max ((l.attach.map fun x => most x.1).foldl max (max l.length f.length))
termination_by v => SizeOf.sizeOf v
decreasing_by
 ·exact sizeOf_l x.2
 exact sizeOf_f x.2
theorem most_mk (k : Int) (n : Nat) (b : List UInt8) (l : List V) (f : List (ByteArray × V)) : (mk k n b l f).most = (f.map fun x => x.2.most).foldl max ((l.map most).foldl max (max l.length f.length)) := by
 rw [most];simp only [List.map_attach_eq_pmap,List.pmap_eq_map]
def depth : V → Nat
 | mk k _ _ l f => (if k = 7 ∨ k = 8 then 1 else 0) + (f.attach.map fun x => depth x.1.2).foldl max ((l.attach.map fun x => depth x.1).foldl max 0)
termination_by v => SizeOf.sizeOf v
decreasing_by
 ·exact sizeOf_l x.2
 exact sizeOf_f x.2
theorem depth_mk (k : Int) (n : Nat) (b : List UInt8) (l : List V) (f : List (ByteArray × V)) : (mk k n b l f).depth = (if k = 7 ∨ k = 8 then 1 else 0) + (f.map fun x => x.2.depth).foldl max ((l.map depth).foldl max 0) := by
 rw [depth];simp only [List.map_attach_eq_pmap,List.pmap_eq_map]
def item (s : ByteArray) (r : List UInt8) : List UInt8 := UInt8.ofNat s.size :: (s.data.toList ++ r)
def bytes : V → List UInt8
 | mk k n b l f => UInt8.ofNat k.toNat ::
  (if k = 2 then [UInt8.ofNat n] else if k = 3 ∨ k = 4 then toLe 8 n else if k = 5 ∨ k = 6 then toLe 2 b.length ++ b
   else if k = 7 then UInt8.ofNat l.length :: (l.attach.map fun x => bytes x.1).flatten
   else if k = 8 then UInt8.ofNat f.length :: (f.attach.map fun x => item x.1.1 (bytes x.1.2)).flatten else [])
termination_by v => SizeOf.sizeOf v
decreasing_by
 ·exact sizeOf_l x.2
 exact sizeOf_f x.2
theorem bytes_mk (k : Int) (n : Nat) (b : List UInt8) (l : List V) (f : List (ByteArray × V)) : (mk k n b l f).bytes = UInt8.ofNat k.toNat ::
 (if k = 2 then [UInt8.ofNat n] else if k = 3 ∨ k = 4 then toLe 8 n else if k = 5 ∨ k = 6 then toLe 2 b.length ++ b
  else if k = 7 then UInt8.ofNat l.length :: (l.map bytes).flatten
  else if k = 8 then UInt8.ofNat f.length :: (f.map fun x => item x.1 x.2.bytes).flatten else []) := by
 rw [bytes];simp only [List.map_attach_eq_pmap,List.pmap_eq_map]
def name (s : ByteArray) : Bool := decide (1 ≤ s.size ∧ s.size ≤ 32) && s.data.toList.all (fun c => decide (32 ≤ c.toNat ∧ c.toNat ≠ 46)) && Lib.validD s.data.toList
def own (k : Int) (n : Nat) (b : List UInt8) (nl nf : Nat) : Bool :=
 decide (1 ≤ k ∧ k ≤ 8) && decide (k = 2 ∨ k = 3 ∨ k = 4 ∨ n = 0) && decide (k = 2 → n ≤ 1) && decide (k = 5 ∨ k = 6 ∨ b.length = 0) && (decide (k ≠ 5) || Lib.validD b) && decide (k = 7 ∨ nl = 0) && decide (k = 8 ∨ nf = 0)
def formed : V → Bool
 | mk k n b l f => own k n b l.length f.length && (l.attach.all fun x => formed x.1) && (f.attach.all fun x => name x.1.1 && formed x.1.2) && decide ((f.map Prod.fst).Nodup)
termination_by v => SizeOf.sizeOf v
decreasing_by
 ·exact sizeOf_l x.2
 exact sizeOf_f x.2
theorem formed_mk (k : Int) (n : Nat) (b : List UInt8) (l : List V) (f : List (ByteArray × V)) : (mk k n b l f).formed = (own k n b l.length f.length && (l.all formed) && (f.all fun x => name x.1 && x.2.formed) && decide ((f.map Prod.fst).Nodup)) := by
 rw [formed,attach_all l formed,attach_all f (fun x => name x.1 && x.2.formed)]
theorem depth_l {k : Int} {n : Nat} {b : List UInt8} {l : List V} {f : List (ByteArray × V)} {x : V} (h : x ∈ l) : x.depth ≤ (mk k n b l f).depth := by
 rw [depth_mk];have h1 := (foldl_max_le (f.map fun x => x.2.depth) ((l.map depth).foldl max 0) _).1 (Nat.le_refl _);have h2 := (foldl_max_le (l.map depth) 0 _).1 (Nat.le_refl _);have := h2.2 _ (List.mem_map_of_mem h);omega
theorem depth_f {k : Int} {n : Nat} {b : List UInt8} {l : List V} {f : List (ByteArray × V)} {x : ByteArray × V} (h : x ∈ f) : x.2.depth ≤ (mk k n b l f).depth := by
 rw [depth_mk];have h1 := (foldl_max_le (f.map fun x => x.2.depth) ((l.map depth).foldl max 0) _).1 (Nat.le_refl _);have := h1.2 _ (List.mem_map_of_mem (f := fun x : ByteArray × V => x.2.depth) h);omega
theorem depth_list (l : List V) : (mk 7 0 [] l []).depth = 1 + (l.map depth).foldl max 0 := by rw [depth_mk];simp
theorem depth_doc (f : List (ByteArray × V)) : (mk 8 0 [] [] f).depth = 1 + (f.map fun x => x.2.depth).foldl max 0 := by rw [depth_mk];simp
theorem bytes_list (l : List V) : (mk 7 0 [] l []).bytes = 7 :: UInt8.ofNat l.length :: (l.map bytes).flatten := by rw [bytes_mk];simp
theorem bytes_doc (f : List (ByteArray × V)) : (mk 8 0 [] [] f).bytes = 8 :: UInt8.ofNat f.length :: (f.map fun x => item x.1 x.2.bytes).flatten := by rw [bytes_mk];simp
theorem item_length (s : ByteArray) (r : List UInt8) : (item s r).length = 1 + s.size + r.length := by
 simp only [item,List.length_cons,List.length_append,Array.length_toList];have : s.data.size = s.size := rfl;omega
def good (v : V) : Int := if v.formed = false then 4 else if 64 < v.most then 19 else if 16 < v.depth then 3 else if 4096 < v.bytes.length then 2 else 0
theorem formed_cases {v : V} (h : v.formed = true) : v = mk 1 0 [] [] [] ∨ (∃ n,n ≤ 1 ∧ v = mk 2 n [] [] []) ∨ (∃ n,v = mk 3 n [] [] []) ∨ (∃ n,v = mk 4 n [] [] []) ∨
 (∃ b,Lib.validD b = true ∧ v = mk 5 0 b [] []) ∨ (∃ b,v = mk 6 0 b [] []) ∨ (∃ l,(∀ x ∈ l,formed x = true) ∧ v = mk 7 0 [] l []) ∨
 (∃ f : List (ByteArray × V),(∀ x ∈ f,name x.1 = true ∧ x.2.formed = true) ∧ (f.map Prod.fst).Nodup ∧ v = mk 8 0 [] [] f) := by
 obtain ⟨k,n,b,l,f⟩ := v;rw [formed_mk] at h;simp only [own,Bool.and_eq_true,Bool.or_eq_true,decide_eq_true_eq,List.all_eq_true] at h;obtain ⟨⟨⟨⟨⟨⟨⟨⟨⟨h1,h2⟩,h3⟩,h4⟩,h5⟩,h6⟩,h7⟩,hl⟩,hf⟩,hn⟩ := h;have hL : k ≠ 7 → l = [] := fun hk => List.eq_nil_of_length_eq_zero (by omega)
 have hF : k ≠ 8 → f = [] := fun hk => List.eq_nil_of_length_eq_zero (by omega)
 have hB : k ≠ 5 → k ≠ 6 → b = [] := fun h1 h2 => List.eq_nil_of_length_eq_zero (by omega)
 have hN : k ≠ 2 → k ≠ 3 → k ≠ 4 → n = 0 := fun h1 h2 h3 => by omega
 have hk : k = 1 ∨ k = 2 ∨ k = 3 ∨ k = 4 ∨ k = 5 ∨ k = 6 ∨ k = 7 ∨ k = 8 := by omega
 rcases hk with rfl | rfl | rfl | rfl | rfl | rfl | rfl | rfl
 ·rw [hL (by decide),hF (by decide),hB (by decide) (by decide),hN (by decide) (by decide) (by decide)];exact .inl rfl
 ·rw [hL (by decide),hF (by decide),hB (by decide) (by decide)];exact .inr (.inl ⟨n,h3 rfl,rfl⟩)
 ·rw [hL (by decide),hF (by decide),hB (by decide) (by decide)];exact .inr (.inr (.inl ⟨n,rfl⟩))
 ·rw [hL (by decide),hF (by decide),hB (by decide) (by decide)];exact .inr (.inr (.inr (.inl ⟨n,rfl⟩)))
 ·rw [hL (by decide),hF (by decide),hN (by decide) (by decide) (by decide)];exact .inr (.inr (.inr (.inr (.inl ⟨b,h5.resolve_left (by decide),rfl⟩))))
 ·rw [hL (by decide),hF (by decide),hN (by decide) (by decide) (by decide)];exact .inr (.inr (.inr (.inr (.inr (.inl ⟨b,rfl⟩)))))
 ·rw [hF (by decide),hB (by decide) (by decide),hN (by decide) (by decide) (by decide)];exact .inr (.inr (.inr (.inr (.inr (.inr (.inl ⟨l,hl,rfl⟩))))))
 rw [hL (by decide),hB (by decide) (by decide),hN (by decide) (by decide) (by decide)];exact .inr (.inr (.inr (.inr (.inr (.inr (.inr ⟨f,hf,hn,rfl⟩))))))
end V
end
section
open Go.RowKit
theorem info_u8 : (Tryz.prog.info? 5).map (fun i => (i.zero,i.size,i.bytes)) = some (some (.int .u8 0),1,1) := by kernel_rfl
theorem under_u8s : Tryz.prog.underlying 23 = some (.slice 5) := by kernel_rfl
theorem under_string : Tryz.prog.underlying 9 = some .string := by kernel_rfl
theorem ret_int {k : IntKind} {a b : Int} (h : a = b) : Ending.returned (.int k a) = .returned (.int k b) := by rw [h]
theorem InB.at_ {w : World} {A : Option Addr} {b : List UInt8} (h : InB w A b) (j : Nat) (hj : j < b.length) : ∃ bk o,A = some ⟨bk,o,none⟩ ∧ bk < w.heap.size ∧ w.cell? ⟨bk,o + j,none⟩ = some (.int .u8 (b[j].toNat : Int)) := by
 obtain ⟨bk,o,e,hc⟩ := h.2 (by omega);have := hc j _ (u8s_get b j hj);exact ⟨bk,o,e,this.2.2,this.1⟩
def Lies (w : World) (v v' : Value) : Prop := v'.ownBlock = v.ownBlock ∨ ∃ g,v'.ownBlock = some g ∧ w.heap.size ≤ g
def Row (w : World) (base : Nat) (v : Value) (m : Nat) (xs : List UInt8) : Prop := w.ownsRow base 5 1 v m (u8s xs)
structure Grew (w : World) (v : Value) (w' : World) (v' : Value) : Prop where
 grow : w.grownBy w' v.ownBlock
 lies : Lies w v v'
theorem Row.alloc {w : World} {base m : Nat} {v : Value} {xs : List UInt8} (h : Row w base v m xs) (o : Obj) : Row (w.alloc o) base v m xs := World.ownsRow.alloc h o
theorem Row.grow {w w' : World} {base m : Nat} {v : Value} {xs : List UInt8} (h : Row w base v m xs) (hg : Grow w w') : Row w' base v m xs :=
 World.ownsRow.kept h (row := none) ⟨hg.os,hg.tape,hg.output,hg.size,fun k hk _ => hg.below.block k hk⟩ (by cases v.ownBlock <;> simp)
theorem Grew.below {w w' : World} {base m : Nat} {v v' : Value} {xs : List UInt8} (h : Grew w v w' v') (hr : Row w base v m xs) (hb : base ≤ w.heap.size) : Below base w w' :=
 (Below.refl base w).grown h.grow hb (fun k hk => (World.ownsRow.lt hr k hk).1)
theorem Row.made {w : World} (cur : Array Value) (cap : Nat) (hm : cap ≤ maxLen) (hs : cur.size = cap) : Row (w.alloc (.cells cur 5)) w.heap.size (.slice (some ⟨w.heap.size,0,none⟩) 0 cap) 0 [] :=
 World.ownsRow_made w cur cap (Nat.le_refl _) hm (by omega)
theorem Row.reads {w : World} {base m : Nat} {A : Option Addr} {c : Nat} {xs : List UInt8} (h : Row w base (.slice A m c) m xs) : InB w A xs ∧ xs.length = m := by
 have hl : xs.length = m := by simpa [u8s] using h.1
 refine ⟨⟨by rw [u8s_length,Nat.mul_one],fun hn => ?_⟩,hl⟩;obtain ⟨g,cap,hv,_,hlt⟩ := World.ownsRow.form h (by omega);have hA : A = some ⟨g,0,none⟩ := by injection hv
 subst hA;refine ⟨g,0,rfl,fun j u hu => ⟨?_,Nat.zero_le _,hlt⟩⟩;rw [← add_lit];exact World.ownsRow.cells h (g := g) rfl j u hu
section
variable {w : World} {ops : Array Oper} {rest : List Oper} {o : Oper} {a : Act} {Q : Exit → Act → World → Prop}
theorem app_src (hgd : o.guard = none) (s x : Operand) (tx : TypeId)
 (ho : o.op = .call { callee := .builtin .append,args := #[s,x],argTypes := #[23,tx] })
 {base m : Nat} {A : Option Addr} {c : Nat} {xs ys : List UInt8} (hv : a.eval s = .slice A m c) (hrow : Row w base (.slice A m c) m xs) (u : Value) (hx : a.eval x = u) (hs : Src Tryz.prog 1 tx u ys.length (u8s ys) w)
 (hbytes : m + ys.length ≤ 140737488400000) (hbase : base ≤ w.heap.size)
 (h : ∀ A' c' w',Row w' base (.slice A' (m + ys.length) c') (m + ys.length) (xs ++ ys) → Grew w (.slice A m c) w' (.slice A' (m + ys.length) c') → wpList Tryz.prog ops Q rest (a.put o.dst (.slice A' (m + ys.length) c')) w') : wpList Tryz.prog ops Q (o :: rest) a w := by
 obtain ⟨i0,hi0,hz0,hz1,hz2⟩ := info_parts info_u8;refine wpList_append_fit hgd s x _ tx ho base 5 i0 _ 1 1 under_u8s hi0 hz0 hz1 hz2 rfl _ m _ hv hrow u ys.length _ hx hs (fun _ ho => fits_wide ho hbytes) (by simp only [maxLen];omega) hbase (fun A' c' w' h2 h3 h4 => h A' c' w' ?_ ⟨h3,?_⟩)
 ·unfold Row;rw [u8s_append];exact h2
 rcases h4 with h4 | h4
 ·exact .inl h4
 exact .inr ⟨_,h4,Nat.le_refl _⟩
theorem step_app_src {K : Act → World → Prop} {E : Prop} (hgd : o.guard = none) (s x : Operand) (tx : TypeId)
 (ho : o.op = .call { callee := .builtin .append,args := #[s,x],argTypes := #[23,tx] })
 {base m : Nat} {A : Option Addr} {c : Nat} {xs ys : List UInt8} (hv : a.eval s = .slice A m c) (hrow : Row w base (.slice A m c) m xs) (u : Value) (hx : a.eval x = u) (hs : Src Tryz.prog 1 tx u ys.length (u8s ys) w)
 (hbytes : m + ys.length ≤ 140737488400000) (hbase : base ≤ w.heap.size)
 (h : ∀ A' c' w',Row w' base (.slice A' (m + ys.length) c') (m + ys.length) (xs ++ ys) → Grew w (.slice A m c) w' (.slice A' (m + ys.length) c') → K (a.put o.dst (.slice A' (m + ys.length) c')) w') :
 if Region.wanted o (yielded ops a.tmps) = true then Oper.wp Tryz.prog o a w K Q else E := by
 obtain ⟨i0,hi0,hz0,hz1,hz2⟩ := info_parts info_u8;refine step_append_fit hgd s x _ tx ho base 5 i0 _ 1 1 under_u8s hi0 hz0 hz1 hz2 rfl _ m _ hv hrow u ys.length _ hx hs (fun _ ho => fits_wide ho hbytes) (by simp only [maxLen];omega) hbase (fun A' c' w' h2 h3 h4 => h A' c' w' ?_ ⟨h3,?_⟩)
 ·unfold Row;rw [u8s_append];exact h2
 rcases h4 with h4 | h4
 ·exact .inl h4
 exact .inr ⟨_,h4,Nat.le_refl _⟩
end
end
section
open Go.RowKit
abbrev thrown (e : Int) : List PanicEntry := [{ v := .iface 29 (.int .i64 e),recovered := false }]
theorem u8s_take (b : List UInt8) (n : Nat) : u8s (b.take n) = (u8s b).take n := by simp [u8s]
theorem u8s_drop (b : List UInt8) (n : Nat) : u8s (b.drop n) = (u8s b).drop n := by simp [u8s]
theorem Reads.take_ {C : Addr → Value → Prop} {A : Option Addr} {n : Nat} {xs : List Value} (h : Reads C 1 A n xs) (k : Nat) (hk : k ≤ n) : Reads C 1 A k (xs.take k) := by
 refine ⟨by rw [List.length_take,h.1,Nat.mul_one,Nat.mul_one];omega,fun hn => ?_⟩;obtain ⟨bk,o,e,hc⟩ := h.2 (by omega);refine ⟨bk,o,e,fun j u hu => hc j u ?_⟩;rw [List.getElem?_take] at hu;split at hu
 ·exact hu
 cases hu
end
section
open Go.RowKit
def ixF : List UInt8 → Nat → Int
 | [],n => n
 | c :: r,n => if c.toNat < 48 ∨ 57 < c.toNat then -1 else ixF r (10 * n + (c.toNat - 48))
def ixN (s : List UInt8) : Int := if s = [] ∨ 4 < s.length ∨ (1 < s.length ∧ s.head? = some 48) then -1 else ixF s 0
theorem ixF_at (s : List UInt8) (j : Nat) (h : j < s.length) (n : Nat) : ixF (s.drop j) n = if s[j].toNat < 48 ∨ 57 < s[j].toNat then -1 else ixF (s.drop (j + 1)) (10 * n + (s[j].toNat - 48)) := by
 rw [List.drop_eq_getElem_cons h,ixF]
theorem bytes_get (s : ByteArray) (j : Nat) (h : j < s.size) : s[j] = s.data.toList[j]'(by simpa using h) := by
 show s.data[j] = _;simp
theorem toList_data (s : ByteArray) : s.toList = s.data.toList := by
 exact ByteArray.toList_eq s
theorem vindex_any (s : ByteArray) (w : World) : Calls Tryz.prog 91 #[.string s] w fun e w' => e = .returned (.int .i64 (ixN s.data.toList)) ∧ w = w' := by
 obtain ⟨z,hz⟩ : ∃ z,ixN s.data.toList = z := ⟨_,rfl⟩;rw [hz];have hlen : s.data.toList.length = s.size := by simp
 by_cases h0 : s.size = 0
 ·have he : s.data.toList = [] := List.length_eq_zero_iff.1 (by omega);have hz' : z = -1 := by rw [← hz,he];rfl
  have hse : s = ⟨#[]⟩ := by apply ByteArray.ext;apply Array.ext';exact he
  subst hse;subst hz';clear h0 hz he hlen;go_enter Tryz.func91,Tryz.ntmps91;go_wp2_with fail;go_ret;exact ⟨rfl,rfl⟩
 have hne : s.data.toList ≠ [] := fun h => h0 (by rw [← hlen,h];rfl)
 have hl1 : ¬ s.toList = [] := by
  intro h;have := toList_data s;rw [h] at this;exact hne this.symm
 have hl2 : s.toList.isEmpty = false := by simpa using hl1
 have hpos : 0 < s.size := by omega
 by_cases h4 : 4 < s.size
 ·have hz' : z = -1 := by rw [← hz];unfold ixN;rw [if_pos (.inr (.inl (by omega)))]
  subst hz';clear h0 hz hne hlen;go_enter Tryz.func91,Tryz.ntmps91;go_wp2_with fail;go_ret;exact ⟨rfl,rfl⟩
 obtain ⟨x,hx⟩ : ∃ x,s[0]'hpos = x := ⟨_,rfl⟩;have hx0 : s.data.toList.head? = some x := by
  rw [← hx,bytes_get s 0 hpos,List.head?_eq_getElem?,List.getElem?_eq_getElem]
 have hxl := x.toNat_lt;by_cases h1 : 1 < s.size ∧ x.toNat = 48
 ·have hz' : z = -1 := by
   rw [← hz];unfold ixN;rw [if_pos (.inr (.inr ⟨by omega,by rw [hx0];congr 1;apply UInt8.toNat_inj.1;exact h1.2⟩))]
  subst hz';obtain ⟨h1,h2⟩ := h1;have h2b : ((x.toNat : Int) == 48) = true := by simp;omega
  clear h0 hz hne hlen hx0 h2;go_enter Tryz.func91,Tryz.ntmps91;go_wp2_with fail;go_ret;exact ⟨rfl,rfl⟩
 have hz' : ixF s.data.toList 0 = z := by
  rw [← hz];unfold ixN;rw [if_neg];rintro (h | h | ⟨h,h'⟩)
  ·exact hne h
  ·omega
  exact h1 ⟨by omega,by rw [hx0] at h';injection h' with h';rw [h'];rfl⟩
 have HZ := hide hz';have hs1 : ¬ 1 < s.size ∨ (1 < s.size ∧ ((x.toNat : Int) == 48) = false) := by
  rcases Nat.lt_or_ge 1 s.size with h | h
  ·right;exact ⟨h,by simp;omega⟩
  left;omega
 clear hz hz' hne hlen hx0 h1 h0;have hs4 : s.size ≤ 4 := by omega
 have hsj : ∀ (n : Nat) (j : Nat),j < s.size → n < 10 ^ j → n ≤ 999 := fun n j h1 h2 => by
  have : 10 ^ j ≤ 10 ^ 3 := Nat.pow_le_pow_right (by omega) (by omega);omega
 have HSJ := hide hsj;clear hsj;rcases hs1 with hs1 | ⟨hs1,hs2⟩
 all_goals
  go_enter Tryz.func91,Tryz.ntmps91
  go_wp2_with fail
  go_loopg [3,24] (s.size + 1) (fun gk a i wr => w = wr ∧ ∃ (j n : Nat),j ≤ s.size ∧ gk + j = s.size + 1 ∧ i = .int .i64 j ∧ a = .int .i64 (n : Int) ∧ n < 10 ^ j ∧ ixF (s.data.toList.drop j) n = z)
  case atStart => exact ⟨rfl,0,0,by omega,by omega,rfl,rfl,by simp,HZ.out⟩
  case round =>
   obtain ⟨rfl,j,n,hj,hgk,rfl,rfl,hn,hf⟩ := hrel
   have HF := hide hf
   have HN := hide hn
   clear hf
   by_cases hlt : j < s.size
   ·obtain ⟨gk',rfl⟩ := gk_ gk (by omega)
    have hn9 := HSJ.out n j hlt hn
    clear hn
    have hstep := ixF_at s.data.toList j (by simpa using hlt) n
    rw [HF.out,← bytes_get s j hlt] at hstep
    obtain ⟨y,hy⟩ : ∃ y,s[j] = y := ⟨_,rfl⟩
    rw [hy] at hstep
    have HST := hide hstep
    have hyl := y.toNat_lt
    clear hstep
    by_cases c1 : y.toNat < 48
    ·have HE := hide (show z = -1 by rw [HST.out,if_pos (.inl c1)])
     go_wp2_with fail
     go_ret
     exact ⟨ret_int HE.out.symm,rfl⟩
    by_cases c2 : 57 < y.toNat
    ·have HE := hide (show z = -1 by rw [HST.out,if_pos (.inr c2)])
     go_wp2_with fail
     go_ret
     exact ⟨ret_int HE.out.symm,rfl⟩
    have HE := hide (show z = ixF (s.data.toList.drop (j + 1)) (10 * n + (y.toNat - 48)) by rw [HST.out,if_neg (by omega)])
    go_wp2_with fail
    go_roundg gk'
    case measure => omega
    case rel => exact ⟨rfl,j + 1,10 * n + (y.toNat - 48),by omega,by omega,by go_num,by go_num,by have := HN.out;rw [Nat.pow_succ];omega,HE.out.symm⟩
   obtain rfl : j = s.size := by omega
   have HE := hide (show z = (n : Int) by rw [← HF.out,List.drop_of_length_le (by simp)];rfl)
   clear hn
   go_wp2_with fail
   go_ret
   exact ⟨ret_int HE.out.symm,rfl⟩
end
section
open Go.RowKit
theorem under_u8 : Tryz.prog.underlying 5 = some (.int .u8) := by kernel_rfl
theorem conv_str {w : World} {A : Option Addr} {b : List UInt8} {lo hi : Nat} (c : Nat) (h : Reads (AtW w lo hi) 1 A b.length (u8s b)) :
 (convert 23 9 (.slice A b.length c)).run Tryz.prog w = .ok (.string ⟨b.toArray⟩) w := by
 rcases Nat.eq_zero_or_pos b.length with h0 | h0
 ·have : b = [] := List.eq_nil_of_length_eq_zero h0;subst this;rcases A with _ | ad
  ·exact Lib.run_convert_nil_bytes w _ _ _ c under_u8s under_u8 under_string
  exact run_convert_bytes_back w _ _ _ ad c [] under_u8s under_u8 under_string (fun j hj => absurd hj (by simp))
 obtain ⟨bk,o,rfl,hc⟩ := h.2 h0;refine run_convert_bytes_back w _ _ _ _ c b under_u8s under_u8 under_string (fun j hj => ?_);rw [add_lit];exact (hc j _ (u8s_get b j hj)).1
open Classical in
noncomputable def sameB (a b : V) : Bool := decide (a = b)
theorem sameB_self (a : V) : sameB a a = true := by simp [sameB]
theorem sameB_ne {a b : V} (h : a ≠ b) : sameB a b = false := by simp [sameB,h]
theorem sameB_iff {a b : V} : sameB a b = true ↔ a = b := by simp [sameB]
theorem str_beq (a b : ByteArray) : (a.toList == b.toList) = true ↔ a = b := by rw [← beq_toListBytes];exact MapKept.bytes_beq a b
theorem ret_bool {a b : Bool} (h : a = b) : Ending.returned (.bool a) = .returned (.bool b) := by rw [h]
theorem lists_eq {α : Type} {l l' : List α} (hl : l.length = l'.length) (h : ∀ i (h1 : i < l.length) (h2 : i < l'.length),l[i] = l'[i]) : l = l' := List.ext_getElem hl h
theorem same_head (k k' : Int) (n n' : Nat) (b b' : List UInt8) (l l' : List V) (f f' : List (ByteArray × V)) (c c' : Cv) (w : World) (hv : In w (.mk k n b l f) c) (hv' : In w (.mk k' n' b' l' f') c')
 (hne : k ≠ k' ∨ n ≠ n' ∨ b ≠ b' ∨ l.length ≠ l'.length ∨ f.length ≠ f'.length) :
 Calls Tryz.prog 26 #[c.agg,c'.agg] w fun e w' => e = .returned (.bool false) ∧ Grow w w' := by
 obtain ⟨aB,aL,aF,cB,cL,cF,rfl,h1,h2,h3,h4,h5,h6,h7,h8,h9,hb⟩ := hv.open;obtain ⟨aB',aL',aF',cB',cL',cF',rfl,h1',h2',h3',h4',h5',h6',h7',h8',h9',hb'⟩ := hv'.open;have hc1 : ∀ o1 o2 : Obj,(convert 23 9 (.slice aB b.length cB)).run Tryz.prog ((w.alloc o1).alloc o2) = .ok (.string ⟨b.toArray⟩) ((w.alloc o1).alloc o2) := fun o1 o2 => conv_str _ (hb.grow (((Grow.refl w).alloc o1).alloc o2))
 have hc2 : ∀ o1 o2 : Obj,(convert 23 9 (.slice aB' b'.length cB')).run Tryz.prog ((w.alloc o1).alloc o2) = .ok (.string ⟨b'.toArray⟩) ((w.alloc o1).alloc o2) := fun o1 o2 => conv_str _ (hb'.grow (((Grow.refl w).alloc o1).alloc o2))
 clear hv hv' hb hb' h1 h2 h3 h4 h5 h6 h7 h8 h9 h1' h2' h3' h4' h5' h6' h7' h8' h9';by_cases e1 : k = k'
 ·by_cases e2 : n = n'
  ·by_cases e3 : b = b'
   ·have hne2 := ((hne.resolve_left (fun h => h e1)).resolve_left (fun h => h e2)).resolve_left (fun h => h e3);clear hne;subst e1 e2 e3;by_cases e4 : l.length = l'.length
    ·have e5 : f.length ≠ f'.length := hne2.resolve_left (fun h => h e4);have t4 : ((l.length : Int) != (l'.length : Int)) = false := by simp [e4]
     have t5 : ((f.length : Int) != (f'.length : Int)) = true := by simp;omega
     clear hne2 e4 e5;go_enter Tryz.func26,Tryz.ntmps26;go_wp2_with fail;go_ret;exact ⟨rfl,((Grow.refl w).alloc _).alloc _⟩
    have t4 : ((l.length : Int) != (l'.length : Int)) = true := by simp;omega
    clear hne2 e4;go_enter Tryz.func26,Tryz.ntmps26;go_wp2_with fail;go_ret;exact ⟨rfl,((Grow.refl w).alloc _).alloc _⟩
   subst e1 e2;have t3 : (b == b') = false := by simpa using e3
   clear hne e3;go_enter Tryz.func26,Tryz.ntmps26;go_wp2_with fail;go_ret;exact ⟨rfl,((Grow.refl w).alloc _).alloc _⟩
  subst e1;have t2 : ((n : Int) != (n' : Int)) = true := by simp;omega
  clear hne e2;go_enter Tryz.func26,Tryz.ntmps26;go_wp2_with fail;go_ret;exact ⟨rfl,((Grow.refl w).alloc _).alloc _⟩
 have t1 : (k != k') = true := by simpa using e1
 clear hne e1;go_enter Tryz.func26,Tryz.ntmps26;go_wp2_with fail;go_ret;exact ⟨rfl,((Grow.refl w).alloc _).alloc _⟩
def SameC (x : V) : Prop := ∀ (y : V) (w : World) (c c' : Cv),In w x c → In w y c' →
 Calls Tryz.prog 26 #[c.agg,c'.agg] w fun e w' => e = .returned (.bool (sameB x y)) ∧ Grow w w'
theorem same_tail (k : Int) (n : Nat) (b : List UInt8) (l l' : List V) (f f' : List (ByteArray × V)) (c c' : Cv) (w : World) (hv : In w (.mk k n b l f) c) (hv' : In w (.mk k n b l' f') c')
 (hll : l.length = l'.length) (hff : f.length = f'.length) (hl : ∀ x ∈ l,SameC x) (hf : ∀ x ∈ f,SameC x.2) :
 Calls Tryz.prog 26 #[c.agg,c'.agg] w fun e w' => e = .returned (.bool (sameB (.mk k n b l f) (.mk k n b l' f'))) ∧ Grow w w' := by
 obtain ⟨aB,aL,aF,cB,cL,cF,rfl,h1,h2,h3,h4,h5,h6,h7,h8,h9,hb⟩ := hv.open;obtain ⟨aB',aL',aF',cB',cL',cF',rfl,h1',h2',h3',h4',h5',h6',h7',h8',h9',hb'⟩ := hv'.open;have hc1 : ∀ o1 o2 : Obj,(convert 23 9 (.slice aB b.length cB)).run Tryz.prog ((w.alloc o1).alloc o2) = .ok (.string ⟨b.toArray⟩) ((w.alloc o1).alloc o2) := fun o1 o2 => conv_str _ (hb.grow (((Grow.refl w).alloc o1).alloc o2))
 have hc2 : ∀ o1 o2 : Obj,(convert 23 9 (.slice aB' b.length cB')).run Tryz.prog ((w.alloc o1).alloc o2) = .ok (.string ⟨b.toArray⟩) ((w.alloc o1).alloc o2) := fun o1 o2 => conv_str _ (hb'.grow (((Grow.refl w).alloc o1).alloc o2))
 have HV := hide hv;have HV' := hide hv';have Hl := hide hl;have Hf := hide hf;have t4 : ((l.length : Int) != (l'.length : Int)) = false := by simp [hll]
 have t5 : ((f.length : Int) != (f'.length : Int)) = false := by simp [hff]
 have hll2 : l.length ≤ l'.length := by omega
 have hff2 : f.length ≤ f'.length := by omega
 have HLL := hide hll;have HFF := hide hff;clear hv hv' hb hb' h1 h2 h3 h4 h5 h6 h8 h1' h2' h3' h4' h5' h6' h8' hl hf hll hff;go_enter Tryz.func26,Tryz.ntmps26;go_wp2_with fail;clear hc1 hc2 t4 t5;go_loopg [5] (l.length + 1) (fun gk i wr => ∃ j : Nat,j ≤ l.length ∧ gk + j = l.length + 1 ∧ i = .int .i64 j ∧ (∀ i (h1 : i < l.length) (h2 : i < l'.length),i < j → l[i] = l'[i]) ∧ Grow w wr ∧
  Blk wr w.heap.size 27 (Cv.cells ⟨k,(n : Int),aB,b.length,cB,aL,l.length,cL,aF,f.length,cF⟩) ∧ Blk wr (w.heap.size + 1) 27 (Cv.cells ⟨k,(n : Int),aB',b.length,cB',aL',l'.length,cL',aF',f'.length,cF'⟩))
 case atStart => exact ⟨0,by omega,by omega,rfl,fun i _ _ h => absurd h (by omega),((Grow.refl w).alloc _).alloc _,(Blk.new _ _ _).alloc _,Blk.new' (by simp) _ _⟩
 case round =>
  obtain ⟨j,hj,hg,rfl,heq,hw,hB,hB'⟩ := hrel;obtain ⟨gk',rfl⟩ := gk_ gk (by omega);have hc3 := hB.cell;have hc3' := hB'.cell;have HW := hide hw;have HEQ := hide heq;have HB := hide hB;have HB' := hide hB';by_cases hlt : j < l.length
  ·have hlt' : j < l'.length := by omega
   obtain ⟨bk,o,x,ha,hbk,e0,e1,e2,e3,e4,hx⟩ := (HV.out.grow hw).elemL j hlt;obtain ⟨bk',o',x',ha',hbk',e0',e1',e2',e3',e4',hx'⟩ := (HV'.out.grow hw).elemL j hlt';dsimp only at ha ha';subst ha ha';have HX := hide hx;have HX' := hide hx';have Hlj := hide (Hl.out _ (List.getElem_mem hlt));clear hw hx hx' hB hB' heq;have hz0 : w.heap.size < wr.heap.size := HB.out.lt;have hz1 : w.heap.size + 1 < wr.heap.size := HB'.out.lt;by_cases he : l[j] = l'[j]
   ·have hs : sameB l[j] l'[j] = true := sameB_iff.2 he;have HE := hide he;clear he;go_wp2_with fail;go_region_held3 (fun w' => ∀ b o,b < wr.heap.size → w'.cell? ⟨b,o,none⟩ = wr.cell? ⟨b,o,none⟩) (first | exact fun _ _ _ => rfl | exact fun b o h => hgr.below.cell (p := ⟨b,o,none⟩) h)
     (first | (go_at_call 26;refine (Hlj.out _ _ x x' (HX.out.grow (Grow.refl wr).drew) (HX'.out.grow (Grow.refl wr).drew)).mono ?_;rintro e w2 ⟨rfl,hb2⟩;have hgr : Grow wr w2 := (Grow.refl wr).drew.trans hb2))
    have HGR := hide hgr;clear hgr hb2;go_wp2_with fail;go_roundg gk'
    case measure => omega
    case rel =>
     refine ⟨j + 1,by omega,by omega,by go_num,fun i h1 h2 h3 => ?_,HW.out.trans HGR.out,HB.out.grow HGR.out,HB'.out.grow HGR.out⟩;rcases Nat.lt_or_ge i j with h | h
     ·exact HEQ.out i h1 h2 h
     obtain rfl : i = j := by omega
     exact HE.out
   have hs : sameB l[j] l'[j] = false := sameB_ne he;have HE := hide he;clear he;go_wp2_with fail;go_region_held3 (fun w' => ∀ b o,b < wr.heap.size → w'.cell? ⟨b,o,none⟩ = wr.cell? ⟨b,o,none⟩) (first | exact fun _ _ _ => rfl | exact fun b o h => hgr.below.cell (p := ⟨b,o,none⟩) h)
    (first | (go_at_call 26;refine (Hlj.out _ _ x x' (HX.out.grow (Grow.refl wr).drew) (HX'.out.grow (Grow.refl wr).drew)).mono ?_;rintro e w2 ⟨rfl,hb2⟩;have hgr : Grow wr w2 := (Grow.refl wr).drew.trans hb2))
   have HGR := hide hgr;clear hgr hb2;go_wp2_with fail;go_ret;refine ⟨ret_bool (sameB_ne (fun h => HE.out ?_)).symm,HW.out.trans HGR.out⟩;injection h with _ _ _ h _;subst h;rfl
  obtain rfl : j = l.length := by omega
  have hll : l = l' := lists_eq HLL.out (fun i h1 h2 => HEQ.out i h1 h2 h1);clear hw hB hB' heq HEQ;go_wp2_with fail;go_loopg [6] (f.length + 1) (fun gk i wr => ∃ j : Nat,j ≤ f.length ∧ gk + j = f.length + 1 ∧ i = .int .i64 j ∧ (∀ i (h1 : i < f.length) (h2 : i < f'.length),i < j → f[i] = f'[i]) ∧ Grow w wr ∧
   Blk wr w.heap.size 27 (Cv.cells ⟨k,(n : Int),aB,b.length,cB,aL,l.length,cL,aF,f.length,cF⟩) ∧ Blk wr (w.heap.size + 1) 27 (Cv.cells ⟨k,(n : Int),aB',b.length,cB',aL',l'.length,cL',aF',f'.length,cF'⟩))
  case atStart => exact ⟨0,by omega,by omega,rfl,fun i _ _ h => absurd h (by omega),HW.out,HB.out,HB'.out⟩
  case round =>
   obtain ⟨j,hj,hg,rfl,heq,hw,hB,hB'⟩ := hrel;obtain ⟨gk',rfl⟩ := gk_ gk (by omega);clear hc3 hc3';have hc4 := hB.cell;have hc4' := hB'.cell;have HW := hide hw;have HEQ := hide heq;have HB := hide hB;have HB' := hide hB';have HLq := hide hll;clear hll;by_cases hlt : j < f.length
   ·have hlt' : j < f'.length := by omega
    obtain ⟨bk,o,x,ha,hbk,es,esz,e0,e1,e2,e3,e4,hx⟩ := (HV.out.grow hw).elemF j hlt;obtain ⟨bk',o',x',ha',hbk',es',esz',e0',e1',e2',e3',e4',hx'⟩ := (HV'.out.grow hw).elemF j hlt';dsimp only at ha ha';subst ha ha';have HX := hide hx;have HX' := hide hx';have Hfj := hide (Hf.out _ (List.getElem_mem hlt));have hz0 : w.heap.size < wr.heap.size := HB.out.lt;have hz1 : w.heap.size + 1 < wr.heap.size := HB'.out.lt;clear hw hx hx' hB hB' heq esz esz';by_cases hn : f[j].1 = f'[j].1
    ·have hn1 : (f[j].1.toList == f'[j].1.toList) = true := (str_beq _ _).2 hn;have hn2 : (f[j].1.toList != f'[j].1.toList) = false := by rw [bne,hn1];rfl
     have HN := hide hn;clear hn;by_cases he : f[j].2 = f'[j].2
     ·have hs : sameB f[j].2 f'[j].2 = true := sameB_iff.2 he;have HE := hide he;clear he;go_wp2_with fail;go_region_held3 (fun w' => ∀ b o,b < wr.heap.size → w'.cell? ⟨b,o,none⟩ = wr.cell? ⟨b,o,none⟩) (first | exact fun _ _ _ => rfl | exact fun b o h => hgr.below.cell (p := ⟨b,o,none⟩) h)
       (first | (go_at_call 26;refine (Hfj.out _ _ x x' (HX.out.grow (Grow.refl wr).drew) (HX'.out.grow (Grow.refl wr).drew)).mono ?_;rintro e w2 ⟨rfl,hb2⟩;have hgr : Grow wr w2 := (Grow.refl wr).drew.trans hb2))
      have HGR := hide hgr;clear hgr hb2;go_wp2_with fail;go_roundg gk'
      case measure => omega
      case rel =>
       refine ⟨j + 1,by omega,by omega,by go_num,fun i h1 h2 h3 => ?_,HW.out.trans HGR.out,HB.out.grow HGR.out,HB'.out.grow HGR.out⟩;rcases Nat.lt_or_ge i j with h | h
       ·exact HEQ.out i h1 h2 h
       obtain rfl : i = j := by omega
       exact Prod.ext HN.out HE.out
     have hs : sameB f[j].2 f'[j].2 = false := sameB_ne he;have HE := hide he;clear he;go_wp2_with fail;go_region_held3 (fun w' => ∀ b o,b < wr.heap.size → w'.cell? ⟨b,o,none⟩ = wr.cell? ⟨b,o,none⟩) (first | exact fun _ _ _ => rfl | exact fun b o h => hgr.below.cell (p := ⟨b,o,none⟩) h)
      (first | (go_at_call 26;refine (Hfj.out _ _ x x' (HX.out.grow (Grow.refl wr).drew) (HX'.out.grow (Grow.refl wr).drew)).mono ?_;rintro e w2 ⟨rfl,hb2⟩;have hgr : Grow wr w2 := (Grow.refl wr).drew.trans hb2))
     have HGR := hide hgr;clear hgr hb2;go_wp2_with fail;go_ret;refine ⟨ret_bool (sameB_ne (fun h => HE.out ?_)).symm,HW.out.trans HGR.out⟩;injection h with _ _ _ _ h;subst h;rfl
    have hn1 : (f[j].1.toList == f'[j].1.toList) = false := by
     rw [Bool.eq_false_iff];exact fun h => hn ((str_beq _ _).1 h)
    have hn2 : (f[j].1.toList != f'[j].1.toList) = true := by rw [bne,hn1];rfl
    have HN := hide hn;clear hn;go_wp2_with fail;go_quiet (fail);go_wp2_with fail;go_ret;refine ⟨ret_bool (sameB_ne (fun h => HN.out ?_)).symm,HW.out.drewN _⟩;injection h with _ _ _ _ h;subst h;rfl
   obtain rfl : j = f.length := by omega
   have hff : f = f' := lists_eq HFF.out (fun i h1 h2 => HEQ.out i h1 h2 h1);have HFq := hide hff;clear hw hB hB' heq HEQ hff;go_wp2_with fail;go_ret;exact ⟨ret_bool (by rw [HLq.out,HFq.out,sameB_self]),HW.out⟩
theorem same_any (x : V) : SameC x := by
 induction x using V.ind with
 | h k n b l f hl hf =>
  intro y w c c' hv hv';obtain ⟨k',n',b',l',f'⟩ := y;by_cases hne : k ≠ k' ∨ n ≠ n' ∨ b ≠ b' ∨ l.length ≠ l'.length ∨ f.length ≠ f'.length
  ·refine (same_head k k' n n' b b' l l' f f' c c' w hv hv' hne).mono ?_;rintro e w' ⟨rfl,hg⟩;refine ⟨ret_bool (sameB_ne (fun h => ?_)).symm,hg⟩;injection h with h1 h2 h3 h4 h5;subst h1 h2 h3 h4 h5;simp at hne
  have h1 : k = k' := Decidable.byContradiction fun h => hne (.inl h)
  have h2 : n = n' := Decidable.byContradiction fun h => hne (.inr (.inl h))
  have h3 : b = b' := Decidable.byContradiction fun h => hne (.inr (.inr (.inl h)))
  have h4 : l.length = l'.length := Decidable.byContradiction fun h => hne (.inr (.inr (.inr (.inl h))))
  have h5 : f.length = f'.length := Decidable.byContradiction fun h => hne (.inr (.inr (.inr (.inr h))))
  clear hne;subst h1 h2 h3;exact same_tail k n b l l' f f' c c' w hv hv' h4 h5 hl hf
theorem In.zero_ (w : World) : In w V.zero Cv.zero := by
 unfold In V.zero;rw [IsV];exact ⟨rfl,rfl,rfl,rfl,rfl,by omega,by omega,by omega,by simp,by simp,by simp,by simp,by simp,by simp,⟨rfl,fun h => absurd h (by simp)⟩,fun i h => absurd h (by simp),fun i h => absurd h (by simp)⟩
end
section
open Go.RowKit
theorem sum_take {α : Type} (g : α → Nat) (l : List α) (j : Nat) (h : j < l.length) : ((l.take (j + 1)).map g).sum = ((l.take j).map g).sum + g l[j] := by
 rw [take_snoc l j h,List.map_append,List.sum_append];simp
theorem sum_take_le {α : Type} (g : α → Nat) (l : List α) (j : Nat) : ((l.take j).map g).sum ≤ (l.map g).sum := by
 have : l.map g = (l.take j).map g ++ (l.drop j).map g := by rw [← List.map_append,List.take_append_drop]
 rw [this,List.sum_append];omega
theorem V.count_pos (v : V) : 1 ≤ v.count := by obtain ⟨k,n,b,l,f⟩ := v;rw [V.count_mk];omega
theorem ret_ib {k : IntKind} {a b : Int} {p q : Bool} (h : a = b) (h' : p = q) : Ending.returned (.tuple #[.int k a,.bool p]) = .returned (.tuple #[.int k b,.bool q]) := by rw [h,h']
def Walked (w : World) (n : Nat) (left : Int) (e : Ending) (w' : World) : Prop :=
 ∃ r : Int,e = .returned (.tuple #[.int .i64 r,.bool (decide ((n : Int) < left))]) ∧ ((n : Int) < left → r = left - n) ∧ Grow w w'
theorem walked_any (v : V) : ∀ (left : Int) (w : World) (c : Cv),1 ≤ left → left ≤ 20000 → In w v c →
 Calls Tryz.prog 34 #[c.agg,.int .i64 left] w (Walked w v.count left) := by
 induction v using V.ind with
 | h k n b l f hl hf =>
  intro left w c hl1 hl2 hv;have HV := hide hv;obtain ⟨aB,aL,aF,cB,cL,cF,rfl,h1,h2,h3,h4,h5,h6,h7,h8,h9,hb⟩ := hv.open;have Hl := hide hl;have Hf := hide hf;rw [V.count_mk];obtain ⟨SL,hSL⟩ : ∃ SL,SL = (l.map V.count).sum := ⟨_,rfl⟩;obtain ⟨SF,hSF⟩ : ∃ SF,SF = (f.map fun x => x.2.count).sum := ⟨_,rfl⟩;rw [← hSL,← hSF];have HSL := hide hSL;have HSF := hide hSF;clear hb h1 h2 h3 hl hf h4 h5 hv hSL hSF;go_enter Tryz.func34,Tryz.ntmps34;go_wp2_with fail;go_loopg [1,6] (l.length + 1) (fun gk t i wr => ∃ (j : Nat) (T : Int),j ≤ l.length ∧ gk + j = l.length + 1 ∧ i = .int .i64 j ∧ t = .int .i64 T ∧ 0 ≤ T ∧ T ≤ left ∧ T + 1 + ((((l.take j).map V.count).sum : Nat) : Int) = left ∧ Grow w wr ∧
   Blk wr w.heap.size 27 (Cv.cells ⟨k,(n : Int),aB,b.length,cB,aL,l.length,cL,aF,f.length,cF⟩))
  case atStart => exact ⟨0,left - 1,by omega,by omega,rfl,rfl,by omega,by omega,by simp,(Grow.refl w).alloc _,Blk.new _ _ _⟩
  case round =>
   obtain ⟨j,T,hj,hg,rfl,rfl,hT0,hT1,hT2,hw,hB⟩ := hrel;obtain ⟨gk',rfl⟩ := gk_ gk (by omega);have hc3 := hB.cell;have HW := hide hw;have HB := hide hB;have HT2 := hide hT2;clear hT2;by_cases hgo : j < l.length ∧ 0 < T
   ·obtain ⟨hlt,hTp⟩ := hgo;obtain ⟨bk,o,x,ha,hbk,e0,e1,e2,e3,e4,hx⟩ := (HV.out.grow hw).elemL j hlt;dsimp only at ha;subst ha;have hs := sum_take V.count l j hlt;have HS := hide hs;have hle := sum_take_le V.count l (j + 1);rw [hs,← HSL.out] at hle;have HX := hide hx;have hcp := V.count_pos l[j];have HC := hide (Hl.out _ (List.getElem_mem hlt) T wr x (by omega) (by omega) hx);clear hw hx hB hs;go_wp2_with fail;refine HC.out.mono ?_;rintro e w2 ⟨r,rfl,hr,hb2⟩;have HGR := hide hb2;clear hb2;have hc4 := (HB.out.grow HGR.out).cell;by_cases hlt2 : ((l[j].count : Nat) : Int) < T
    ·have hd : decide (((l[j].count : Nat) : Int) < T) = true := decide_eq_true hlt2;have HR := hide (hr hlt2);clear hr;go_wp2_with fail;go_roundg gk'
     case measure => omega
     case rel =>
      have h1 := HR.out;have h2 := HT2.out;have h3 := HS.out;exact ⟨j + 1,r,by omega,by omega,by go_num,rfl,by omega,by omega,by rw [h3];push_cast;omega,HW.out.trans HGR.out,HB.out.grow HGR.out⟩
    have hd : decide (((l[j].count : Nat) : Int) < T) = false := decide_eq_false hlt2;clear hr;go_wp2_with fail;go_ret2;have h2 := HT2.out;have hfin : ¬ (((1 + SL + SF : Nat) : Int) < left) := by push_cast;omega
    exact ⟨0,ret_ib rfl (decide_eq_false hfin).symm,fun h => absurd h hfin,HW.out.trans HGR.out⟩
   have hpost : ∃ T' : Int,T' = T ∧ ((T' + 1 + (SL : Int) = left) ∨ (T' = 0 ∧ left ≤ 1 + (SL : Int))) := by
    have h2 := HT2.out;by_cases hlt : j < l.length
    ·have h0 : T = 0 := by omega
     have hle := sum_take_le V.count l j;rw [← HSL.out] at hle;exact ⟨T,rfl,.inr ⟨h0,by omega⟩⟩
    obtain rfl : j = l.length := by omega
    rw [List.take_length,← HSL.out] at h2;exact ⟨T,rfl,.inl h2⟩
   obtain ⟨T',rfl,hpost⟩ := hpost;have HP := hide hpost;clear hw hB hpost;by_cases hjl : j < l.length
   all_goals
    have hT' : j < l.length → T' ≤ 0 := fun h => by omega
    clear hgo
    first
    | (have h := hT' hjl;clear hT')
    | clear hT'
    go_wp2_with fail
    go_loopg [1,9] (f.length + 1) (fun gk t i wr => ∃ (j : Nat) (T : Int),j ≤ f.length ∧ gk + j = f.length + 1 ∧ i = .int .i64 j ∧ t = .int .i64 T ∧ 0 ≤ T ∧ T ≤ left ∧ ((T + 1 + (SL : Int) + ((((f.take j).map fun x => x.2.count).sum : Nat) : Int) = left) ∨ (T = 0 ∧ left ≤ 1 + (SL : Int))) ∧ Grow w wr ∧
     Blk wr w.heap.size 27 (Cv.cells ⟨k,(n : Int),aB,b.length,cB,aL,l.length,cL,aF,f.length,cF⟩))
    case atStart => exact ⟨0,T',by omega,by omega,rfl,rfl,by omega,by omega,by simpa using HP.out,HW.out,HB.out⟩
    case round =>
     obtain ⟨j,T,hj,hg,rfl,rfl,hT0,hT1,hT2,hw,hB⟩ := hrel
     obtain ⟨gk',rfl⟩ := gk_ gk (by omega)
     clear hc3
     have hc5 := hB.cell
     have HW := hide hw
     have HB := hide hB
     have HT2 := hide hT2
     clear hT2
     by_cases hgo : j < f.length ∧ 0 < T
     ·obtain ⟨hlt,hTp⟩ := hgo
      have HT3 := hide (HT2.out.resolve_right (fun h => by omega))
      obtain ⟨bk,o,x,ha,hbk,es,esz,e0,e1,e2,e3,e4,hx⟩ := (HV.out.grow hw).elemF j hlt
      dsimp only at ha
      subst ha
      have hs := sum_take (fun x : ByteArray × V => x.2.count) f j hlt
      have HS := hide hs
      have hle := sum_take_le (fun x : ByteArray × V => x.2.count) f (j + 1)
      rw [hs,← HSF.out] at hle
      have HX := hide hx
      have hcp := V.count_pos f[j].2
      have HC := hide (Hf.out _ (List.getElem_mem hlt) T wr x (by omega) (by omega) hx)
      clear hw hx hB hs es esz
      go_wp2_with fail
      refine HC.out.mono ?_
      rintro e w2 ⟨r,rfl,hr,hb2⟩
      have HGR := hide hb2
      clear hb2
      have hc4 := (HB.out.grow HGR.out).cell
      by_cases hlt2 : ((f[j].2.count : Nat) : Int) < T
      ·have hd : decide (((f[j].2.count : Nat) : Int) < T) = true := decide_eq_true hlt2
       have HR := hide (hr hlt2)
       clear hr
       go_wp2_with fail
       go_roundg gk'
       case measure => omega
       case rel =>
        have h1 := HR.out
        have h2 := HT3.out
        have h3 := HS.out
        exact ⟨j + 1,r,by omega,by omega,by go_num,rfl,by omega,by omega,.inl (by rw [h3];push_cast;omega),HW.out.trans HGR.out,HB.out.grow HGR.out⟩
      have hd : decide (((f[j].2.count : Nat) : Int) < T) = false := decide_eq_false hlt2
      clear hr
      go_wp2_with fail
      go_ret2
      have h2 := HT3.out
      have hfin : ¬ (((1 + SL + SF : Nat) : Int) < left) := by push_cast;omega
      exact ⟨0,ret_ib rfl (decide_eq_false hfin).symm,fun h => absurd h hfin,HW.out.trans HGR.out⟩
     have hpost : (T = left - ((1 + SL + SF : Nat) : Int)) ∨ (T = 0 ∧ ¬ (((1 + SL + SF : Nat) : Int) < left)) := by
      rcases HT2.out with h2 | h2
      ·by_cases hlt : j < f.length
       ·have h0 : T = 0 := by omega
        have hle := sum_take_le (fun x : ByteArray × V => x.2.count) f (j + 1)
        rw [sum_take _ _ _ hlt,← HSF.out] at hle
        have hcp := V.count_pos f[j].2
        exact .inr ⟨h0,by push_cast;omega⟩
       obtain rfl : j = f.length := by omega
       rw [List.take_length,← HSF.out] at h2
       exact .inl (by push_cast;omega)
      exact .inr ⟨h2.1,by push_cast;omega⟩
     have HP2 := hide hpost
     clear hw hB hpost
     by_cases hjf : j < f.length
     all_goals
      have hT' : j < f.length → T ≤ 0 := fun h => by omega
      clear hgo
      first
      | (have h := hT' hjf;clear hT')
      | clear hT'
      go_wp2_with fail
      go_ret2
      refine ⟨T,ret_ib rfl ?_,fun h => ?_,HW.out⟩
      ·rcases HP2.out with h | h
       ·rw [h];exact decide_eq_decide.2 ⟨fun h => by omega,fun h => by omega⟩
       rw [decide_eq_false (Int.not_lt.2 h.2),h.1];rfl
      rcases HP2.out with h' | h'
      ·exact h'
      exact absurd h (Int.not_lt.2 h'.2)
abbrev lcv (A : Option Addr) (n cap : Nat) : Cv := ⟨7,0,none,0,0,A,n,cap,none,0,0⟩
def InL (w : World) (A : Option Addr) (cap : Nat) (vs : List V) : Prop := In w (.mk 7 0 [] vs []) (lcv A vs.length cap)
theorem InL.grow {w w' : World} {A : Option Addr} {cap : Nat} {vs : List V} (h : InL w A cap vs) (hg : Grow w w') : InL w' A cap vs := In.grow h hg
end
section
open Go.RowKit Go.Shelf
theorem utf8word_any (x0 x1 x2 x3 x4 x5 x6 x7 : UInt8) (bk o n cap : Nat) (w : World) (hn : 8 ≤ n)
 (c0 : w.cell? ⟨bk,o,none⟩ = some (.int .u8 (x0.toNat : Int)))
 (c1 : w.cell? ⟨bk,o + 1,none⟩ = some (.int .u8 (x1.toNat : Int)))
 (c2 : w.cell? ⟨bk,o + 2,none⟩ = some (.int .u8 (x2.toNat : Int)))
 (c3 : w.cell? ⟨bk,o + 3,none⟩ = some (.int .u8 (x3.toNat : Int)))
 (c4 : w.cell? ⟨bk,o + 4,none⟩ = some (.int .u8 (x4.toNat : Int)))
 (c5 : w.cell? ⟨bk,o + 5,none⟩ = some (.int .u8 (x5.toNat : Int)))
 (c6 : w.cell? ⟨bk,o + 6,none⟩ = some (.int .u8 (x6.toNat : Int)))
 (c7 : w.cell? ⟨bk,o + 7,none⟩ = some (.int .u8 (x7.toNat : Int))) :
 Calls Tryz.prog 129 #[.slice (some ⟨bk,o,none⟩) n cap] w fun e w' => e = .returned (.int .u64 (Lib.leNat [x0,x1,x2,x3,x4,x5,x6,x7])) ∧ ∃ q,w' = w.drewN q := by
 have h0 := x0.toNat_lt;have h1 := x1.toNat_lt;have h2 := x2.toNat_lt;have h3 := x3.toNat_lt;have h4 := x4.toNat_lt;have h5 := x5.toNat_lt;have h6 := x6.toNat_lt;have h7 := x7.toNat_lt;have hv : ((Lib.leNat [x0,x1,x2,x3,x4,x5,x6,x7] : Nat) : Int) = (x0.toNat : Int) + (x1.toNat : Int) * 256 + (x2.toNat : Int) * 65536 + (x3.toNat : Int) * 16777216 + (x4.toNat : Int) * 4294967296 + (x5.toNat : Int) * 1099511627776 + (x6.toNat : Int) * 281474976710656 + (x7.toNat : Int) * 72057594037927936 := by
  simp only [Lib.leNat];push_cast;omega
 go_enter Tryz.func129,Tryz.ntmps129;go_wp2_with fail;go_quiet (fail);go_wp2;go_ret;refine ⟨?_,_,rfl⟩;simp (disch := omega) only [u64_or8,u64_or16,u64_or24,u64_or32,u64_or40,u64_or48,u64_or56];rw [hv];rfl
end
section
open Go.RowKit
theorem bytesOf_u8V (l : List UInt8) : Lib.bytesOf (l.map fun b => (b.toNat : Int)) = l := by
 induction l with
 | nil => rfl
 | cons x l ih => simp only [Lib.bytesOf,List.map_cons,List.map_map] at ih ⊢;rw [ih];simp
theorem run_bytes_inV {w : World} {A : Option Addr} {b : List UInt8} (c : Nat) (h : InB w A b) : (Extern.Bytes.bytesOf (.slice A b.length c)).run Tryz.prog w = .ok ⟨b.toArray⟩ w := by
 rcases A with _ | ad
 ·rcases Nat.eq_zero_or_pos b.length with h0 | h0
  ·have : b = [] := List.eq_nil_of_length_eq_zero h0;subst this;rfl
  obtain ⟨_,_,e,_⟩ := h.2 h0;cases e
 have hl := Lib.run_loadBytesX (P := Tryz.prog) w (b.map fun x => (x.toNat : Int)) ad .empty (fun j x hj => by
  rw [List.getElem?_map] at hj
  cases hb : b[j]? with
  | none => rw [hb] at hj;cases hj
  | some y =>
   rw [hb] at hj;have hjl : j < b.length := (List.getElem?_eq_some_iff.1 hb).1;obtain ⟨bk,o,e,hc⟩ := h.2 (by omega);injection e with e;subst e;rw [add_lit]
   cases hj
   exact (hc j _ (by rw [u8s,List.getElem?_map,hb];rfl)).1)
 rw [List.length_map,bytesOf_u8V] at hl;show (Extern.Bytes.loadBytes ad b.length .empty).run Tryz.prog w = _;rw [hl];simp
theorem run_cmp_inV {w : World} {A B : Option Addr} {a b : List UInt8} (c d : Nat) (h : InB w A a) (g : InB w B b) :
 (Extern.BytealgCompare.compare #[.slice A a.length c,.slice B b.length d]).run Tryz.prog w = .ok (.int .i64 (Lib.compareBytes a b)) w := by
 change Sem.run Tryz.prog (do pure (goInt (Extern.BytealgCompare.cmp (← Extern.Bytes.bytesOf (.slice A a.length c)) (← Extern.Bytes.bytesOf (.slice B b.length d))))) w = _;simp only [Sem.run_bind,run_bytes_inV c h,run_bytes_inV d g,Sem.run_pure,Result.andThen];rw [Lib.cmp_eq];rfl
theorem balg_anyV (a b : List UInt8) (A B : Option Addr) (c d : Nat) (w : World) (h : InB w A a) (g : InB w B b) :
 Calls Tryz.prog 54 #[.slice A a.length c,.slice B b.length d] w fun e w' => e = .returned (.int .i64 (Lib.compareBytes a b)) ∧ w' = w := by
 go_enter Tryz.func54,Tryz.ntmps54;go_wp2_with fail;rw [run_callFunc_extern (P := Tryz.prog) (f := 99) (fn := Tryz.f99) (by kernel_rfl) (by kernel_rfl) (by kernel_rfl) (by kernel_rfl) (e := Extern.BytealgCompare.compare) (by kernel_rfl),run_cmp_inV c d h g];simp only [Result.andThen];rw [Oper.upon_value];go_wp2_with fail;go_ret;exact ⟨rfl,rfl⟩
end
section
open Go.RowKit
section
variable {P : Program}
theorem run_copy_cellsZ (w : World) (dT sT ty elem : TypeId) (z g o dLen dCap : Nat) (a : Addr) (sLen sCap : Nat) (cs : List Value)
 (hu : P.underlying dT = some (.slice elem)) (hs : (P.info? elem).map (·.size) = some z) (hn : cs.length = Nat.min sLen dLen * z)
 (hsrc : ∀ j v,cs[j]? = some v → w.cell? (a.add j) = some v) (hc : ∀ j,j < cs.length → (w.cell? ⟨g,o + j,none⟩).isSome = true) (hf : ∀ j,j < cs.length → w.frozen? ⟨g,o + j,none⟩ = false) (h1 : ∀ v ∈ cs,v.oneCell' = true) :
 (Builtin.copy_ #[dT,sT] ty #[.slice (some ⟨g,o,none⟩) dLen dCap,.slice (some a) sLen sCap]).run P w = .ok (goInt (Nat.min sLen dLen)) (w.setCells g o cs) := by
 have hl := run_loadCells_list (P := P) w a cs hsrc;have hst := run_storeCells_cells (P := P) g o cs 0 w (by simpa using hc) (by simpa using hf) h1;simp only [Nat.add_zero] at hst
 cases hq : P.info? elem with
 | none => simp [hq] at hs
 | some i =>
  have hi : i.size = z := by simpa [hq] using hs
  simp [Builtin.copy_,run_underlying hu,Builtin.lenOf,Builtin.firstCells,sizeOf,typeInfo,hq,hi,← hn,hl,hst]
theorem zeroCells_one (zs : Array Value) : (Builtin.zeroCells zs 1).toList = zs.toList := by
 apply List.ext_getElem
 ·simp [Builtin.zeroCells]
 intro i h1 h2;have hi : i < zs.size := by simpa using h2
 simp [Builtin.zeroCells,Nat.mod_eq_of_lt hi,hi]
theorem run_clear_one (w : World) (t e ty : TypeId) (zv : Value) (zs : List Value) (ht : P.underlying t = some (.slice e)) (hv : ∀ w,(zeroValue e).run P w = .ok zv w) (hz : zv.cells.toList = zs) (h1 : ∀ v ∈ zs,v.oneCell' = true) (b o c : Nat)
 (hc : ∀ j,j < zs.length → (w.cell? ⟨b,o + j,none⟩).isSome = true) (hf : ∀ j,j < zs.length → w.frozen? ⟨b,o + j,none⟩ = false) :
 (Builtin.clear_ #[t] ty #[.slice (some ⟨b,o,none⟩) 1 c]).run P w = .ok (.tuple #[]) (w.setCells b o zs) := by
 have hst := run_storeCells_cells (P := P) b o zs 0 w (by simpa using hc) (by simpa using hf) h1;simp only [Nat.add_zero] at hst;simp [Builtin.clear_,run_underlying ht,hv,zeroCells_one,hz,hst]
end
theorem own_open {w : World} {base z n c : Nat} {T : TypeId} {A : Option Addr} {xs : List Value} (h : w.ownsRow base T z (.slice A n c) n xs) (hn : 0 < n) :
 ∃ g cur,A = some ⟨g,0,none⟩ ∧ base ≤ g ∧ w.heap[g]? = some (.cells cur T (0,0)) ∧ n ≤ c ∧ c ≤ maxLen ∧ cur.size = c * z ∧ cur.toList.take (n * z) = xs ∧ xs.length = n * z := by
 obtain ⟨hl,h0 | ⟨g,cap,cur,hv,hb,hg,hnc,hcm,hcs,ht⟩⟩ := h
 ·omega
 injection hv with h1 _ h3;subst h1 h3;exact ⟨g,cur,rfl,hb,hg,hnc,hcm,hcs,ht,hl⟩
theorem own_cells {w : World} {g : Nat} {T : TypeId} {cur : Array Value} (hg : w.heap[g]? = some (.cells cur T (0,0))) (j : Nat) (hj : j < cur.size) : (w.cell? ⟨g,j,none⟩).isSome = true ∧ w.frozen? ⟨g,j,none⟩ = false := by
 constructor
 ·rw [cell_of_row w g j cur T (0,0) hg,Array.getElem?_eq_getElem hj];rfl
 simp [World.frozen?,hg]
theorem own_cell {w : World} {g z n : Nat} {T : TypeId} {cur : Array Value} {xs : List Value} (hg : w.heap[g]? = some (.cells cur T (0,0))) (ht : cur.toList.take (n * z) = xs) (j : Nat) (v : Value) (hj : xs[j]? = some v) : w.cell? ⟨g,j,none⟩ = some v := by
 rw [cell_of_row w g j cur T (0,0) hg,← Array.getElem?_toList];rw [← ht,List.getElem?_take] at hj;split at hj
 ·exact hj
 cases hj
theorem own_mk {w : World} {base z n c g : Nat} {T : TypeId} {cur : Array Value} {xs : List Value} (hb : base ≤ g) (hg : w.heap[g]? = some (.cells cur T (0,0))) (hnc : n ≤ c) (hcm : c ≤ maxLen) (hcs : cur.size = c * z) (ht : cur.toList.take (n * z) = xs) (hl : xs.length = n * z) : w.ownsRow base T z (.slice (some ⟨g,0,none⟩) n c) n xs :=
 ⟨hl,.inr ⟨g,c,cur,rfl,hb,hg,hnc,hcm,hcs,ht⟩⟩
theorem own_set {w : World} {g o : Nat} {T : TypeId} {cur : Array Value} (hg : w.heap[g]? = some (.cells cur T (0,0))) (vs : List Value) (h : o + vs.length ≤ cur.size) :
 ∃ cur' : Array Value,(w.setCells g o vs).heap[g]? = some (.cells cur' T (0,0)) ∧ cur'.size = cur.size ∧ cur'.toList = cur.toList.take o ++ vs ++ cur.toList.drop (o + vs.length) :=
 ⟨_,setCells_block g T vs w o cur hg h,by simp;omega,by simp⟩
theorem take_mid {α : Type} (l vs r : List α) (o k : Nat) (ho : o ≤ l.length) (hk : k = o + vs.length) : (l.take o ++ vs ++ r).take k = l.take o ++ vs := by
 rw [List.take_left'];simp;omega
theorem own_delete {w : World} {base z n c g : Nat} {T : TypeId} {xs zs : List Value} (h : w.ownsRow base T z (.slice (some ⟨g,0,none⟩) n c) n xs) (i : Nat) (hi : i < n) (hz : zs.length = z) :
 ((w.setCells g (i * z) (xs.drop ((i + 1) * z))).setCells g ((n - 1) * z) zs).ownsRow base T z (.slice (some ⟨g,0,none⟩) (n - 1) c) (n - 1) (xs.take (i * z) ++ xs.drop ((i + 1) * z)) := by
 obtain ⟨g',cur,hA,hb,hg,hnc,hcm,hcs,ht,hl⟩ := own_open h (by omega);injection hA with hA;injection hA with hA _;subst hA;have h1 : (i + 1) * z ≤ n * z := Nat.mul_le_mul_right _ hi;have h2 : n * z ≤ c * z := Nat.mul_le_mul_right _ hnc;have h3 : (i + 1) * z = i * z + z := by rw [Nat.add_mul,Nat.one_mul]
 have h4 : n * z = (n - 1) * z + z := by
  obtain ⟨m,rfl⟩ : ∃ m,n = m + 1 := ⟨n - 1,by omega⟩;rw [Nat.add_sub_cancel,Nat.add_mul,Nat.one_mul]
 have hd : (xs.drop ((i + 1) * z)).length = n * z - (i + 1) * z := by rw [List.length_drop,hl]
 obtain ⟨c1,hg1,hs1,e1⟩ := own_set (o := i * z) hg (xs.drop ((i + 1) * z)) (by rw [hd];omega);obtain ⟨c2,hg2,hs2,e2⟩ := own_set (o := (n - 1) * z) hg1 zs (by rw [hz,hs1,hcs];omega);have hcl : cur.toList.length = c * z := by simpa using hcs
 have hxi : cur.toList.take (i * z) = xs.take (i * z) := by rw [← ht,List.take_take,Nat.min_eq_left (by omega)]
 have hc1 : c1.toList.take ((n - 1) * z) = xs.take (i * z) ++ xs.drop ((i + 1) * z) := by
  rw [e1,take_mid _ _ _ _ _ (by omega) (by rw [hd];omega),hxi]
 have hc1l : c1.toList.length = c * z := by rw [Array.length_toList,hs1,hcs]
 refine own_mk hb hg2 (by omega) hcm (by rw [hs2,hs1,hcs]) ?_ ?_
 ·rw [e2,List.append_assoc,List.take_append_of_le_length (by rw [List.length_take];omega),List.take_take,Nat.min_self,hc1]
 rw [List.length_append,List.length_take,hd,hl];omega
theorem own_insert {w : World} {base z n c g : Nat} {T : TypeId} {xs vs : List Value} (h : w.ownsRow base T z (.slice (some ⟨g,0,none⟩) n c) n xs) (i : Nat) (hi : i < n) (hroom : n + 1 ≤ c) (hz : vs.length = z) :
 ((w.setCells g ((i + 1) * z) (xs.drop (i * z))).setCells g (i * z) vs).ownsRow base T z (.slice (some ⟨g,0,none⟩) (n + 1) c) (n + 1) (xs.take (i * z) ++ vs ++ xs.drop (i * z)) := by
 obtain ⟨g',cur,hA,hb,hg,hnc,hcm,hcs,ht,hl⟩ := own_open h (by omega);injection hA with hA;injection hA with hA _;subst hA;have h1 : (i + 1) * z ≤ n * z := Nat.mul_le_mul_right _ hi;have h2 : (n + 1) * z ≤ c * z := Nat.mul_le_mul_right _ hroom;have h3 : (i + 1) * z = i * z + z := by rw [Nat.add_mul,Nat.one_mul]
 have h4 : (n + 1) * z = n * z + z := by rw [Nat.add_mul,Nat.one_mul]
 have hd : (xs.drop (i * z)).length = n * z - i * z := by rw [List.length_drop,hl]
 obtain ⟨c1,hg1,hs1,e1⟩ := own_set (o := (i + 1) * z) hg (xs.drop (i * z)) (by rw [hd];omega);obtain ⟨c2,hg2,hs2,e2⟩ := own_set (o := i * z) hg1 vs (by rw [hz,hs1,hcs];omega);have hcl : cur.toList.length = c * z := by simpa using hcs
 have hxi : cur.toList.take (i * z) = xs.take (i * z) := by rw [← ht,List.take_take,Nat.min_eq_left (by omega)]
 have hc1 : c1.toList.take (i * z) = xs.take (i * z) := by
  rw [e1,List.append_assoc,List.take_append_of_le_length (by rw [List.length_take];omega),List.take_take,Nat.min_eq_left (by omega),hxi]
 have hc1d : (c1.toList.drop (i * z + z)).take (n * z - i * z) = xs.drop (i * z) := by
  rw [e1,← h3,List.append_assoc,List.drop_left' (by rw [List.length_take];omega),List.take_left' hd]
 refine own_mk hb hg2 hroom hcm (by rw [hs2,hs1,hcs]) ?_ ?_
 ·rw [e2,hz,hc1];have hl2 : (xs.take (i * z) ++ vs).length = i * z + z := by rw [List.length_append,List.length_take,hz];omega
  rw [h4,show n * z + z = (i * z + z) + (n * z - i * z) by omega,← hl2,List.take_length_add_append,hl2,hc1d]
 rw [List.length_append,List.length_append,List.length_take,hz,hd];omega
theorem own_grow {w : World} {base z n i G N : Nat} {T : TypeId} {ROW : Array Value} {xs vs : List Value} (hN : w.heap[N]? = some (.cells ROW T (0,0))) (hb : base ≤ N) (hs : ROW.size = G * z) (ht : ROW.toList.take (i * z) = xs.take (i * z)) (hl : xs.length = n * z) (hz : vs.length = z) (hi : i < n) (hG : n + 1 ≤ G) (hGm : G ≤ maxLen) :
 ((w.setCells N (i * z) vs).drew.setCells N ((i + 1) * z) (xs.drop (i * z))).ownsRow base T z (.slice (some ⟨N,0,none⟩) (n + 1) G) (n + 1) (xs.take (i * z) ++ vs ++ xs.drop (i * z)) := by
 have h1 : (i + 1) * z ≤ n * z := Nat.mul_le_mul_right _ hi;have h2 : (n + 1) * z ≤ G * z := Nat.mul_le_mul_right _ hG;have h3 : (i + 1) * z = i * z + z := by rw [Nat.add_mul,Nat.one_mul]
 have h4 : (n + 1) * z = n * z + z := by rw [Nat.add_mul,Nat.one_mul]
 have hd : (xs.drop (i * z)).length = n * z - i * z := by rw [List.length_drop,hl]
 obtain ⟨c1,hg1,hs1,e1⟩ := own_set (o := i * z) hN vs (by rw [hz,hs];omega);obtain ⟨c2,hg2,hs2,e2⟩ := own_set (w := (w.setCells N (i * z) vs).drew) (o := (i + 1) * z) hg1 (xs.drop (i * z)) (by rw [hd,hs1,hs];omega);have hcl : ROW.toList.length = G * z := by simpa using hs
 have hc1 : c1.toList.take ((i + 1) * z) = xs.take (i * z) ++ vs := by
  rw [e1,take_mid _ _ _ _ _ (by omega) (by omega),ht]
 refine own_mk hb hg2 hG hGm (by rw [hs2,hs1,hs]) ?_ ?_
 ·rw [e2,take_mid _ _ _ _ _ (by rw [Array.length_toList,hs1,hs];omega) (by rw [hd];omega),hc1]
 rw [List.length_append,List.length_append,List.length_take,hz,hd];omega
end
end Go.Proofs.YtndjopkdbdcmdaaGreatDoor
