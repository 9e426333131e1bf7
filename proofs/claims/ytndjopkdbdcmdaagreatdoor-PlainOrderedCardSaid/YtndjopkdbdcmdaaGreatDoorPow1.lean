/- Part 1 of the proof of pordered_card. -/
import Derived.Test.YtndjopkdbdcmdaaGreatDoorTk
import Derived.WalkKit
import Derived.WalkSpells
import Derived.WalkLawsBesides
import Derived.Deep.LoopGhost
import Derived.Deep.AppendLies
import Derived.Deep.Draws
import Derived.Deep.AppendSrc
import Derived.Maps.AppendAt
import Derived.Lib.AppendStr
import Derived.Laws.BitsAllLaws
import Derived.Laws.Bits64
import Derived.Lib.ValidU
import Derived.Test.YtndjopkdbdcmdaaGreatDoorRows
set_option linter.unusedVariables false
set_option linter.unusedSimpArgs false
set_option maxRecDepth 100000
set_option maxHeartbeats 12800000
namespace Go.Proofs.YtndjopkdbdcmdaaGreatDoor
section
open Go.RowKit
theorem hide {p : Prop} (h : p) : Hid p := h
inductive V where
 | mk (k : Int) (n : Nat) (b : List UInt8) (l : List V) (f : List (ByteArray × V))
namespace V
def k : V → Int | mk k _ _ _ _ => k
def n : V → Nat | mk _ n _ _ _ => n
def b : V → List UInt8 | mk _ _ b _ _ => b
def l : V → List V | mk _ _ _ l _ => l
def f : V → List (ByteArray × V) | mk _ _ _ _ f => f
def zero : V := mk 0 0 [] [] []
theorem sizeOf_l {k : Int} {n : Nat} {b : List UInt8} {l : List V} {f : List (ByteArray × V)} {x : V} (h : x ∈ l) : SizeOf.sizeOf x < SizeOf.sizeOf (mk k n b l f) := by
 have := List.sizeOf_lt_of_mem h;simp only [mk.sizeOf_spec];omega
theorem sizeOf_f {k : Int} {n : Nat} {b : List UInt8} {l : List V} {f : List (ByteArray × V)} {x : ByteArray × V} (h : x ∈ f) : SizeOf.sizeOf x.2 < SizeOf.sizeOf (mk k n b l f) := by
 have := List.sizeOf_lt_of_mem h;obtain ⟨s,y⟩ := x;simp only [mk.sizeOf_spec,Prod.mk.sizeOf_spec] at *;omega
theorem ind {p : V → Prop} (h : ∀ k n b l f,(∀ x ∈ l,p x) → (∀ x ∈ f,p x.2) → p (mk k n b l f)) (v : V) : p v := by
 match v with
 | mk k n b l f => exact h k n b l f (fun x _ => ind h x) (fun x _ => ind h x.2)
termination_by SizeOf.sizeOf v
decreasing_by
 ·exact sizeOf_l ‹_›
 exact sizeOf_f ‹_›
end V
structure Cv where
 k : Int
 n : Int
 aB : Option Addr
 nB : Nat
 cB : Nat
 aL : Option Addr
 nL : Nat
 cL : Nat
 aF : Option Addr
 nF : Nat
 cF : Nat
abbrev Cv.cells (c : Cv) : Array Value := #[.int .i64 c.k,.int .u64 c.n,.slice c.aB c.nB c.cB,.slice c.aL c.nL c.cL,.slice c.aF c.nF c.cF]
abbrev Cv.agg (c : Cv) : Value := .agg c.cells
abbrev Cv.zero : Cv := ⟨0,0,none,0,0,none,0,0,none,0,0⟩
def Reads (C : Addr → Value → Prop) (size : Nat) (A : Option Addr) (n : Nat) (xs : List Value) : Prop :=
 xs.length = n * size ∧ (0 < n → ∃ bk o,A = some ⟨bk,o,none⟩ ∧ ∀ j u,xs[j]? = some u → C ⟨bk,o + j,none⟩ u)
def u8s (b : List UInt8) : List Value := b.map fun x => .int .u8 (x.toNat : Int)
def At5 (C : Addr → Value → Prop) (bk o : Nat) (c : Cv) : Prop :=
 C ⟨bk,o,none⟩ (.int .i64 c.k) ∧ C ⟨bk,o + 1,none⟩ (.int .u64 c.n) ∧ C ⟨bk,o + 2,none⟩ (.slice c.aB c.nB c.cB) ∧ C ⟨bk,o + 3,none⟩ (.slice c.aL c.nL c.cL) ∧ C ⟨bk,o + 4,none⟩ (.slice c.aF c.nF c.cF)
def IsV (C : Addr → Value → Prop) : V → Cv → Prop
 | .mk k n b l f,c => c.k = k ∧ c.n = (n : Int) ∧ c.nB = b.length ∧ c.nL = l.length ∧ c.nF = f.length ∧
  -9223372036854775808 ≤ k ∧ k ≤ 9223372036854775807 ∧ n < 18446744073709551616 ∧
  b.length ≤ c.cB ∧ b.length ≤ 140737488355328 ∧ l.length ≤ c.cL ∧ l.length ≤ 140737488355328 ∧ f.length ≤ c.cF ∧ f.length ≤ 140737488355328 ∧
  Reads C 1 c.aB b.length (u8s b) ∧
  (∀ i (h : i < l.length),∃ bk o x,c.aL = some ⟨bk,o,none⟩ ∧ At5 C bk (o + i * 5) x ∧ IsV C l[i] x) ∧
  (∀ i (h : i < f.length),∃ bk o x,c.aF = some ⟨bk,o,none⟩ ∧ C ⟨bk,o + i * 6,none⟩ (.string f[i].1) ∧ f[i].1.size ≤ 140737488355328 ∧ At5 C bk (o + i * 6 + 1) x ∧ IsV C f[i].2 x)
termination_by v => SizeOf.sizeOf v
decreasing_by
 ·exact V.sizeOf_l (List.getElem_mem _)
 exact V.sizeOf_f (List.getElem_mem _)
def AtW (w : World) (lo hi : Nat) (p : Addr) (u : Value) : Prop := w.cell? p = some u ∧ lo ≤ p.block ∧ p.block < hi
theorem Reads.mono {C C' : Addr → Value → Prop} (h : ∀ p u,C p u → C' p u) {size : Nat} {A : Option Addr} {n : Nat} {xs : List Value} (hr : Reads C size A n xs) : Reads C' size A n xs :=
 ⟨hr.1,fun hn => by obtain ⟨bk,o,e,hc⟩ := hr.2 hn;exact ⟨bk,o,e,fun j u hu => h _ _ (hc j u hu)⟩⟩
theorem At5.mono {C C' : Addr → Value → Prop} (h : ∀ p u,C p u → C' p u) {bk o : Nat} {c : Cv} (hc : At5 C bk o c) : At5 C' bk o c :=
 ⟨h _ _ hc.1,h _ _ hc.2.1,h _ _ hc.2.2.1,h _ _ hc.2.2.2.1,h _ _ hc.2.2.2.2⟩
theorem IsV.mono {C C' : Addr → Value → Prop} (h : ∀ p u,C p u → C' p u) (v : V) : ∀ c,IsV C v c → IsV C' v c := by
 induction v using V.ind with
 | h k n b l f hl hf =>
  intro c hv;rw [IsV] at hv ⊢;obtain ⟨e1,e2,e3,e4,e5,h1,h2,h3,h4,h5,h6,h7,h8,h9,hb,hL,hF⟩ := hv;refine ⟨e1,e2,e3,e4,e5,h1,h2,h3,h4,h5,h6,h7,h8,h9,hb.mono h,fun i hi => ?_,fun i hi => ?_⟩
  ·obtain ⟨bk,o,x,e,k0,kv⟩ := hL i hi;exact ⟨bk,o,x,e,k0.mono h,hl _ (List.getElem_mem _) _ kv⟩
  obtain ⟨bk,o,x,e,ks,kz,k0,kv⟩ := hF i hi;exact ⟨bk,o,x,e,h _ _ ks,kz,k0.mono h,hf _ (List.getElem_mem _) _ kv⟩
theorem AtW.below {w w' : World} {B lo hi lo' hi' : Nat} (hb : Below B w w') (h0 : lo' ≤ lo) (h1 : hi ≤ B) (h2 : hi ≤ hi') (p : Addr) (u : Value) (h : AtW w lo hi p u) : AtW w' lo' hi' p u :=
 ⟨(hb.cell (Nat.lt_of_lt_of_le h.2.2 h1)).trans h.1,Nat.le_trans h0 h.2.1,Nat.lt_of_lt_of_le h.2.2 h2⟩
def Grow (w w' : World) : Prop := Below w.heap.size w w'
theorem Grow.below {w w' : World} (h : Grow w w') : Below w.heap.size w w' := h
theorem Grow.refl (w : World) : Grow w w := Below.refl _ _
theorem Grow.size {w w' : World} (h : Grow w w') : w.heap.size ≤ w'.heap.size := Below.size h
theorem Grow.trans {a b c : World} (h : Grow a b) (k : Grow b c) : Grow a c := Below.trans h (Below.mono k h.size)
theorem Grow.alloc {a w : World} (h : Grow a w) (o : Obj) : Grow a (w.alloc o) := Below.alloc h h.size o
theorem Grow.drew {a w : World} (h : Grow a w) : Grow a w.drew := Below.drew h
theorem Grow.drewN {a w : World} (h : Grow a w) (n : Nat) : Grow a (w.drewN n) := ⟨h.os,h.tape,h.output,h.size,h.block⟩
theorem Grow.setCell {a w : World} (h : Grow a w) {p : Addr} (hp : a.heap.size ≤ p.block) (u : Value) : Grow a (w.setCell p u) := Below.setCell h hp u
theorem Grow.grown {a w w' : World} {row : Option Nat} (h : Grow a w) (hg : w.grownBy w' row) (hr : ∀ k,row = some k → a.heap.size ≤ k) : Grow a w' := Below.grown h hg h.size hr
def In (w : World) (v : V) (c : Cv) : Prop := IsV (AtW w 0 w.heap.size) v c
theorem In.grow {w w' : World} {v : V} {c : Cv} (h : In w v c) (hb : Grow w w') : In w' v c :=
 IsV.mono (AtW.below hb.below (Nat.le_refl _) (Nat.le_refl _) hb.size) v c h
def InB (w : World) (A : Option Addr) (b : List UInt8) : Prop := Reads (AtW w 0 w.heap.size) 1 A b.length (u8s b)
theorem InB.grow {w w' : World} {A : Option Addr} {b : List UInt8} (h : InB w A b) (hb : Grow w w') : InB w' A b :=
 Reads.mono (AtW.below hb.below (Nat.le_refl _) (Nat.le_refl _) hb.size) h
def InU (w : World) (hi : Nat) (v : V) (c : Cv) : Prop := IsV (AtW w 0 hi) v c
theorem InU.below {w w' : World} {B hi hi' : Nat} {v : V} {c : Cv} (h : InU w hi v c) (hb : Below B w w') (h1 : hi ≤ B) (h2 : hi ≤ hi') : InU w' hi' v c :=
 IsV.mono (AtW.below hb (Nat.le_refl _) h1 h2) v c h
theorem In.under {w : World} {v : V} {c : Cv} (h : In w v c) : InU w w.heap.size v c := h
theorem InU.in_ {w : World} {hi : Nat} {v : V} {c : Cv} (h : InU w hi v c) (hz : hi ≤ w.heap.size) : In w v c := IsV.mono (AtW.below (Below.refl hi w) (Nat.le_refl _) (Nat.le_refl _) hz) v c h
theorem InU.open {w : World} {hi : Nat} {k : Int} {n : Nat} {b : List UInt8} {l : List V} {f : List (ByteArray × V)} {c : Cv} (h : InU w hi (.mk k n b l f) c) :
 ∃ (aB aL aF : Option Addr) (cB cL cF : Nat),c = ⟨k,(n : Int),aB,b.length,cB,aL,l.length,cL,aF,f.length,cF⟩ ∧
  -9223372036854775808 ≤ k ∧ k ≤ 9223372036854775807 ∧ n < 18446744073709551616 ∧
  b.length ≤ cB ∧ b.length ≤ 140737488355328 ∧ l.length ≤ cL ∧ l.length ≤ 140737488355328 ∧ f.length ≤ cF ∧ f.length ≤ 140737488355328 ∧ Reads (AtW w 0 hi) 1 aB b.length (u8s b) := by
 unfold InU at h;rw [IsV] at h;obtain ⟨c1,c2,aB,c3,cB,aL,c4,cL,aF,c5,cF⟩ := c;obtain ⟨e1,e2,e3,e4,e5,h1,h2,h3,h4,h5,h6,h7,h8,h9,hb,hL,hF⟩ := h;dsimp only at *;subst e1 e2 e3 e4 e5;exact ⟨aB,aL,aF,cB,cL,cF,rfl,h1,h2,h3,h4,h5,h6,h7,h8,h9,hb⟩
theorem InU.elemL {w : World} {hi : Nat} {k : Int} {n : Nat} {b : List UInt8} {l : List V} {f : List (ByteArray × V)} {c : Cv} (h : InU w hi (.mk k n b l f) c) (i : Nat) (hil : i < l.length) :
 ∃ bk o x,c.aL = some ⟨bk,o,none⟩ ∧ bk < hi ∧ w.cell? ⟨bk,o + i * 5,none⟩ = some (.int .i64 x.k) ∧ w.cell? ⟨bk,o + i * 5 + 1,none⟩ = some (.int .u64 x.n) ∧
  w.cell? ⟨bk,o + i * 5 + 2,none⟩ = some (.slice x.aB x.nB x.cB) ∧ w.cell? ⟨bk,o + i * 5 + 3,none⟩ = some (.slice x.aL x.nL x.cL) ∧
  w.cell? ⟨bk,o + i * 5 + 4,none⟩ = some (.slice x.aF x.nF x.cF) ∧ InU w hi l[i] x := by
 unfold InU at h;rw [IsV] at h;obtain ⟨e1,e2,e3,e4,e5,h1,h2,h3,h4,h5,h6,h7,h8,h9,hb,hL,hF⟩ := h;obtain ⟨bk,o,x,e,⟨k0,k1,k2,k3,k4⟩,kv⟩ := hL i hil;exact ⟨bk,o,x,e,k0.2.2,k0.1,k1.1,k2.1,k3.1,k4.1,kv⟩
theorem InU.elemF {w : World} {hi : Nat} {k : Int} {n : Nat} {b : List UInt8} {l : List V} {f : List (ByteArray × V)} {c : Cv} (h : InU w hi (.mk k n b l f) c) (i : Nat) (hif : i < f.length) :
 ∃ bk o x,c.aF = some ⟨bk,o,none⟩ ∧ bk < hi ∧ w.cell? ⟨bk,o + i * 6,none⟩ = some (.string f[i].1) ∧ f[i].1.size ≤ 140737488355328 ∧
  w.cell? ⟨bk,o + i * 6 + 1,none⟩ = some (.int .i64 x.k) ∧ w.cell? ⟨bk,o + i * 6 + 1 + 1,none⟩ = some (.int .u64 x.n) ∧
  w.cell? ⟨bk,o + i * 6 + 1 + 2,none⟩ = some (.slice x.aB x.nB x.cB) ∧ w.cell? ⟨bk,o + i * 6 + 1 + 3,none⟩ = some (.slice x.aL x.nL x.cL) ∧
  w.cell? ⟨bk,o + i * 6 + 1 + 4,none⟩ = some (.slice x.aF x.nF x.cF) ∧ InU w hi f[i].2 x := by
 unfold InU at h;rw [IsV] at h;obtain ⟨e1,e2,e3,e4,e5,h1,h2,h3,h4,h5,h6,h7,h8,h9,hb,hL,hF⟩ := h;obtain ⟨bk,o,x,e,ks,kz,⟨k0,k1,k2,k3,k4⟩,kv⟩ := hF i hif;exact ⟨bk,o,x,e,ks.2.2,ks.1,kz,k0.1,k1.1,k2.1,k3.1,k4.1,kv⟩
theorem In.open {w : World} {k : Int} {n : Nat} {b : List UInt8} {l : List V} {f : List (ByteArray × V)} {c : Cv} (h : In w (.mk k n b l f) c) :
 ∃ (aB aL aF : Option Addr) (cB cL cF : Nat),c = ⟨k,(n : Int),aB,b.length,cB,aL,l.length,cL,aF,f.length,cF⟩ ∧
  -9223372036854775808 ≤ k ∧ k ≤ 9223372036854775807 ∧ n < 18446744073709551616 ∧
  b.length ≤ cB ∧ b.length ≤ 140737488355328 ∧ l.length ≤ cL ∧ l.length ≤ 140737488355328 ∧ f.length ≤ cF ∧ f.length ≤ 140737488355328 ∧ InB w aB b := InU.open h
theorem In.elemL {w : World} {k : Int} {n : Nat} {b : List UInt8} {l : List V} {f : List (ByteArray × V)} {c : Cv} (h : In w (.mk k n b l f) c) (i : Nat) (hi : i < l.length) :
 ∃ bk o x,c.aL = some ⟨bk,o,none⟩ ∧ bk < w.heap.size ∧ w.cell? ⟨bk,o + i * 5,none⟩ = some (.int .i64 x.k) ∧ w.cell? ⟨bk,o + i * 5 + 1,none⟩ = some (.int .u64 x.n) ∧
  w.cell? ⟨bk,o + i * 5 + 2,none⟩ = some (.slice x.aB x.nB x.cB) ∧ w.cell? ⟨bk,o + i * 5 + 3,none⟩ = some (.slice x.aL x.nL x.cL) ∧
  w.cell? ⟨bk,o + i * 5 + 4,none⟩ = some (.slice x.aF x.nF x.cF) ∧ In w l[i] x := InU.elemL h i hi
theorem In.elemF {w : World} {k : Int} {n : Nat} {b : List UInt8} {l : List V} {f : List (ByteArray × V)} {c : Cv} (h : In w (.mk k n b l f) c) (i : Nat) (hi : i < f.length) :
 ∃ bk o x,c.aF = some ⟨bk,o,none⟩ ∧ bk < w.heap.size ∧ w.cell? ⟨bk,o + i * 6,none⟩ = some (.string f[i].1) ∧ f[i].1.size ≤ 140737488355328 ∧
  w.cell? ⟨bk,o + i * 6 + 1,none⟩ = some (.int .i64 x.k) ∧ w.cell? ⟨bk,o + i * 6 + 1 + 1,none⟩ = some (.int .u64 x.n) ∧
  w.cell? ⟨bk,o + i * 6 + 1 + 2,none⟩ = some (.slice x.aB x.nB x.cB) ∧ w.cell? ⟨bk,o + i * 6 + 1 + 3,none⟩ = some (.slice x.aL x.nL x.cL) ∧
  w.cell? ⟨bk,o + i * 6 + 1 + 4,none⟩ = some (.slice x.aF x.nF x.cF) ∧ In w f[i].2 x := InU.elemF h i hi
def Blk (w : World) (g : Nat) (t : TypeId) (cs : Array Value) : Prop := w.heap[g]? = some (.cells cs t (0,0))
theorem Blk.lt {w : World} {g : Nat} {t : TypeId} {cs : Array Value} (h : Blk w g t cs) : g < w.heap.size := by
 rcases Nat.lt_or_ge g w.heap.size with hlt | hge
 ·exact hlt
 unfold Blk at h;rw [Array.getElem?_eq_none hge] at h;cases h
theorem Blk.grow {w w' : World} {g : Nat} {t : TypeId} {cs : Array Value} (h : Blk w g t cs) (hb : Grow w w') : Blk w' g t cs := (hb.below.block g h.lt).trans h
theorem Blk.new (w : World) (t : TypeId) (cs : Array Value) : Blk (w.alloc (.cells cs t)) w.heap.size t cs := heap_alloc_new w _
theorem Blk.new' {w : World} {g : Nat} (h : g = w.heap.size) (t : TypeId) (cs : Array Value) : Blk (w.alloc (.cells cs t)) g t cs := h ▸ Blk.new w t cs
theorem Blk.cell {w : World} {g : Nat} {t : TypeId} {cs : Array Value} (h : Blk w g t cs) (i : Nat) : w.cell? ⟨g,i,none⟩ = cs[i]? := cell_of_row w g i cs t (0,0) h
theorem Blk.frozen {w : World} {g : Nat} {t : TypeId} {cs : Array Value} (h : Blk w g t cs) (i : Nat) : w.frozen? ⟨g,i,none⟩ = false := by
 unfold Blk at h;simp [World.frozen?,h]
theorem Blk.set_ {w : World} {g : Nat} {t : TypeId} {cs : Array Value} (h : Blk w g t cs) (i : Nat) (u : Value) : Blk (w.setCell ⟨g,i,none⟩ u) g t (cs.setIfInBounds i u) := by
 unfold Blk at h ⊢;simp [World.setCell,Array.getElem?_modify,h]
theorem Blk.far {w : World} {g : Nat} {t : TypeId} {cs : Array Value} (h : Blk w g t cs) {p : Addr} (hp : g ≠ p.block) (u : Value) : Blk (w.setCell p u) g t cs := (Below.heap_setCell w p u g hp).trans h
theorem Blk.drew {w : World} {g : Nat} {t : TypeId} {cs : Array Value} (h : Blk w g t cs) : Blk w.drew g t cs := h
theorem Blk.drewN {w : World} {g : Nat} {t : TypeId} {cs : Array Value} (h : Blk w g t cs) (n : Nat) : Blk (w.drewN n) g t cs := h
theorem Blk.alloc {w : World} {g : Nat} {t : TypeId} {cs : Array Value} (h : Blk w g t cs) (o : Obj) : Blk (w.alloc o) g t cs := h.grow ((Grow.refl w).alloc o)
end
section
open Go.RowKit
theorem u8s_length (b : List UInt8) : (u8s b).length = b.length := by simp [u8s]
theorem u8s_append (a b : List UInt8) : u8s (a ++ b) = u8s a ++ u8s b := by simp [u8s]
theorem u8s_one (b : List UInt8) : ∀ u ∈ u8s b,u.oneCell' = true := by
 intro u hu;obtain ⟨x,_,rfl⟩ := List.mem_map.1 hu;rfl
theorem u8s_get (b : List UInt8) (j : Nat) (h : j < b.length) : (u8s b)[j]? = some (.int .u8 (b[j].toNat : Int)) := by simp [u8s,h]
theorem add_lit (b o j : Nat) : (⟨b,o,none⟩ : Addr).add j = ⟨b,o + j,none⟩ := by unfold Addr.add;split <;> simp_all
theorem take_set_succ {α : Type} (v : α) : ∀ (l : List α) (o : Nat),o < l.length → (l.set o v).take (o + 1) = l.take o ++ [v]
 | [],o,h => by simp at h
 | x :: l,0,_ => by simp
 | x :: l,o + 1,h => by
  simp only [List.set_cons_succ,List.take_succ_cons,List.cons_append];rw [take_set_succ v l o (by simpa using h)]
theorem drop_set_lt {α : Type} (v : α) : ∀ (l : List α) (o k : Nat),o < k → (l.set o v).drop k = l.drop k
 | [],_,_,_ => by simp
 | x :: l,0,k + 1,_ => by simp
 | x :: l,o + 1,k + 1,h => by
  simp only [List.set_cons_succ,List.drop_succ_cons];exact drop_set_lt v l o k (by omega)
theorem setCells_block (g : Nat) (e : TypeId) : ∀ (vs : List Value) (w : World) (o : Nat) (cur : Array Value),w.heap[g]? = some (.cells cur e (0,0)) → o + vs.length ≤ cur.size →
 (w.setCells g o vs).heap[g]? = some (.cells (cur.toList.take o ++ vs ++ cur.toList.drop (o + vs.length)).toArray e (0,0))
 | [],w,o,cur,hg,ho => by
  simp only [World.setCells,List.append_nil,List.length_nil,Nat.add_zero,List.take_append_drop,Array.toArray_toList];exact hg
 | v :: r,w,o,cur,hg,ho => by
  simp only [World.setCells];have h1 : (w.setCell ⟨g,o,none⟩ v).heap[g]? = some (.cells (cur.setIfInBounds o v) e (0,0)) := by
   simp [World.setCell,Array.getElem?_modify,hg]
  simp only [List.length_cons] at ho;rw [setCells_block g e r _ (o + 1) _ h1 (by simp;omega)];have hl : o < cur.toList.length := by simp;omega
  simp only [Array.toList_setIfInBounds,take_set_succ v _ _ hl,drop_set_lt v _ o (o + 1 + r.length) (by omega),List.append_assoc,List.cons_append,List.nil_append,List.length_cons];rw [show o + 1 + r.length = o + (r.length + 1) from by omega]
theorem setCells_grown (g : Nat) (R : Option Nat) (hR : R = some g) : ∀ (vs : List Value) (w : World) (o : Nat),w.grownBy (w.setCells g o vs) R
 | [],w,_ => World.grownBy.refl w _
 | v :: r,w,o => by
  subst hR;have h1 : w.grownBy (w.setCell ⟨g,o,none⟩ v) (some g) := ⟨rfl,rfl,rfl,by simp [World.setCell],fun k _ hk => Below.heap_setCell w ⟨g,o,none⟩ v k (fun e => hk (by rw [e]))⟩;exact World.grownBy.trans h1 (setCells_grown g _ rfl r _ (o + 1))
section
variable {P : Program} {w : World}
theorem Src.ofReads {size : Nat} {tx e' : TypeId} (hk : P.underlying tx = some (.slice e')) {lo hi : Nat} {A : Option Addr} {n c : Nat} {news : List Value} (h : Reads (AtW w lo hi) size A n news)
 (h1 : ∀ u ∈ news,u.oneCell' = true) : Src P size tx (.slice A n c) n news w := by
 rcases Nat.eq_zero_or_pos n with h0 | h0
 ·subst h0;have hn : news = [] := List.eq_nil_of_length_eq_zero (by simpa using h.1);subst hn;rcases A with _ | ad
  ·exact Src.ofNil w hk c
  exact Src.ofSlice w hk ad 0 c [] (by simp) (fun j u hu => by simp at hu) h1
 obtain ⟨bk,o,rfl,hc⟩ := h.2 h0;exact Src.ofSlice w hk ⟨bk,o,none⟩ n c news h.1 (fun j u hu => by rw [add_lit];exact (hc j u hu).1) h1
theorem fits_wide {need old : Nat} (h : old < need) (hb : need ≤ 140737488400000) : Builtin.nextslicecap need old * 1 ≤ 281474976710656 := by
 rw [Nat.mul_one];unfold Builtin.nextslicecap;split
 ·omega
 split
 ·omega
 rw [growBy_four]
 repeat' split
 all_goals omega
theorem run_append_fit (base : Nat) (t tx ty e : TypeId) (i : TypeInfo) (z : Value) (size bytes : Nat) (ht : P.underlying t = some (.slice e)) (hi : P.info? e = some i) (hz : i.zero = some z)
 (hsize : i.size = size) (hby : i.bytes = bytes) (hzs : z.cells.size = size)
 (v : Value) (n : Nat) (xs : List Value) (hown : w.ownsRow base e size v n xs) (x : Value) (m : Nat) (news : List Value) (hs : Src P size tx x m news w)
 (hfit : ∀ old,old < n + m → Builtin.nextslicecap (n + m) old * bytes ≤ 281474976710656) (h63 : n + m ≤ maxLen) (hbase : base ≤ w.heap.size) :
 ∃ A c w',(Builtin.append_ #[t,tx] ty #[v,x]).run P w = .ok (.slice A (n + m) c) w' ∧ w'.ownsRow base e size (.slice A (n + m) c) (n + m) (xs ++ news) ∧ w.grownBy w' v.ownBlock ∧
  (Value.ownBlock (.slice A (n + m) c) = v.ownBlock ∨ Value.ownBlock (.slice A (n + m) c) = some w.heap.size) := by
 subst hsize;subst hby
 have hsmall : n + m ≤ 9223372036854775807 := by simp only [maxLen] at h63;omega
 have hlen : (xs ++ news).length = (n + m) * i.size := by rw [List.length_append,hown.1,hs.newsLen,Nat.add_mul]
 have grown : ∀ (old : Nat),old < n + m → ∀ (row : Option Nat),
  (w.drew.alloc (.cells ((xs ++ news).toArray ++ Builtin.zeroCells z.cells (grownCap w (n + m) old e - (n + m))) e)).ownsRow base e i.size
   (.slice (some ⟨w.heap.size,0,none⟩) (n + m) (grownCap w (n + m) old e)) (n + m) (xs ++ news) ∧
  w.grownBy (w.drew.alloc (.cells ((xs ++ news).toArray ++ Builtin.zeroCells z.cells (grownCap w (n + m) old e - (n + m))) e)) row := by
  intro old ho row;have hge := grownCap_ge w (n + m) old e;have hcm : grownCap w (n + m) old e ≤ maxLen := grownCap_le_maxLen w (n + m) old e h63;refine ⟨⟨hlen,.inr ⟨w.heap.size,_,_,rfl,hbase,heap_alloc_new w.drew _,hge,hcm,?_,?_⟩⟩,⟨rfl,rfl,rfl,by simp,fun k hk _ => Below.heap_alloc w.drew _ k hk⟩⟩
  ·simp only [Array.size_append,List.size_toArray,size_zeroCells,hzs,hlen,← Nat.add_mul];congr 1;omega
  simp only [Array.toList_append,List.append_assoc];rw [← List.append_assoc,← hlen];exact List.take_left
 rcases hown.2 with ⟨rfl,rfl⟩ | ⟨g,cap,cur,rfl,hbg,hg,hnc,hcm,hcs,htake⟩
 ·have hx : xs = [] := List.eq_nil_of_length_eq_zero (by simpa using hown.1);subst hx;by_cases hm : m = 0
  ·subst hm;have hn : news = [] := List.eq_nil_of_length_eq_zero (by simpa using hs.newsLen);subst hn;refine ⟨none,0,w,?_,World.ownsRow_nil w base e _,⟨rfl,rfl,rfl,Nat.le_refl _,fun _ _ _ => rfl⟩,.inl rfl⟩;have hc := hs.cells;rcases hs.kind with ⟨e',hk⟩ | hk <;> simp [Builtin.append_,run_underlying ht,run_underlying hk,sizeOf,typeInfo,hi,hs.len,hc]
  have hr := run_append_grow_src (P := P) w t tx ty e i z ht hi hz none 0 0 [] (run_firstCells_none w.drew i.size 0 0 0) x m news hs (by omega) (by omega) (hfit _ (by omega));have hgr := grown 0 (by omega) (Value.ownBlock (.slice none 0 0));exact ⟨_,_,_,hr,hgr.1,hgr.2,.inr rfl⟩
 by_cases hroom : n + m ≤ cap
 ·have hcell : ∀ j,w.cell? ⟨g,j,none⟩ = cur[j]? := fun j => cell_of_row w g j cur e (0,0) hg
  have hin : ∀ j,j < news.length → n * i.size + j < cur.size := fun j hj => by
   rw [hcs];rw [hs.newsLen] at hj;have : (n + m) * i.size ≤ cap * i.size := Nat.mul_le_mul_right _ hroom;rw [Nat.add_mul] at this;omega
  have hr := run_append_room_src (P := P) w t tx ty e i ht hi g 0 n cap x m news hs hroom
   (fun j hj => by rw [hcell,Nat.zero_add];simp [hin j hj]) (fun j hj => by simp [World.frozen?,hg])
  rw [Nat.zero_add] at hr;refine ⟨_,_,_,hr,⟨hlen,.inr ⟨g,cap,(cur.toList.take (n * i.size) ++ news ++ cur.toList.drop (n * i.size + news.length)).toArray,rfl,hbg,setCells_block g e news w (n * i.size) cur hg ?_,hroom,hcm,?_,?_⟩⟩,?_,.inl rfl⟩
  ·have : (n + m) * i.size ≤ cap * i.size := Nat.mul_le_mul_right _ hroom;rw [Nat.add_mul] at this;rw [hcs,hs.newsLen];omega
  ·have : (n + m) * i.size ≤ cap * i.size := Nat.mul_le_mul_right _ hroom;rw [Nat.add_mul] at this;simp only [List.size_toArray,List.length_append,List.length_take,List.length_drop,Array.length_toList,hs.newsLen,hcs];omega
  ·rw [htake,← hlen];exact List.take_left
  exact setCells_grown g _ rfl news w (n * i.size)
 have holds : ∀ j u,xs[j]? = some u → w.cell? ((⟨g,0,none⟩ : Addr).add j) = some u := hown.cells (g := g) rfl;have hr := run_append_grow_src (P := P) w t tx ty e i z ht hi hz (some ⟨g,0,none⟩) n cap xs (run_firstCells_some w.drew i.size n ⟨g,0,none⟩ n cap xs hown.1 (by simpa using holds)) x m news hs (by omega) (by omega) (hfit _ (by omega));have hgr := grown cap (by omega) (Value.ownBlock (.slice (some ⟨g,0,none⟩) n cap));exact ⟨_,_,_,hr,hgr.1,hgr.2,.inr rfl⟩
theorem wp_append_fit {o : Oper} {a : Act} {K : Act → World → Prop} {Q : Exit → Act → World → Prop} (s x : Operand) (t tx : TypeId)
 (ho : o.op = .call { callee := .builtin .append,args := #[s,x],argTypes := #[t,tx] })
 (base : Nat) (e : TypeId) (i : TypeInfo) (z : Value) (size bytes : Nat) (ht : P.underlying t = some (.slice e)) (hi : P.info? e = some i) (hz : i.zero = some z)
 (hsize : i.size = size) (hby : i.bytes = bytes) (hzs : z.cells.size = size)
 (v : Value) (n : Nat) (xs : List Value) (hv : a.eval s = v) (hown : w.ownsRow base e size v n xs) (u : Value) (m : Nat) (news : List Value) (hx : a.eval x = u) (hs : Src P size tx u m news w)
 (hfit : ∀ old,old < n + m → Builtin.nextslicecap (n + m) old * bytes ≤ 281474976710656) (h63 : n + m ≤ maxLen) (hbase : base ≤ w.heap.size)
 (h : ∀ A c w',w'.ownsRow base e size (.slice A (n + m) c) (n + m) (xs ++ news) → w.grownBy w' v.ownBlock →
  (Value.ownBlock (.slice A (n + m) c) = v.ownBlock ∨ Value.ownBlock (.slice A (n + m) c) = some w.heap.size) → K (a.put o.dst (.slice A (n + m) c)) w') : o.wp P a w K Q := by
 obtain ⟨A,c,w',hr,h2,h3,h4⟩ := run_append_fit (P := P) (w := w) base t tx o.type e i z size bytes ht hi hz hsize hby hzs v n xs hown u m news hs hfit h63 hbase;unfold Oper.wp execOp;simp only [ho,resolve,invoke,builtin,Sem.run_bind,Sem.run_pure,Result.andThen_ok,List.map_toArray,List.map_cons,List.map_nil,hv,hx,hr];exact h A c w' h2 h3 h4
theorem wpList_append_fit {ops : Array Oper} {rest : List Oper} {o : Oper} {a : Act} {Q : Exit → Act → World → Prop} (hgd : o.guard = none) (s x : Operand) (t tx : TypeId)
 (ho : o.op = .call { callee := .builtin .append,args := #[s,x],argTypes := #[t,tx] })
 (base : Nat) (e : TypeId) (i : TypeInfo) (z : Value) (size bytes : Nat) (ht : P.underlying t = some (.slice e)) (hi : P.info? e = some i) (hz : i.zero = some z)
 (hsize : i.size = size) (hby : i.bytes = bytes) (hzs : z.cells.size = size)
 (v : Value) (n : Nat) (xs : List Value) (hv : a.eval s = v) (hown : w.ownsRow base e size v n xs) (u : Value) (m : Nat) (news : List Value) (hx : a.eval x = u) (hs : Src P size tx u m news w)
 (hfit : ∀ old,old < n + m → Builtin.nextslicecap (n + m) old * bytes ≤ 281474976710656) (h63 : n + m ≤ maxLen) (hbase : base ≤ w.heap.size)
 (h : ∀ A c w',w'.ownsRow base e size (.slice A (n + m) c) (n + m) (xs ++ news) → w.grownBy w' v.ownBlock →
  (Value.ownBlock (.slice A (n + m) c) = v.ownBlock ∨ Value.ownBlock (.slice A (n + m) c) = some w.heap.size) → wpList P ops Q rest (a.put o.dst (.slice A (n + m) c)) w') : wpList P ops Q (o :: rest) a w :=
 wpList_plain hgd fun _ hK => wp_append_fit s x t tx ho base e i z size bytes ht hi hz hsize hby hzs v n xs hv hown u m news hx hs hfit h63 hbase fun A c w' h2 h3 h4 => hK _ _ (h A c w' h2 h3 h4)
theorem step_append_fit {ops : Array Oper} {o : Oper} {a : Act} {K : Act → World → Prop} {Q : Exit → Act → World → Prop} {E : Prop} (hgd : o.guard = none) (s x : Operand) (t tx : TypeId)
 (ho : o.op = .call { callee := .builtin .append,args := #[s,x],argTypes := #[t,tx] })
 (base : Nat) (e : TypeId) (i : TypeInfo) (z : Value) (size bytes : Nat) (ht : P.underlying t = some (.slice e)) (hi : P.info? e = some i) (hz : i.zero = some z)
 (hsize : i.size = size) (hby : i.bytes = bytes) (hzs : z.cells.size = size)
 (v : Value) (n : Nat) (xs : List Value) (hv : a.eval s = v) (hown : w.ownsRow base e size v n xs) (u : Value) (m : Nat) (news : List Value) (hx : a.eval x = u) (hs : Src P size tx u m news w)
 (hfit : ∀ old,old < n + m → Builtin.nextslicecap (n + m) old * bytes ≤ 281474976710656) (h63 : n + m ≤ maxLen) (hbase : base ≤ w.heap.size)
 (h : ∀ A c w',w'.ownsRow base e size (.slice A (n + m) c) (n + m) (xs ++ news) → w.grownBy w' v.ownBlock →
  (Value.ownBlock (.slice A (n + m) c) = v.ownBlock ∨ Value.ownBlock (.slice A (n + m) c) = some w.heap.size) → K (a.put o.dst (.slice A (n + m) c)) w') :
 if Region.wanted o (yielded ops a.tmps) = true then Oper.wp P o a w K Q else E := by
 have hw : Region.wanted o (yielded ops a.tmps) = true := by simp [Region.wanted,hgd]
 rw [if_pos hw];exact wp_append_fit s x t tx ho base e i z size bytes ht hi hz hsize hby hzs v n xs hv hown u m news hx hs hfit h63 hbase h
theorem wpList_append_src {ops : Array Oper} {rest : List Oper} {o : Oper} {a : Act} {Q : Exit → Act → World → Prop} (hgd : o.guard = none) (s x : Operand) (t tx : TypeId)
 (ho : o.op = .call { callee := .builtin .append,args := #[s,x],argTypes := #[t,tx] })
 (base : Nat) (e : TypeId) (i : TypeInfo) (z : Value) (size bytes : Nat) (ht : P.underlying t = some (.slice e)) (hi : P.info? e = some i) (hz : i.zero = some z)
 (hsize : i.size = size) (hby : i.bytes = bytes) (hzs : z.cells.size = size)
 (v : Value) (n : Nat) (xs : List Value) (hv : a.eval s = v) (hown : w.ownsRow base e size v n xs) (u : Value) (m : Nat) (news : List Value) (hx : a.eval x = u) (hs : Src P size tx u m news w)
 (hbytes : (n + m) * bytes ≤ 140737488355328) (h63 : n + m ≤ maxLen) (hbase : base ≤ w.heap.size)
 (h : ∀ A c w',w'.ownsRow base e size (.slice A (n + m) c) (n + m) (xs ++ news) → w.grownBy w' v.ownBlock →
  (Value.ownBlock (.slice A (n + m) c) = v.ownBlock ∨ Value.ownBlock (.slice A (n + m) c) = some w.heap.size) → wpList P ops Q rest (a.put o.dst (.slice A (n + m) c)) w') : wpList P ops Q (o :: rest) a w :=
 wpList_append_fit hgd s x t tx ho base e i z size bytes ht hi hz hsize hby hzs v n xs hv hown u m news hx hs (fun _ ho => growslice_fits ho hbytes) h63 hbase h
theorem step_append_src {ops : Array Oper} {o : Oper} {a : Act} {K : Act → World → Prop} {Q : Exit → Act → World → Prop} {E : Prop} (hgd : o.guard = none) (s x : Operand) (t tx : TypeId)
 (ho : o.op = .call { callee := .builtin .append,args := #[s,x],argTypes := #[t,tx] })
 (base : Nat) (e : TypeId) (i : TypeInfo) (z : Value) (size bytes : Nat) (ht : P.underlying t = some (.slice e)) (hi : P.info? e = some i) (hz : i.zero = some z)
 (hsize : i.size = size) (hby : i.bytes = bytes) (hzs : z.cells.size = size)
 (v : Value) (n : Nat) (xs : List Value) (hv : a.eval s = v) (hown : w.ownsRow base e size v n xs) (u : Value) (m : Nat) (news : List Value) (hx : a.eval x = u) (hs : Src P size tx u m news w)
 (hbytes : (n + m) * bytes ≤ 140737488355328) (h63 : n + m ≤ maxLen) (hbase : base ≤ w.heap.size)
 (h : ∀ A c w',w'.ownsRow base e size (.slice A (n + m) c) (n + m) (xs ++ news) → w.grownBy w' v.ownBlock →
  (Value.ownBlock (.slice A (n + m) c) = v.ownBlock ∨ Value.ownBlock (.slice A (n + m) c) = some w.heap.size) → K (a.put o.dst (.slice A (n + m) c)) w') :
 if Region.wanted o (yielded ops a.tmps) = true then Oper.wp P o a w K Q else E :=
 step_append_fit hgd s x t tx ho base e i z size bytes ht hi hz hsize hby hzs v n xs hv hown u m news hx hs (fun _ ho => growslice_fits ho hbytes) h63 hbase h
end
end
section
open Go.RowKit
def le : List UInt8 → Nat
 | [] => 0
 | x :: r => x.toNat + 256 * le r
def toLe (k n : Nat) : List UInt8 := (List.range k).map fun i => UInt8.ofNat (n / 256 ^ i)
theorem toLe_length (k n : Nat) : (toLe k n).length = k := by simp [toLe]
theorem toLe_succ (k n : Nat) : toLe (k + 1) n = toLe k n ++ [UInt8.ofNat (n / 256 ^ k)] := by simp [toLe,List.range_succ]
theorem take_snoc {α : Type} (l : List α) (k : Nat) (h : k < l.length) : l.take (k + 1) = l.take k ++ [l[k]] := List.take_succ_eq_append_getElem h
theorem pow256 (j : Nat) : (2 : Nat) ^ (8 * j) = 256 ^ j := by rw [Nat.pow_mul]
theorem byte_of (n j : Nat) : ((UInt8.ofNat (n / 256 ^ j)).toNat : Int) = ((n / 256 ^ j % 256 : Nat) : Int) := by rw [UInt8.toNat_ofNat']
theorem foldl_max_take {α : Type} (g : α → Nat) (l : List α) (m k : Nat) (h : k < l.length) : ((l.take (k + 1)).map g).foldl max m = max (((l.take k).map g).foldl max m) (g l[k]) := by
 rw [take_snoc l k h,List.map_append,List.foldl_append];rfl
theorem foldl_max_le (l : List Nat) (m k : Nat) : l.foldl max m ≤ k ↔ m ≤ k ∧ ∀ x ∈ l,x ≤ k := by
 induction l generalizing m with
 | nil => simp
 | cons y l ih =>
  simp only [List.foldl_cons,ih,List.mem_cons,forall_eq_or_imp];constructor
  ·rintro ⟨h1,h2⟩;exact ⟨by omega,by omega,h2⟩
  rintro ⟨h1,h2,h3⟩;exact ⟨by omega,h3⟩
theorem flat_take {α : Type} (g : α → List UInt8) (l : List α) (j : Nat) (h : j < l.length) : ((l.take (j + 1)).map g).flatten = ((l.take j).map g).flatten ++ g l[j] := by
 rw [take_snoc l j h,List.map_append,List.flatten_append];simp only [List.map_cons,List.map_nil,List.flatten_cons,List.flatten_nil,List.append_nil]
theorem flat_le {α : Type} (g : α → List UInt8) (l : List α) (j : Nat) : ((l.take j).map g).flatten.length ≤ (l.map g).flatten.length := by
 have : l.map g = (l.take j).map g ++ (l.drop j).map g := by rw [← List.map_append,List.take_append_drop]
 rw [this,List.flatten_append,List.length_append];omega
theorem flat_mem {α : Type} (g : α → List UInt8) (l : List α) (x : α) (h : x ∈ l) : (g x).length ≤ (l.map g).flatten.length := by
 obtain ⟨a,b,rfl⟩ := List.append_of_mem h;simp;omega
theorem attach_all {α : Type} (l : List α) (p : α → Bool) : (l.attach.all fun x => p x.1) = l.all p := by rw [Bool.eq_iff_iff];simp
namespace V
def count : V → Nat
 | mk _ _ _ l f => 1 + (l.attach.map fun x => count x.1).sum + (f.attach.map fun x => count x.1.2).sum
termination_by v => SizeOf.sizeOf v
decreasing_by
 ·exact sizeOf_l x.2
 exact sizeOf_f x.2
theorem count_mk (k : Int) (n : Nat) (b : List UInt8) (l : List V) (f : List (ByteArray × V)) : (mk k n b l f).count = 1 + (l.map count).sum + (f.map fun x => x.2.count).sum := by
 rw [count];simp only [List.map_attach_eq_pmap,List.pmap_eq_map]
def most : V → Nat
 | mk _ _ _ l f => (f.attach.map fun x => most x.1.2).foldl max ((l.attach.map fun x => most x.1).foldl max (max l.length f.length))
termination_by v => SizeOf.sizeOf v
decreasing_by
 ·exact sizeOf_l x.2
 exact sizeOf_f x.2
theorem most_mk (k : Int) (n : Nat) (b : List UInt8) (l : List V) (f : List (ByteArray × V)) : (mk k n b l f).most = (f.map fun x => x.2.most).foldl max ((l.map most).foldl max (max l.length f.length)) := by
 rw [most];simp only [List.map_attach_eq_pmap,List.pmap_eq_map]
def depth : V → Nat
 | mk k _ _ l f => (if k = 7 ∨ k = 8 then 1 else 0) + (f.attach.map fun x => depth x.1.2).foldl max ((l.attach.map fun x => depth x.1).foldl max 0)
termination_by v => SizeOf.sizeOf v
decreasing_by
 ·exact sizeOf_l x.2
 exact sizeOf_f x.2
theorem depth_mk (k : Int) (n : Nat) (b : List UInt8) (l : List V) (f : List (ByteArray × V)) : (mk k n b l f).depth = (if k = 7 ∨ k = 8 then 1 else 0) + (f.map fun x => x.2.depth).foldl max ((l.map depth).foldl max 0) := by
 rw [depth];simp only [List.map_attach_eq_pmap,List.pmap_eq_map]
def item (s : ByteArray) (r : List UInt8) : List UInt8 := UInt8.ofNat s.size :: (s.data.toList ++ r)
def bytes : V → List UInt8
 | mk k n b l f => UInt8.ofNat k.toNat ::
  (if k = 2 then [UInt8.ofNat n] else if k = 3 ∨ k = 4 then toLe 8 n else if k = 5 ∨ k = 6 then toLe 2 b.length ++ b
   else if k = 7 then UInt8.ofNat l.length :: (l.attach.map fun x => bytes x.1).flatten
   else if k = 8 then UInt8.ofNat f.length :: (f.attach.map fun x => item x.1.1 (bytes x.1.2)).flatten else [])
termination_by v => SizeOf.sizeOf v
decreasing_by
 ·exact sizeOf_l x.2
 exact sizeOf_f x.2
theorem bytes_mk (k : Int) (n : Nat) (b : List UInt8) (l : List V) (f : List (ByteArray × V)) : (mk k n b l f).bytes = UInt8.ofNat k.toNat ::
 (if k = 2 then [UInt8.ofNat n] else if k = 3 ∨ k = 4 then toLe 8 n else if k = 5 ∨ k = 6 then toLe 2 b.length ++ b
  else if k = 7 then UInt8.ofNat l.length :: (l.map bytes).flatten
  else if k = 8 then UInt8.ofNat f.length :: (f.map fun x => item x.1 x.2.bytes).flatten else []) := by
 rw [bytes];simp only [List.map_attach_eq_pmap,List.pmap_eq_map]
def name (s : ByteArray) : Bool := decide (1 ≤ s.size ∧ s.size ≤ 32) && s.data.toList.all (fun c => decide (32 ≤ c.toNat ∧ c.toNat ≠ 46)) && Lib.validD s.data.toList
def own (k : Int) (n : Nat) (b : List UInt8) (nl nf : Nat) : Bool :=
 decide (1 ≤ k ∧ k ≤ 8) && decide (k = 2 ∨ k = 3 ∨ k = 4 ∨ n = 0) && decide (k = 2 → n ≤ 1) && decide (k = 5 ∨ k = 6 ∨ b.length = 0) && (decide (k ≠ 5) || Lib.validD b) && decide (k = 7 ∨ nl = 0) && decide (k = 8 ∨ nf = 0)
def formed : V → Bool
 | mk k n b l f => own k n b l.length f.length && (l.attach.all fun x => formed x.1) && (f.attach.all fun x => name x.1.1 && formed x.1.2) && decide ((f.map Prod.fst).Nodup)
termination_by v => SizeOf.sizeOf v
decreasing_by
 ·exact sizeOf_l x.2
 exact sizeOf_f x.2
theorem formed_mk (k : Int) (n : Nat) (b : List UInt8) (l : List V) (f : List (ByteArray × V)) : (mk k n b l f).formed = (own k n b l.length f.length && (l.all formed) && (f.all fun x => name x.1 && x.2.formed) && decide ((f.map Prod.fst).Nodup)) := by
 rw [formed,attach_all l formed,attach_all f (fun x => name x.1 && x.2.formed)]
theorem depth_l {k : Int} {n : Nat} {b : List UInt8} {l : List V} {f : List (ByteArray × V)} {x : V} (h : x ∈ l) : x.depth ≤ (mk k n b l f).depth := by
 rw [depth_mk];have h1 := (foldl_max_le (f.map fun x => x.2.depth) ((l.map depth).foldl max 0) _).1 (Nat.le_refl _);have h2 := (foldl_max_le (l.map depth) 0 _).1 (Nat.le_refl _);have := h2.2 _ (List.mem_map_of_mem h);omega
theorem depth_f {k : Int} {n : Nat} {b : List UInt8} {l : List V} {f : List (ByteArray × V)} {x : ByteArray × V} (h : x ∈ f) : x.2.depth ≤ (mk k n b l f).depth := by
 rw [depth_mk];have h1 := (foldl_max_le (f.map fun x => x.2.depth) ((l.map depth).foldl max 0) _).1 (Nat.le_refl _);have := h1.2 _ (List.mem_map_of_mem (f := fun x : ByteArray × V => x.2.depth) h);omega
theorem depth_list (l : List V) : (mk 7 0 [] l []).depth = 1 + (l.map depth).foldl max 0 := by rw [depth_mk];simp
theorem depth_doc (f : List (ByteArray × V)) : (mk 8 0 [] [] f).depth = 1 + (f.map fun x => x.2.depth).foldl max 0 := by rw [depth_mk];simp
theorem bytes_list (l : List V) : (mk 7 0 [] l []).bytes = 7 :: UInt8.ofNat l.length :: (l.map bytes).flatten := by rw [bytes_mk];simp
theorem bytes_doc (f : List (ByteArray × V)) : (mk 8 0 [] [] f).bytes = 8 :: UInt8.ofNat f.length :: (f.map fun x => item x.1 x.2.bytes).flatten := by rw [bytes_mk];simp
theorem item_length (s : ByteArray) (r : List UInt8) : (item s r).length = 1 + s.size + r.length := by
 simp only [item,List.length_cons,List.length_append,Array.length_toList];have : s.data.size = s.size := rfl;omega
def good (v : V) : Int := if v.formed = false then 4 else if 64 < v.most then 19 else if 16 < v.depth then 3 else if 4096 < v.bytes.length then 2 else 0
theorem formed_cases {v : V} (h : v.formed = true) : v = mk 1 0 [] [] [] ∨ (∃ n,n ≤ 1 ∧ v = mk 2 n [] [] []) ∨ (∃ n,v = mk 3 n [] [] []) ∨ (∃ n,v = mk 4 n [] [] []) ∨
 (∃ b,Lib.validD b = true ∧ v = mk 5 0 b [] []) ∨ (∃ b,v = mk 6 0 b [] []) ∨ (∃ l,(∀ x ∈ l,formed x = true) ∧ v = mk 7 0 [] l []) ∨
 (∃ f : List (ByteArray × V),(∀ x ∈ f,name x.1 = true ∧ x.2.formed = true) ∧ (f.map Prod.fst).Nodup ∧ v = mk 8 0 [] [] f) := by
 obtain ⟨k,n,b,l,f⟩ := v;rw [formed_mk] at h;simp only [own,Bool.and_eq_true,Bool.or_eq_true,decide_eq_true_eq,List.all_eq_true] at h;obtain ⟨⟨⟨⟨⟨⟨⟨⟨⟨h1,h2⟩,h3⟩,h4⟩,h5⟩,h6⟩,h7⟩,hl⟩,hf⟩,hn⟩ := h;have hL : k ≠ 7 → l = [] := fun hk => List.eq_nil_of_length_eq_zero (by omega)
 have hF : k ≠ 8 → f = [] := fun hk => List.eq_nil_of_length_eq_zero (by omega)
 have hB : k ≠ 5 → k ≠ 6 → b = [] := fun h1 h2 => List.eq_nil_of_length_eq_zero (by omega)
 have hN : k ≠ 2 → k ≠ 3 → k ≠ 4 → n = 0 := fun h1 h2 h3 => by omega
 have hk : k = 1 ∨ k = 2 ∨ k = 3 ∨ k = 4 ∨ k = 5 ∨ k = 6 ∨ k = 7 ∨ k = 8 := by omega
 rcases hk with rfl | rfl | rfl | rfl | rfl | rfl | rfl | rfl
 ·rw [hL (by decide),hF (by decide),hB (by decide) (by decide),hN (by decide) (by decide) (by decide)];exact .inl rfl
 ·rw [hL (by decide),hF (by decide),hB (by decide) (by decide)];exact .inr (.inl ⟨n,h3 rfl,rfl⟩)
 ·rw [hL (by decide),hF (by decide),hB (by decide) (by decide)];exact .inr (.inr (.inl ⟨n,rfl⟩))
 ·rw [hL (by decide),hF (by decide),hB (by decide) (by decide)];exact .inr (.inr (.inr (.inl ⟨n,rfl⟩)))
 ·rw [hL (by decide),hF (by decide),hN (by decide) (by decide) (by decide)];exact .inr (.inr (.inr (.inr (.inl ⟨b,h5.resolve_left (by decide),rfl⟩))))
 ·rw [hL (by decide),hF (by decide),hN (by decide) (by decide) (by decide)];exact .inr (.inr (.inr (.inr (.inr (.inl ⟨b,rfl⟩)))))
 ·rw [hF (by decide),hB (by decide) (by decide),hN (by decide) (by decide) (by decide)];exact .inr (.inr (.inr (.inr (.inr (.inr (.inl ⟨l,hl,rfl⟩))))))
 rw [hL (by decide),hB (by decide) (by decide),hN (by decide) (by decide) (by decide)];exact .inr (.inr (.inr (.inr (.inr (.inr (.inr ⟨f,hf,hn,rfl⟩))))))
end V
end
section
open Go.RowKit
theorem info_u8 : (Tryz.prog.info? 5).map (fun i => (i.zero,i.size,i.bytes)) = some (some (.int .u8 0),1,1) := by kernel_rfl
theorem under_u8s : Tryz.prog.underlying 23 = some (.slice 5) := by kernel_rfl
theorem under_string : Tryz.prog.underlying 9 = some .string := by kernel_rfl
theorem ret_int {k : IntKind} {a b : Int} (h : a = b) : Ending.returned (.int k a) = .returned (.int k b) := by rw [h]
theorem InB.at_ {w : World} {A : Option Addr} {b : List UInt8} (h : InB w A b) (j : Nat) (hj : j < b.length) : ∃ bk o,A = some ⟨bk,o,none⟩ ∧ bk < w.heap.size ∧ w.cell? ⟨bk,o + j,none⟩ = some (.int .u8 (b[j].toNat : Int)) := by
 obtain ⟨bk,o,e,hc⟩ := h.2 (by omega);have := hc j _ (u8s_get b j hj);exact ⟨bk,o,e,this.2.2,this.1⟩
def Lies (w : World) (v v' : Value) : Prop := v'.ownBlock = v.ownBlock ∨ ∃ g,v'.ownBlock = some g ∧ w.heap.size ≤ g
def Row (w : World) (base : Nat) (v : Value) (m : Nat) (xs : List UInt8) : Prop := w.ownsRow base 5 1 v m (u8s xs)
structure Grew (w : World) (v : Value) (w' : World) (v' : Value) : Prop where
 grow : w.grownBy w' v.ownBlock
 lies : Lies w v v'
theorem Row.alloc {w : World} {base m : Nat} {v : Value} {xs : List UInt8} (h : Row w base v m xs) (o : Obj) : Row (w.alloc o) base v m xs := World.ownsRow.alloc h o
theorem Row.grow {w w' : World} {base m : Nat} {v : Value} {xs : List UInt8} (h : Row w base v m xs) (hg : Grow w w') : Row w' base v m xs :=
 World.ownsRow.kept h (row := none) ⟨hg.os,hg.tape,hg.output,hg.size,fun k hk _ => hg.below.block k hk⟩ (by cases v.ownBlock <;> simp)
theorem Grew.below {w w' : World} {base m : Nat} {v v' : Value} {xs : List UInt8} (h : Grew w v w' v') (hr : Row w base v m xs) (hb : base ≤ w.heap.size) : Below base w w' :=
 (Below.refl base w).grown h.grow hb (fun k hk => (World.ownsRow.lt hr k hk).1)
theorem Row.made {w : World} (cur : Array Value) (cap : Nat) (hm : cap ≤ maxLen) (hs : cur.size = cap) : Row (w.alloc (.cells cur 5)) w.heap.size (.slice (some ⟨w.heap.size,0,none⟩) 0 cap) 0 [] :=
 World.ownsRow_made w cur cap (Nat.le_refl _) hm (by omega)
theorem Row.reads {w : World} {base m : Nat} {A : Option Addr} {c : Nat} {xs : List UInt8} (h : Row w base (.slice A m c) m xs) : InB w A xs ∧ xs.length = m := by
 have hl : xs.length = m := by simpa [u8s] using h.1
 refine ⟨⟨by rw [u8s_length,Nat.mul_one],fun hn => ?_⟩,hl⟩;obtain ⟨g,cap,hv,_,hlt⟩ := World.ownsRow.form h (by omega);have hA : A = some ⟨g,0,none⟩ := by injection hv
 subst hA;refine ⟨g,0,rfl,fun j u hu => ⟨?_,Nat.zero_le _,hlt⟩⟩;rw [← add_lit];exact World.ownsRow.cells h (g := g) rfl j u hu
section
variable {w : World} {ops : Array Oper} {rest : List Oper} {o : Oper} {a : Act} {Q : Exit → Act → World → Prop}
theorem app_src (hgd : o.guard = none) (s x : Operand) (tx : TypeId)
 (ho : o.op = .call { callee := .builtin .append,args := #[s,x],argTypes := #[23,tx] })
 {base m : Nat} {A : Option Addr} {c : Nat} {xs ys : List UInt8} (hv : a.eval s = .slice A m c) (hrow : Row w base (.slice A m c) m xs) (u : Value) (hx : a.eval x = u) (hs : Src Tryz.prog 1 tx u ys.length (u8s ys) w)
 (hbytes : m + ys.length ≤ 140737488400000) (hbase : base ≤ w.heap.size)
 (h : ∀ A' c' w',Row w' base (.slice A' (m + ys.length) c') (m + ys.length) (xs ++ ys) → Grew w (.slice A m c) w' (.slice A' (m + ys.length) c') → wpList Tryz.prog ops Q rest (a.put o.dst (.slice A' (m + ys.length) c')) w') : wpList Tryz.prog ops Q (o :: rest) a w := by
 obtain ⟨i0,hi0,hz0,hz1,hz2⟩ := info_parts info_u8;refine wpList_append_fit hgd s x _ tx ho base 5 i0 _ 1 1 under_u8s hi0 hz0 hz1 hz2 rfl _ m _ hv hrow u ys.length _ hx hs (fun _ ho => fits_wide ho hbytes) (by simp only [maxLen];omega) hbase (fun A' c' w' h2 h3 h4 => h A' c' w' ?_ ⟨h3,?_⟩)
 ·unfold Row;rw [u8s_append];exact h2
 rcases h4 with h4 | h4
 ·exact .inl h4
 exact .inr ⟨_,h4,Nat.le_refl _⟩
theorem step_app_src {K : Act → World → Prop} {E : Prop} (hgd : o.guard = none) (s x : Operand) (tx : TypeId)
 (ho : o.op = .call { callee := .builtin .append,args := #[s,x],argTypes := #[23,tx] })
 {base m : Nat} {A : Option Addr} {c : Nat} {xs ys : List UInt8} (hv : a.eval s = .slice A m c) (hrow : Row w base (.slice A m c) m xs) (u : Value) (hx : a.eval x = u) (hs : Src Tryz.prog 1 tx u ys.length (u8s ys) w)
 (hbytes : m + ys.length ≤ 140737488400000) (hbase : base ≤ w.heap.size)
 (h : ∀ A' c' w',Row w' base (.slice A' (m + ys.length) c') (m + ys.length) (xs ++ ys) → Grew w (.slice A m c) w' (.slice A' (m + ys.length) c') → K (a.put o.dst (.slice A' (m + ys.length) c')) w') :
 if Region.wanted o (yielded ops a.tmps) = true then Oper.wp Tryz.prog o a w K Q else E := by
 obtain ⟨i0,hi0,hz0,hz1,hz2⟩ := info_parts info_u8;refine step_append_fit hgd s x _ tx ho base 5 i0 _ 1 1 under_u8s hi0 hz0 hz1 hz2 rfl _ m _ hv hrow u ys.length _ hx hs (fun _ ho => fits_wide ho hbytes) (by simp only [maxLen];omega) hbase (fun A' c' w' h2 h3 h4 => h A' c' w' ?_ ⟨h3,?_⟩)
 ·unfold Row;rw [u8s_append];exact h2
 rcases h4 with h4 | h4
 ·exact .inl h4
 exact .inr ⟨_,h4,Nat.le_refl _⟩
end
end
section
open Go.RowKit
abbrev thrown (e : Int) : List PanicEntry := [{ v := .iface 29 (.int .i64 e),recovered := false }]
theorem u8s_take (b : List UInt8) (n : Nat) : u8s (b.take n) = (u8s b).take n := by simp [u8s]
theorem u8s_drop (b : List UInt8) (n : Nat) : u8s (b.drop n) = (u8s b).drop n := by simp [u8s]
theorem Reads.take_ {C : Addr → Value → Prop} {A : Option Addr} {n : Nat} {xs : List Value} (h : Reads C 1 A n xs) (k : Nat) (hk : k ≤ n) : Reads C 1 A k (xs.take k) := by
 refine ⟨by rw [List.length_take,h.1,Nat.mul_one,Nat.mul_one];omega,fun hn => ?_⟩;obtain ⟨bk,o,e,hc⟩ := h.2 (by omega);refine ⟨bk,o,e,fun j u hu => hc j u ?_⟩;rw [List.getElem?_take] at hu;split at hu
 ·exact hu
 cases hu
end
end Go.Proofs.YtndjopkdbdcmdaaGreatDoor
