/- Part 12 of the proof of pindexes_card. -/
import Derived.Test.YtndjopkdbdcmdaaGreatDoorPix9
import Derived.Deep.DeepCutAuto
set_option linter.unusedVariables false
set_option linter.unusedSimpArgs false
set_option maxRecDepth 100000
set_option maxHeartbeats 12800000
namespace Go.Proofs.YtndjopkdbdcmdaaGreatDoor
section
open Go.RowKit Go.Shelf Go.WideShapes
theorem make_valsS (S : Nat) (hS : S ≤ 1000000000) : ∃ cur : Array Value,cur.size = S * 5 ∧ ∀ w : World,(Instr.makeSlice 24 (.int .i64 0) (.int .i64 (S : Int))).run Tryz.prog w = .ok (.slice (some ⟨w.heap.size,0,none⟩) 0 S) (w.alloc (.cells cur 27)) := by
 obtain ⟨i0,hi0,hz0,hz1,hz2⟩ := info_parts info_val3;refine ⟨madeCells (Value.agg #[.int .i64 0,.int .u64 0,.slice none 0 0,.slice none 0 0,.slice none 0 0]).cells (S * i0.size),?_,fun w => ?_⟩
 ·rw [hz1];simp [madeCells]
 have h := run_make (P := Tryz.prog) (w := w) 24 27 i0 _ under_vals hi0 hz0 .i64 .i64 0 (S : Int) (by omega) (by omega) (by rw [hz2];omega) (by omega);exact h
theorem make_fldsS (S : Nat) (hS : S ≤ 1000000000) : ∃ cur : Array Value,cur.size = S * 6 ∧ ∀ w : World,(Instr.makeSlice 25 (.int .i64 0) (.int .i64 (S : Int))).run Tryz.prog w = .ok (.slice (some ⟨w.heap.size,0,none⟩) 0 S) (w.alloc (.cells cur 82)) := by
 obtain ⟨i0,hi0,hz0,hz1,hz2⟩ := info_parts info_fld3;refine ⟨madeCells (Value.agg #[.string ⟨#[]⟩,.int .i64 0,.int .u64 0,.slice none 0 0,.slice none 0 0,.slice none 0 0]).cells (S * i0.size),?_,fun w => ?_⟩
 ·rw [hz1];simp [madeCells]
 have h := run_make (P := Tryz.prog) (w := w) 25 82 i0 _ under_flds hi0 hz0 .i64 .i64 0 (S : Int) (by omega) (by omega) (by rw [hz2];omega) (by omega);exact h
theorem cp_cap {W : World} {base n c : Nat} {A : Option Addr} {xs : List UInt8} (h : Row W base (.slice A n c) n xs) : n ≤ c := by
 rcases h.2 with ⟨hv,h0⟩ | ⟨g,cap',cur,hv,_,_,hc,_⟩
 ·omega
 injection hv with _ _ e;omega
theorem cp_reads {W : World} {base n c : Nat} {A : Option Addr} {xs : List UInt8} (h : Row W base (.slice A n c) n xs) : Reads (fun p u => CF W p u ∧ base ≤ p.block ∧ p.block < W.heap.size) 1 A n (u8s xs) := by
 have hl : xs.length = n := by simpa [u8s] using h.1
 refine ⟨by rw [u8s_length,Nat.mul_one,hl],fun hn => ?_⟩;obtain ⟨g,cap,hv,hb,hlt⟩ := World.ownsRow.form h (by omega);have hA : A = some ⟨g,0,none⟩ := by injection hv
 subst hA;refine ⟨g,0,rfl,fun j u hu => ⟨⟨?_,World.ownsRow.frozenAt h _⟩,hb,hlt⟩⟩;have := World.ownsRow.cells h (g := g) rfl j u hu;rwa [add_lit] at this
def CpJ (W0 : World) (b : List UInt8) (nL nF : Nat) (b1 b2 b3 b4 b5 : Bool) (x1 x2 x3 x4 x5 : Value) (W : World) : Prop :=
 ∃ g1 g3 g4 g5 : Nat,Grow W0 W ∧ (b2 = true → b1 = true) ∧
 (b1 = true → b2 = false → x1 = .slice (some ⟨g1,0,none⟩) 0 b.length ∧ Row W W0.heap.size (.slice (some ⟨g1,0,none⟩) 0 b.length) 0 []) ∧
 (b2 = true → ∃ A c,x2 = .slice A b.length c ∧ Row W W0.heap.size (.slice A b.length c) b.length b ∧ Value.ownBlock (.slice A b.length c) = some g1) ∧
 (b3 = true → x3 = .slice (some ⟨g3,0,none⟩) 0 nL ∧ W.ownsRow W0.heap.size 27 5 (.slice (some ⟨g3,0,none⟩) 0 nL) 0 []) ∧
 (b4 = true → x4 = .slice (some ⟨g4,0,none⟩) 0 nF ∧ W.ownsRow W0.heap.size 82 6 (.slice (some ⟨g4,0,none⟩) 0 nF) 0 []) ∧
 (b5 = true → x5 = .pointer (some ⟨g5,0,none⟩) ∧ Blk W g5 27 #[.int .i64 0,.int .u64 0,.slice none 0 0,.slice none 0 0,.slice none 0 0] ∧ W0.heap.size ≤ g5) ∧
 ((b1 = true → g1 < W.heap.size) ∧ (b3 = true → g3 < W.heap.size) ∧ (b4 = true → g4 < W.heap.size) ∧ (b5 = true → g5 < W.heap.size)) ∧
 ((b1 = true → b3 = true → g1 ≠ g3) ∧ (b1 = true → b4 = true → g1 ≠ g4) ∧ (b1 = true → b5 = true → g1 ≠ g5) ∧ (b3 = true → b4 = true → g3 ≠ g4) ∧ (b3 = true → b5 = true → g3 ≠ g5) ∧ (b4 = true → b5 = true → g4 ≠ g5))
theorem CpJ.grow {W0 W : World} {b : List UInt8} {nL nF : Nat} {b1 b2 b3 b4 b5 : Bool} {x1 x2 x3 x4 x5 : Value} (h : CpJ W0 b nL nF b1 b2 b3 b4 b5 x1 x2 x3 x4 x5 W) : Grow W0 W := by
 obtain ⟨g1,g3,g4,g5,hg,_⟩ := h;exact hg
theorem CpJ.le {W0 W : World} {b : List UInt8} {nL nF : Nat} {b1 b2 b3 b4 b5 : Bool} {x1 x2 x3 x4 x5 : Value} (h : CpJ W0 b nL nF b1 b2 b3 b4 b5 x1 x2 x3 x4 x5 W) : b2 = true → b1 = true := by
 obtain ⟨g1,g3,g4,g5,_,h,_⟩ := h;exact h
theorem CpJ.made {W0 W : World} {b : List UInt8} {nL nF : Nat} {b3 b4 b5 : Bool} {x1 x2 x3 x4 x5 : Value} (h : CpJ W0 b nL nF true false b3 b4 b5 x1 x2 x3 x4 x5 W) : ∃ g,x1 = .slice (some ⟨g,0,none⟩) 0 b.length ∧ Row W W0.heap.size (.slice (some ⟨g,0,none⟩) 0 b.length) 0 [] := by
 obtain ⟨g1,g3,g4,g5,_,_,h,_⟩ := h;exact ⟨g1,h rfl rfl⟩
theorem CpJ.alloc {W0 W : World} {b : List UInt8} {nL nF : Nat} {b1 b2 b3 b4 b5 : Bool} {x1 x2 x3 x4 x5 : Value} {g1 g3 g4 g5 : Nat} (o : Obj)
 (h1 : b1 = true → b2 = false → x1 = .slice (some ⟨g1,0,none⟩) 0 b.length ∧ Row W W0.heap.size (.slice (some ⟨g1,0,none⟩) 0 b.length) 0 [])
 (h2 : b2 = true → ∃ A c,x2 = .slice A b.length c ∧ Row W W0.heap.size (.slice A b.length c) b.length b ∧ Value.ownBlock (.slice A b.length c) = some g1)
 (h3 : b3 = true → x3 = .slice (some ⟨g3,0,none⟩) 0 nL ∧ W.ownsRow W0.heap.size 27 5 (.slice (some ⟨g3,0,none⟩) 0 nL) 0 [])
 (h4 : b4 = true → x4 = .slice (some ⟨g4,0,none⟩) 0 nF ∧ W.ownsRow W0.heap.size 82 6 (.slice (some ⟨g4,0,none⟩) 0 nF) 0 [])
 (h5 : b5 = true → x5 = .pointer (some ⟨g5,0,none⟩) ∧ Blk W g5 27 #[.int .i64 0,.int .u64 0,.slice none 0 0,.slice none 0 0,.slice none 0 0] ∧ W0.heap.size ≤ g5) :
 (b1 = true → b2 = false → x1 = .slice (some ⟨g1,0,none⟩) 0 b.length ∧ Row (W.alloc o) W0.heap.size (.slice (some ⟨g1,0,none⟩) 0 b.length) 0 []) ∧
 (b2 = true → ∃ A c,x2 = .slice A b.length c ∧ Row (W.alloc o) W0.heap.size (.slice A b.length c) b.length b ∧ Value.ownBlock (.slice A b.length c) = some g1) ∧
 (b3 = true → x3 = .slice (some ⟨g3,0,none⟩) 0 nL ∧ (W.alloc o).ownsRow W0.heap.size 27 5 (.slice (some ⟨g3,0,none⟩) 0 nL) 0 []) ∧
 (b4 = true → x4 = .slice (some ⟨g4,0,none⟩) 0 nF ∧ (W.alloc o).ownsRow W0.heap.size 82 6 (.slice (some ⟨g4,0,none⟩) 0 nF) 0 []) ∧
 (b5 = true → x5 = .pointer (some ⟨g5,0,none⟩) ∧ Blk (W.alloc o) g5 27 #[.int .i64 0,.int .u64 0,.slice none 0 0,.slice none 0 0,.slice none 0 0] ∧ W0.heap.size ≤ g5) :=
 ⟨fun e e' => ⟨(h1 e e').1,(h1 e e').2.alloc o⟩,fun e => (by obtain ⟨A,c,r1,r2,r3⟩ := h2 e;exact ⟨A,c,r1,r2.alloc o,r3⟩),fun e => ⟨(h3 e).1,(h3 e).2.alloc o⟩,fun e => ⟨(h4 e).1,(h4 e).2.alloc o⟩,fun e => ⟨(h5 e).1,(h5 e).2.1.alloc o,(h5 e).2.2⟩⟩
theorem CpJ.mk1 {W0 W : World} {b : List UInt8} {nL nF : Nat} {b3 b4 b5 : Bool} {x1 x2 x3 x4 x5 : Value} {cur : Array Value} (h : CpJ W0 b nL nF false false b3 b4 b5 x1 x2 x3 x4 x5 W) (hcur : cur.size = b.length) (hb : b.length ≤ 1000000000) :
 CpJ W0 b nL nF true false b3 b4 b5 (.slice (some ⟨W.heap.size,0,none⟩) 0 b.length) x2 x3 x4 x5 (W.alloc (.cells cur 5)) := by
 obtain ⟨g1,g3,g4,g5,hg,h12,h1,h2,h3,h4,h5,⟨t1,t3,t4,t5⟩,⟨d13,d14,d15,d34,d35,d45⟩⟩ := h;have hA : Row (W.alloc (.cells cur 5)) W0.heap.size (.slice (some ⟨W.heap.size,0,none⟩) 0 b.length) 0 [] := World.ownsRow_made W cur b.length hg.size (by simp only [maxLen];omega) (by omega);have hs : (W.alloc (.cells cur 5)).heap.size = W.heap.size + 1 := by simp
 obtain ⟨k1,k2,k3,k4,k5⟩ := CpJ.alloc (.cells cur 5) h1 h2 h3 h4 h5;refine ⟨W.heap.size,g3,g4,g5,hg.alloc _,fun e => (by cases e),fun _ _ => ⟨rfl,hA⟩,fun e => (by cases e),k3,k4,k5,⟨fun _ => ?_,fun e => ?_,fun e => ?_,fun e => ?_⟩,⟨fun _ e => ?_,fun _ e => ?_,fun _ e => ?_,d34,d35,d45⟩⟩
 ·omega
 ·have := t3 e;omega
 ·have := t4 e;omega
 ·have := t5 e;omega
 ·have := t3 e;omega
 ·have := t4 e;omega
 have := t5 e;omega
theorem CpJ.mk2 {W0 W W' : World} {b : List UInt8} {nL nF : Nat} {b3 b4 b5 : Bool} {x1 x2 x3 x4 x5 : Value} {g : Nat} {A : Option Addr} {c : Nat} (h : CpJ W0 b nL nF true false b3 b4 b5 x1 x2 x3 x4 x5 W) (hx : x1 = .slice (some ⟨g,0,none⟩) 0 b.length)
 (hown : Row W' W0.heap.size (.slice A b.length c) b.length b) (hgr : W.grownBy W' (some g)) (hob : Value.ownBlock (.slice A b.length c) = some g ∨ Value.ownBlock (.slice A b.length c) = some W.heap.size) :
 CpJ W0 b nL nF true true b3 b4 b5 x1 (.slice A b.length c) x3 x4 x5 W' := by
 obtain ⟨g1,g3,g4,g5,hg,h12,h1,h2,h3,h4,h5,⟨t1,t3,t4,t5⟩,⟨d13,d14,d15,d34,d35,d45⟩⟩ := h;obtain ⟨r1,r2⟩ := h1 rfl rfl;rw [hx] at r1;injection r1 with r1;injection r1 with r1;injection r1 with r1;subst r1;have hlt := World.ownsRow.lt r2 g rfl;have hz := hgr.size;have hkeep : ∀ {te : TypeId} {z m : Nat} {q : Nat} {n : Nat} {xs : List Value},g ≠ q → W.ownsRow W0.heap.size te z (.slice (some ⟨q,0,none⟩) m n) m xs → W'.ownsRow W0.heap.size te z (.slice (some ⟨q,0,none⟩) m n) m xs := fun hne hr =>
  World.ownsRow.kept hr hgr (.inr (fun e => hne (Option.some.inj e).symm))
 obtain ⟨g',hg',hl'⟩ : ∃ g',Value.ownBlock (.slice A b.length c) = some g' ∧ (g' = g ∨ g' = W.heap.size) := by
  rcases hob with z | z
  ·exact ⟨_,z,.inl rfl⟩
  exact ⟨_,z,.inr rfl⟩
 have hg'lt := (World.ownsRow.lt hown g' hg').2;refine ⟨g',g3,g4,g5,hg.grown hgr (fun k e => by injection e with e;omega),fun _ => rfl,fun _ e => (by cases e),fun _ => ⟨A,c,rfl,hown,hg'⟩,fun e => ⟨(h3 e).1,hkeep (d13 rfl e) (h3 e).2⟩,fun e => ⟨(h4 e).1,hkeep (d14 rfl e) (h4 e).2⟩,fun e => ⟨(h5 e).1,Blk.own (h5 e).2.1 hgr (fun k e2 => by injection e2 with e2;have := d15 rfl e;omega),(h5 e).2.2⟩,⟨fun _ => hg'lt,fun e => ?_,fun e => ?_,fun e => ?_⟩,⟨fun _ e => ?_,fun _ e => ?_,fun _ e => ?_,d34,d35,d45⟩⟩
 ·have := t3 e;omega
 ·have := t4 e;omega
 ·have := t5 e;omega
 ·have := t3 e;have := d13 rfl e;omega
 ·have := t4 e;have := d14 rfl e;omega
 have := t5 e;have := d15 rfl e;omega
theorem CpJ.mk3 {W0 W : World} {b : List UInt8} {nL nF : Nat} {b1 b2 b4 b5 : Bool} {x1 x2 x3 x4 x5 : Value} {cur : Array Value} (h : CpJ W0 b nL nF b1 b2 false b4 b5 x1 x2 x3 x4 x5 W) (hcur : cur.size = nL * 5) (hn : nL ≤ 1000000000) :
 CpJ W0 b nL nF b1 b2 true b4 b5 x1 x2 (.slice (some ⟨W.heap.size,0,none⟩) 0 nL) x4 x5 (W.alloc (.cells cur 27)) := by
 obtain ⟨g1,g3,g4,g5,hg,h12,h1,h2,h3,h4,h5,⟨t1,t3,t4,t5⟩,⟨d13,d14,d15,d34,d35,d45⟩⟩ := h;have hA : (W.alloc (.cells cur 27)).ownsRow W0.heap.size 27 5 (.slice (some ⟨W.heap.size,0,none⟩) 0 nL) 0 [] := World.ownsRow_made W cur nL hg.size (by simp only [maxLen];omega) (by omega);have hs : (W.alloc (.cells cur 27)).heap.size = W.heap.size + 1 := by simp
 obtain ⟨k1,k2,k3,k4,k5⟩ := CpJ.alloc (.cells cur 27) h1 h2 h3 h4 h5;refine ⟨g1,W.heap.size,g4,g5,hg.alloc _,h12,k1,k2,fun _ => ⟨rfl,hA⟩,k4,k5,⟨fun e => ?_,fun _ => ?_,fun e => ?_,fun e => ?_⟩,⟨fun e _ => ?_,d14,d15,fun _ e => ?_,fun _ e => ?_,d45⟩⟩
 ·have := t1 e;omega
 ·omega
 ·have := t4 e;omega
 ·have := t5 e;omega
 ·have := t1 e;omega
 ·have := t4 e;omega
 have := t5 e;omega
theorem CpJ.mk4 {W0 W : World} {b : List UInt8} {nL nF : Nat} {b1 b2 b3 b5 : Bool} {x1 x2 x3 x4 x5 : Value} {cur : Array Value} (h : CpJ W0 b nL nF b1 b2 b3 false b5 x1 x2 x3 x4 x5 W) (hcur : cur.size = nF * 6) (hn : nF ≤ 1000000000) :
 CpJ W0 b nL nF b1 b2 b3 true b5 x1 x2 x3 (.slice (some ⟨W.heap.size,0,none⟩) 0 nF) x5 (W.alloc (.cells cur 82)) := by
 obtain ⟨g1,g3,g4,g5,hg,h12,h1,h2,h3,h4,h5,⟨t1,t3,t4,t5⟩,⟨d13,d14,d15,d34,d35,d45⟩⟩ := h;have hA : (W.alloc (.cells cur 82)).ownsRow W0.heap.size 82 6 (.slice (some ⟨W.heap.size,0,none⟩) 0 nF) 0 [] := World.ownsRow_made W cur nF hg.size (by simp only [maxLen];omega) (by omega);have hs : (W.alloc (.cells cur 82)).heap.size = W.heap.size + 1 := by simp
 obtain ⟨k1,k2,k3,k4,k5⟩ := CpJ.alloc (.cells cur 82) h1 h2 h3 h4 h5;refine ⟨g1,g3,W.heap.size,g5,hg.alloc _,h12,k1,k2,k3,fun _ => ⟨rfl,hA⟩,k5,⟨fun e => ?_,fun e => ?_,fun _ => ?_,fun e => ?_⟩,⟨d13,fun e _ => ?_,d15,fun e _ => ?_,d35,fun _ e => ?_⟩⟩
 ·have := t1 e;omega
 ·have := t3 e;omega
 ·omega
 ·have := t5 e;omega
 ·have := t1 e;omega
 ·have := t3 e;omega
 have := t5 e;omega
theorem CpJ.mk5 {W0 W : World} {b : List UInt8} {nL nF : Nat} {b1 b2 b3 b4 : Bool} {x1 x2 x3 x4 x5 : Value} (h : CpJ W0 b nL nF b1 b2 b3 b4 false x1 x2 x3 x4 x5 W) :
 CpJ W0 b nL nF b1 b2 b3 b4 true x1 x2 x3 x4 (.pointer (some ⟨W.heap.size,0,none⟩)) (W.alloc (.cells #[.int .i64 0,.int .u64 0,.slice none 0 0,.slice none 0 0,.slice none 0 0] 27)) := by
 obtain ⟨g1,g3,g4,g5,hg,h12,h1,h2,h3,h4,h5,⟨t1,t3,t4,t5⟩,⟨d13,d14,d15,d34,d35,d45⟩⟩ := h;have hs : (W.alloc (.cells #[.int .i64 0,.int .u64 0,.slice none 0 0,.slice none 0 0,.slice none 0 0] 27)).heap.size = W.heap.size + 1 := by simp
 obtain ⟨k1,k2,k3,k4,k5⟩ := CpJ.alloc (.cells #[.int .i64 0,.int .u64 0,.slice none 0 0,.slice none 0 0,.slice none 0 0] 27) h1 h2 h3 h4 h5;refine ⟨g1,g3,g4,W.heap.size,hg.alloc _,h12,k1,k2,k3,k4,fun _ => ⟨rfl,Blk.new _ _ _,hg.size⟩,⟨fun e => ?_,fun e => ?_,fun e => ?_,fun _ => ?_⟩,⟨d13,d14,fun e _ => ?_,d34,fun e _ => ?_,fun e _ => ?_⟩⟩
 ·have := t1 e;omega
 ·have := t3 e;omega
 ·have := t4 e;omega
 ·omega
 ·have := t1 e;omega
 ·have := t3 e;omega
 have := t4 e;omega
theorem CpJ.done {W0 W : World} {b : List UInt8} {nL nF : Nat} {b1 : Bool} {A : Option Addr} {c : Nat} {x1 x3 x4 x5 : Value} (h : CpJ W0 b nL nF b1 true true true true x1 (.slice A b.length c) x3 x4 x5 W) :
 ∃ g1 g3 g4 g5 : Nat,x3 = .slice (some ⟨g3,0,none⟩) 0 nL ∧ x4 = .slice (some ⟨g4,0,none⟩) 0 nF ∧ x5 = .pointer (some ⟨g5,0,none⟩) ∧ Grow W0 W ∧ Row W W0.heap.size (.slice A b.length c) b.length b ∧ Value.ownBlock (.slice A b.length c) = some g1 ∧
  W.ownsRow W0.heap.size 27 5 (.slice (some ⟨g3,0,none⟩) 0 nL) 0 [] ∧ W.ownsRow W0.heap.size 82 6 (.slice (some ⟨g4,0,none⟩) 0 nF) 0 [] ∧
  Blk W g5 27 #[.int .i64 0,.int .u64 0,.slice none 0 0,.slice none 0 0,.slice none 0 0] ∧ W0.heap.size ≤ g5 ∧ (g1 ≠ g3 ∧ g1 ≠ g4 ∧ g1 ≠ g5 ∧ g3 ≠ g4 ∧ g3 ≠ g5 ∧ g4 ≠ g5) := by
 obtain ⟨g1,g3,g4,g5,hg,h12,h1,h2,h3,h4,h5,_,⟨d13,d14,d15,d34,d35,d45⟩⟩ := h;have hb1 := h12 rfl;obtain ⟨A',c',e,r2,r3⟩ := h2 rfl;injection e with e1 _ e2;subst e1 e2;exact ⟨g1,g3,g4,g5,(h3 rfl).1,(h4 rfl).1,(h5 rfl).1,hg,r2,r3,(h3 rfl).2,(h4 rfl).2,(h5 rfl).2.1,(h5 rfl).2.2,d13 hb1 rfl,d14 hb1 rfl,d15 hb1 rfl,d34 rfl rfl,d35 rfl rfl,d45 rfl rfl⟩
def CpE (W0 : World) (k n : Int) (b : List UInt8) (nL nF : Nat) (p : Value) (wx : World) : Prop :=
 ∃ (gO g1 g3 g4 : Nat) (A : Option Addr) (cB : Nat),p = .pointer (some ⟨gO,0,none⟩) ∧ Blk wx gO 27 #[.int .i64 k,.int .u64 n,.slice A b.length cB,.slice (some ⟨g3,0,none⟩) 0 nL,.slice (some ⟨g4,0,none⟩) 0 nF] ∧
  Row wx W0.heap.size (.slice A b.length cB) b.length b ∧ Value.ownBlock (.slice A b.length cB) = some g1 ∧
  wx.ownsRow W0.heap.size 27 5 (.slice (some ⟨g3,0,none⟩) 0 nL) 0 [] ∧ wx.ownsRow W0.heap.size 82 6 (.slice (some ⟨g4,0,none⟩) 0 nF) 0 [] ∧ Grow W0 wx ∧ W0.heap.size ≤ gO ∧
  (g1 ≠ g3 ∧ g1 ≠ g4 ∧ g1 ≠ gO ∧ g3 ≠ g4 ∧ g3 ≠ gO ∧ g4 ≠ gO)
theorem CpE.make {W0 W : World} {k n : Int} {b : List UInt8} {nL nF g1 g3 g4 gO cC : Nat} {A : Option Addr} (hg : Grow W0 W) (hC : Row W W0.heap.size (.slice A b.length cC) b.length b) (hCo : Value.ownBlock (.slice A b.length cC) = some g1)
 (h3 : W.ownsRow W0.heap.size 27 5 (.slice (some ⟨g3,0,none⟩) 0 nL) 0 []) (h4 : W.ownsRow W0.heap.size 82 6 (.slice (some ⟨g4,0,none⟩) 0 nF) 0 [])
 (hO : Blk W gO 27 #[.int .i64 0,.int .u64 0,.slice none 0 0,.slice none 0 0,.slice none 0 0]) (hOz : W0.heap.size ≤ gO) (hd : g1 ≠ g3 ∧ g1 ≠ g4 ∧ g1 ≠ gO ∧ g3 ≠ g4 ∧ g3 ≠ gO ∧ g4 ≠ gO) :
 CpE W0 k n b nL nF (.pointer (some ⟨gO,0,none⟩)) (set5 W gO ⟨k,n,A,b.length,cC,some ⟨g3,0,none⟩,0,nL,some ⟨g4,0,none⟩,0,nF⟩) := by
 have hs := set5_grown W gO ⟨k,n,A,b.length,cC,some ⟨g3,0,none⟩,0,nL,some ⟨g4,0,none⟩,0,nF⟩;refine ⟨gO,g1,g3,g4,A,cC,rfl,set5_from hO,World.ownsRow.kept hC hs (.inr ?_),hCo,World.ownsRow.kept h3 hs (.inr ?_),World.ownsRow.kept h4 hs (.inr ?_),hg.set5v hOz _,hOz,hd⟩
 ·rw [hCo];intro e;injection e with e;exact hd.2.2.1 e
 ·intro e;injection e with e;exact hd.2.2.2.2.1 e
 intro e;injection e with e;exact hd.2.2.2.2.2 e
structure CpR (w : World) (c : Cv) (M : Nat) (b : List UInt8) (gO g1 : Nat) (A : Option Addr) (cB : Nat) (sL sF : Value) (esL esF : List VE) (wr : World) : Prop where
 grow : Grow w wr
 src : Blk wr w.heap.size 27 c.cells
 res : Blk wr (w.heap.size + 1) 27 #[.int .i64 0,.int .u64 0,.slice none 0 0,.slice none 0 0,.slice none 0 0]
 out : Blk wr gO 27 #[.int .i64 c.k,.int .u64 c.n,.slice A b.length cB,sL,sF]
 row : Row wr (w.heap.size + 2) (.slice A b.length cB) b.length b
 own : Value.ownBlock (.slice A b.length cB) = some g1
 list : VRow wr 27 noHead 5 (w.heap.size + 2) M (w.heap.size + 2) sL esL
 flds : VRow wr 82 nameHead 6 (w.heap.size + 2) M (w.heap.size + 2) sF esF
 hO : w.heap.size + 2 ≤ gO ∧ gO ≤ M
 h1 : g1 ≤ M ∧ g1 ≠ gO
 hM : M < wr.heap.size
 ownL : ∀ k,sL.ownBlock = some k → k ≠ gO ∧ k ≠ g1
 ownF : ∀ k,sF.ownBlock = some k → k ≠ gO ∧ k ≠ g1
 ownLF : ∀ k,sL.ownBlock = some k → sF.ownBlock ≠ some k
 partL : ∀ x ∈ esL,∀ k,sF.ownBlock = some k → ¬ (x.lo ≤ k ∧ k < x.hi)
theorem VRow.setNe {W : World} {te : TypeId} {hd : ByteArray → List Value} {z lo vb base : Nat} {v : Value} {es : List VE} (h : VRow W te hd z lo vb base v es) {g : Nat} (hne : ∀ k,v.ownBlock = some k → k ≠ g) (hg : g ≤ vb) (i : Nat) (u : Value) : VRow (W.setCell ⟨g,i,none⟩ u) te hd z lo vb base v es :=
 h.kept (grown_set W g i u) (fun k e => by injection e with e;subst e;exact ⟨fun e2 => hne _ e2 rfl,hg⟩)
theorem CpR.addL {w : World} {c : Cv} {M : Nat} {b : List UInt8} {gO g1 : Nat} {A : Option Addr} {cB : Nat} {sL sL' sF : Value} {esL : List VE} {wr w3 w4 : World} {o : Obj} {x : V} {cx : Cv} {m0 : Nat} (h : CpR w c M b gO g1 A cB sL sF esL [] wr) (hg : Grow wr w3) (hm0 : wr.heap.size ≤ m0) (hm1 : m0 ≤ w3.heap.size)
 (hx : InS w3 m0 w3.heap.size x cx) (hown : w4.ownsRow (w.heap.size + 2) 27 5 sL' (esL.length + 1) (cellsOf noHead esL ++ cx.cells.toList)) (hgr : (w3.alloc o).grownBy w4 sL.ownBlock)
 (hob : sL'.ownBlock = sL.ownBlock ∨ sL'.ownBlock = some (w3.alloc o).heap.size) : CpR w c M b gO g1 A cB sL' sF (esL ++ [⟨⟨#[]⟩,x,cx,m0,w3.heap.size⟩]) [] (w4.setCell ⟨gO,3,none⟩ sL') := by
 have hga := hg.alloc o;have hz3 : (w3.alloc o).heap.size = w3.heap.size + 1 := by simp
 have hz4 := hgr.size;have hzg := hg.size;have hM := h.hM;have hO := h.hO;have hzs : (w4.setCell ⟨gO,3,none⟩ sL').heap.size = w4.heap.size := by simp [World.setCell]
 have hown' : ∀ k,sL'.ownBlock = some k → sL.ownBlock = some k ∨ k = w3.heap.size + 1 := fun k e => by
  rcases hob with q | q
  ·exact .inl (q ▸ e)
  rw [q] at e;injection e with e;exact .inr (by omega)
 have hVL := (VRow.add (s := ⟨#[]⟩) (m0 := m0) (h.list.grow hg) (fun k hk => Nat.lt_of_lt_of_le (h.list.own_lt hk).2 hm0) (by omega) (by have := h.grow.size;omega) (fun y hy => Nat.le_trans (h.list.part y hy).2.2.2.1 hm0) hx hown hgr hob);refine ⟨((h.grow.trans hga).grown hgr (fun k hk => by have := (h.list.own_lt hk).1;omega)).setCell (by show w.heap.size ≤ gO;omega) _,(Blk.own (h.src.grow hga) hgr (fun k hk => by have := (h.list.own_lt hk).1;omega)).far (by show w.heap.size ≠ gO;omega) _,(Blk.own (h.res.grow hga) hgr (fun k hk => by have := (h.list.own_lt hk).1;omega)).far (by show w.heap.size + 1 ≠ gO;omega) _,
  (Blk.own (h.out.grow hga) hgr (fun k hk => (h.ownL k hk).1)).set_ 3 sL',?_,h.own,hVL.setNe (fun k hk => ?_) hO.2 3 sL',?_,hO,h.h1,by omega,fun k hk => ?_,h.ownF,fun k hk => ?_,fun y hy k hk => ?_⟩
 ·refine World.ownsRow.kept (World.ownsRow.kept (h.row.grow hga) hgr ?_) (grown_set w4 gO 3 sL') (.inr ?_)
  ·cases hs : sL.ownBlock with
   | none => rw [h.own];simp
   | some k => right;rw [h.own];intro e;injection e with e;exact (h.ownL k hs).2 e.symm
  rw [h.own];intro e;injection e with e;exact h.h1.2 e
 ·rcases hown' k hk with q | q
  ·exact (h.ownL k q).1
  omega
 ·refine ⟨World.ownsRow.kept (World.ownsRow.kept (h.flds.grow hga).own hgr ?_) (grown_set w4 gO 3 sL') ?_,fun y hy => by simp at hy,fun i j hi => by simp at hi⟩
  ·cases hs : sL.ownBlock with
   | none => cases sF.ownBlock <;> simp
   | some k => right;exact fun e => h.ownLF k hs e
  right;intro e;exact (h.ownF gO e).1 rfl
 ·rcases hown' k hk with q | q
  ·exact h.ownL k q
  have := h.h1.1;omega
 ·rcases hown' k hk with q | q
  ·exact h.ownLF k q
  intro e;have := (h.flds.own_lt e).2;omega
 have hlt := (h.flds.own_lt hk).2;rcases List.mem_append.1 hy with hy | hy
 ·exact h.partL y hy k hk
 rw [List.mem_singleton] at hy;subst hy;intro q;have := q.1;dsimp only at this;omega
theorem CpR.addF {w : World} {c : Cv} {M : Nat} {b : List UInt8} {gO g1 : Nat} {A : Option Addr} {cB : Nat} {sL sF sF' : Value} {esL esF : List VE} {wr w3 w4 : World} {o : Obj} {s : ByteArray} {x : V} {cx : Cv} {m0 : Nat} (h : CpR w c M b gO g1 A cB sL sF esL esF wr) (hg : Grow wr w3) (hm0 : wr.heap.size ≤ m0) (hm1 : m0 ≤ w3.heap.size)
 (hx : InS w3 m0 w3.heap.size x cx) (hown : w4.ownsRow (w.heap.size + 2) 82 6 sF' (esF.length + 1) (cellsOf nameHead esF ++ (nameHead s ++ cx.cells.toList))) (hgr : (w3.alloc o).grownBy w4 sF.ownBlock)
 (hob : sF'.ownBlock = sF.ownBlock ∨ sF'.ownBlock = some (w3.alloc o).heap.size) : CpR w c M b gO g1 A cB sL sF' esL (esF ++ [⟨s,x,cx,m0,w3.heap.size⟩]) (w4.setCell ⟨gO,4,none⟩ sF') := by
 have hga := hg.alloc o;have hz3 : (w3.alloc o).heap.size = w3.heap.size + 1 := by simp
 have hz4 := hgr.size;have hzg := hg.size;have hM := h.hM;have hO := h.hO;have hzs : (w4.setCell ⟨gO,4,none⟩ sF').heap.size = w4.heap.size := by simp [World.setCell]
 have hown' : ∀ k,sF'.ownBlock = some k → sF.ownBlock = some k ∨ k = w3.heap.size + 1 := fun k e => by
  rcases hob with q | q
  ·exact .inl (q ▸ e)
  rw [q] at e;injection e with e;exact .inr (by omega)
 have hVF := (VRow.add (s := s) (m0 := m0) (h.flds.grow hg) (fun k hk => Nat.lt_of_lt_of_le (h.flds.own_lt hk).2 hm0) (by omega) (by have := h.grow.size;omega) (fun y hy => Nat.le_trans (h.flds.part y hy).2.2.2.1 hm0) hx hown hgr hob);refine ⟨((h.grow.trans hga).grown hgr (fun k hk => by have := (h.flds.own_lt hk).1;omega)).setCell (by show w.heap.size ≤ gO;omega) _,(Blk.own (h.src.grow hga) hgr (fun k hk => by have := (h.flds.own_lt hk).1;omega)).far (by show w.heap.size ≠ gO;omega) _,(Blk.own (h.res.grow hga) hgr (fun k hk => by have := (h.flds.own_lt hk).1;omega)).far (by show w.heap.size + 1 ≠ gO;omega) _,
  (Blk.own (h.out.grow hga) hgr (fun k hk => (h.ownF k hk).1)).set_ 4 sF',?_,h.own,?_,hVF.setNe (fun k hk => ?_) hO.2 4 sF',hO,h.h1,by omega,h.ownL,fun k hk => ?_,fun k hk e => ?_,fun y hy k hk => ?_⟩
 ·refine World.ownsRow.kept (World.ownsRow.kept (h.row.grow hga) hgr ?_) (grown_set w4 gO 4 sF') (.inr ?_)
  ·cases hs : sF.ownBlock with
   | none => rw [h.own];simp
   | some k => right;rw [h.own];intro e;injection e with e;exact (h.ownF k hs).2 e.symm
  rw [h.own];intro e;injection e with e;exact h.h1.2 e
 ·have hl3 := h.list.grow hga;have hl4 : VRow w4 27 noHead 5 (w.heap.size + 2) M (w.heap.size + 2) sL esL := by
   refine ⟨World.ownsRow.kept hl3.own hgr ?_,fun y hy => ?_,hl3.apart⟩
   ·cases hs : sF.ownBlock with
    | none => cases sL.ownBlock <;> simp
    | some k => right;exact fun e => h.ownLF k e hs
   obtain ⟨p1,p2,p3,p4⟩ := hl3.part y hy;exact ⟨p1,p2,p3,p4.blocks hgr.size (fun k hk hk' => hgr.block k (Nat.lt_of_lt_of_le hk' p4.1) (fun e => h.partL y hy k e.symm ⟨hk,hk'⟩))⟩
  exact hl4.setNe (fun k hk => (h.ownL k hk).1) hO.2 4 sF'
 ·rcases hown' k hk with q | q
  ·exact (h.ownF k q).1
  omega
 ·rcases hown' k hk with q | q
  ·exact h.ownF k q
  have := h.h1.1;omega
 ·rcases hown' k e with q | q
  ·exact h.ownLF k hk q
  have := (h.list.own_lt hk).2;omega
 rcases hown' k hk with q | q
 ·exact h.partL y hy k q
 have := (h.list.part y hy).2.2.2.1;intro e;omega
theorem CpR.start {w W0 wx : World} {c : Cv} {b : List UInt8} {nL nF : Nat} {p : Value} (hw : Grow w W0) (hz : W0.heap.size = w.heap.size + 2) (hs : Blk W0 w.heap.size 27 c.cells) (hr : Blk W0 (w.heap.size + 1) 27 #[.int .i64 0,.int .u64 0,.slice none 0 0,.slice none 0 0,.slice none 0 0])
 (h : CpE W0 c.k c.n b nL nF p wx) : ∃ gO g1 g3 g4 A cB,p = .pointer (some ⟨gO,0,none⟩) ∧ CpR w c (wx.heap.size - 1) b gO g1 A cB (.slice (some ⟨g3,0,none⟩) 0 nL) (.slice (some ⟨g4,0,none⟩) 0 nF) [] [] wx := by
 obtain ⟨gO,g1,g3,g4,A,cB,rfl,hO,hC,hCo,h3,h4,hg,hOz,d13,d14,d1O,d34,d3O,d4O⟩ := h;rw [hz] at hC h3 h4 hOz;have hOl := hO.lt;have h1l := (World.ownsRow.lt hC g1 hCo).2;refine ⟨gO,g1,g3,g4,A,cB,rfl,hw.trans hg,hs.grow hg,hr.grow hg,hO,hC,hCo,⟨h3,fun x hx => by simp at hx,fun i j hi => by simp at hi⟩,⟨h4,fun x hx => by simp at hx,fun i j hi => by simp at hi⟩,⟨hOz,by omega⟩,⟨by omega,d1O⟩,by omega,fun k hk => ?_,fun k hk => ?_,fun k hk e => ?_,fun x hx => by simp at hx⟩
 ·have e : g3 = k := Option.some.inj hk;subst e;exact ⟨d3O,fun e => d13 e.symm⟩
 ·have e : g4 = k := Option.some.inj hk;subst e;exact ⟨d4O,fun e => d14 e.symm⟩
 have e1 : g3 = k := Option.some.inj hk;have e2 : g4 = k := Option.some.inj e;omega
theorem CpR.done {w : World} {k : Int} {n : Nat} {aB aL aF : Option Addr} {nB cB0 nL0 cL0 nF0 cF0 : Nat} {M : Nat} {b : List UInt8} {gO g1 : Nat} {A AL AF : Option Addr} {cB capL capF : Nat} {esL esF : List VE} {wr : World} (h : CpR w ⟨k,n,aB,nB,cB0,aL,nL0,cL0,aF,nF0,cF0⟩ M b gO g1 A cB (.slice AL esL.length capL) (.slice AF esF.length capF) esL esF wr)
 (hs : ∀ x ∈ esF,x.s.size ≤ 140737488355328) (h1 : -9223372036854775808 ≤ k) (h2 : k ≤ 9223372036854775807) (hn : n < 18446744073709551616) (hb : b.length ≤ 140737488355328) (hl : esL.length ≤ 140737488355328) (hf : esF.length ≤ 140737488355328) {e : Ending}
 (he : e = .returned (Cv.agg ⟨k,n,A,b.length,cB,AL,esL.length,capL,AF,esF.length,capF⟩)) :
 CopyC w (.mk k n b (esL.map VE.v) (esF.map fun x => (x.s,x.v))) e (set5 wr (w.heap.size + 1) ⟨k,n,A,b.length,cB,AL,esL.length,capL,AF,esF.length,capF⟩) := by
 subst he;have hg5 := set5_grown wr (w.heap.size + 1) ⟨k,n,A,b.length,cB,AL,esL.length,capL,AF,esF.length,capF⟩;have hz5 := set5_size wr (w.heap.size + 1) ⟨k,n,A,b.length,cB,AL,esL.length,capL,AF,esF.length,capF⟩;have hO := h.hO;have hL := ((h.list.lower (vb' := w.heap.size + 1) (by omega)).kept hg5 (fun q e => by injection e with e;exact ⟨fun e2 => by have := (h.list.own_lt e2).1;omega,by omega⟩)).isLK rfl (Nat.le_refl _) (by omega) hl;have hF := ((h.flds.lower (vb' := w.heap.size + 1) (by omega)).kept hg5 (fun q e => by injection e with e;exact ⟨fun e2 => by have := (h.flds.own_lt e2).1;omega,by omega⟩)).isFK hs rfl (Nat.le_refl _) (by omega) hf;have hR : Row (set5 wr (w.heap.size + 1) ⟨k,n,A,b.length,cB,AL,esL.length,capL,AF,esF.length,capF⟩) (w.heap.size + 2) (.slice A b.length cB) b.length b := World.ownsRow.kept h.row hg5 (.inr (by
  rw [h.own];intro e;injection e with e;have := (World.ownsRow.lt h.row g1 h.own).1;omega))
 have hcapB := cp_cap hR;have hRd := cp_reads hR;generalize set5 wr (w.heap.size + 1) ⟨k,n,A,b.length,cB,AL,esL.length,capL,AF,esF.length,capF⟩ = W at *;refine ⟨⟨k,n,A,b.length,cB,AL,esL.length,capL,AF,esF.length,capF⟩,rfl,⟨Nat.le_refl _,?_⟩,h.grow.grown hg5 (fun q e => by injection e with e;omega)⟩;rw [IsS] at hL hF ⊢;obtain ⟨_,_,_,l4,_,_,_,_,_,_,l11,l12,_,_,_,⟨T,hT1,hT2⟩,_⟩ := hL;obtain ⟨_,_,_,_,f5,_,_,_,_,_,_,_,f13,f14,_,_,⟨U,hU1,hU2⟩⟩ := hF;refine ⟨rfl,rfl,rfl,l4,f5,h1,h2,hn,hcapB,hb,l11,l12,f13,f14,Reads.mono (fun p u q => ⟨q.1,by have := q.2.1;omega,q.2.2⟩) hRd,⟨T,fun i hi => ?_,hT2⟩,⟨U,fun i hi => ?_,hU2⟩⟩
 ·obtain ⟨bk,o,x,r1,r2,r3,r4,r5,r6⟩ := hT1 i hi;exact ⟨bk,o,x,r1,⟨by have := r2.1;omega,r2.2⟩,r3,fun q hq => ⟨by have := (r4 q hq).1;omega,(r4 q hq).2⟩,At5.mono (fun _ _ z => z.1) r5,IsS.mono _ _ _ _ (fun _ _ z _ => z.1) (fun _ z => z) r6⟩
 obtain ⟨bk,o,x,r1,r2,r3,r4,r5,r6,r7,r8⟩ := hU1 i hi;exact ⟨bk,o,x,r1,⟨by have := r2.1;omega,r2.2⟩,r3,fun q hq => ⟨by have := (r4 q hq).1;omega,(r4 q hq).2⟩,r5.1,r6,At5.mono (fun _ _ z => z.1) r7,IsS.mono _ _ _ _ (fun _ _ z _ => z.1) (fun _ z => z) r8⟩
end
section
open Go.RowKit Go.Shelf Go.WideShapes
theorem merge5 {P : Program} {md : Region.Mode} {ops : Array Oper} {Q : Exit → Act → World → Prop} {S : World → Prop} (L : Bool → Bool → Bool → Bool → Bool → Array Bool) (A : Value → Value → Value → Value → Value → Act)
 (I : Bool → Bool → Bool → Bool → Bool → Value → Value → Value → Value → Value → World → Prop) {l : Array Bool} {a : Act} {W : World} {n : Nat} (hn : n = 7)
 (hl : l = L false false false false false) (ha : a = A undef undef undef undef undef) (h0 : I false false false false false undef undef undef undef undef W)
 (h : ∀ (f : Nat) b1 b2 b3 b4 b5 x1 x2 x3 x4 x5 W,f = (!b1).toNat + (!b2).toNat + (!b3).toNat + (!b4).toNat + (!b5).toNat + 1 → I b1 b2 b3 b4 b5 x1 x2 x3 x4 x5 W →
  (∀ c1 c2 c3 c4 c5 y1 y2 y3 y4 y5 W',f = (!c1).toNat + (!c2).toNat + (!c3).toNat + (!c4).toNat + (!c5).toNat + 2 → I c1 c2 c3 c4 c5 y1 y2 y3 y4 y5 W' → wpAnyH P md ops Q S f (L c1 c2 c3 c4 c5) (A y1 y2 y3 y4 y5) W') →
  wpAnyH P md ops Q S (f + 1) (L b1 b2 b3 b4 b5) (A x1 x2 x3 x4 x5) W) : wpAnyH P md ops Q S n l a W := by
 have key : ∀ (f : Nat) b1 b2 b3 b4 b5 x1 x2 x3 x4 x5 W,f = (!b1).toNat + (!b2).toNat + (!b3).toNat + (!b4).toNat + (!b5).toNat + 2 → I b1 b2 b3 b4 b5 x1 x2 x3 x4 x5 W → wpAnyH P md ops Q S f (L b1 b2 b3 b4 b5) (A x1 x2 x3 x4 x5) W := by
  intro f
  induction f with
  | zero => intro b1 b2 b3 b4 b5 x1 x2 x3 x4 x5 W e;omega
  | succ f ih =>
   intro b1 b2 b3 b4 b5 x1 x2 x3 x4 x5 W e hI;exact h f b1 b2 b3 b4 b5 x1 x2 x3 x4 x5 W (by omega) hI (fun c1 c2 c3 c4 c5 y1 y2 y3 y4 y5 W' e' h' => ih c1 c2 c3 c4 c5 y1 y2 y3 y4 y5 W' e' h')
 subst hl ha hn;exact key 7 _ _ _ _ _ _ _ _ _ _ _ rfl h0
theorem CpJ.forms {W0 W : World} {b : List UInt8} {nL nF : Nat} {b1 b5 : Bool} {x1 x2 x3 x4 x5 : Value} (h : CpJ W0 b nL nF b1 true true true b5 x1 x2 x3 x4 x5 W) : ∃ A c g3 g4,x2 = .slice A b.length c ∧ x3 = .slice (some ⟨g3,0,none⟩) 0 nL ∧ x4 = .slice (some ⟨g4,0,none⟩) 0 nF := by
 obtain ⟨g1,g3,g4,g5,hg,h12,h1,h2,h3,h4,h5,_⟩ := h;obtain ⟨A,c,e,_,_⟩ := h2 rfl;exact ⟨A,c,g3,g4,e,(h3 rfl).1,(h4 rfl).1⟩
theorem take_snocV {l : List V} {es : List VE} {j : Nat} (h : j < l.length) (e : es.map VE.v = l.take j) {x : VE} (hx : x.v = l[j]) : (es ++ [x]).map VE.v = l.take (j + 1) := by
 rw [List.map_append,e,List.take_add_one,List.getElem?_eq_getElem h];simp [hx]
theorem take_snocF {f : List (ByteArray × V)} {es : List VE} {j : Nat} (h : j < f.length) (e : es.map (fun x => (x.s,x.v)) = f.take j) {x : VE} (hx : (x.s,x.v) = f[j]) : (es ++ [x]).map (fun x => (x.s,x.v)) = f.take (j + 1) := by
 rw [List.map_append,e,List.take_add_one,List.getElem?_eq_getElem h];simp [hx]
theorem Src.oneW {w : World} {W : World} (c : Cv) (e : TypeId) {g : Nat} (hg : g = w.heap.size) : Src Tryz.prog 5 24 (.slice (some ⟨g,0,none⟩) 1 1) 1 c.cells.toList (w.alloc (.cells c.cells e)) := by
 subst hg;exact Src.oneV c e
theorem copy_any (v : V) : v.sml → ∀ (w : World) (c : Cv),In w v c → Calls Tryz.prog 42 #[c.agg] w (CopyC w v) := by
 induction v using V.ind with
 | h k n b l f hl hf =>
  intro hsm w c hv;rw [V.sml_mk] at hsm;obtain ⟨hbl,hll,hfl,hsl,hsf⟩ := hsm;have HV := hide hv;have Hl := hide (fun j (h : j < l.length) => hl l[j] (List.getElem_mem h) (hsl l[j] (List.getElem_mem h)));have Hf := hide (fun j (h : j < f.length) => hf f[j] (List.getElem_mem h) (hsf f[j] (List.getElem_mem h)));obtain ⟨aB,aL,aF,cB,cL,cF,rfl,h1,h2,h3,h4,h5,h6,h7,h8,h9,hR⟩ := hv.open;obtain ⟨cur,hcur,hmk⟩ := make_u8 b.length (by omega);obtain ⟨curL,hcurL,hmkL⟩ := make_valsS l.length hll;obtain ⟨curF,hcurF,hmkF⟩ := make_fldsS f.length hfl;have hc0 := ((Blk.new w 27 (Cv.cells ⟨k,n,aB,b.length,cB,aL,l.length,cL,aF,f.length,cF⟩)).alloc (.cells Cv.zero.cells 27));have HC0 := hide hc0;have hcell := hc0.cell
  have HS := hide (show ∀ w',Grow (((w.alloc (.cells (Cv.cells ⟨k,n,aB,b.length,cB,aL,l.length,cL,aF,f.length,cF⟩) 27)).alloc (.cells #[.int .i64 0,.int .u64 0,.slice none 0 0,.slice none 0 0,.slice none 0 0] 27)).drew) w' → ∀ i,w'.cell? ⟨w.heap.size,i,none⟩ = (Cv.cells ⟨k,n,aB,b.length,cB,aL,l.length,cL,aF,f.length,cF⟩)[i]? from fun w' h => (hc0.drew.grow h).cell);have HSRC := hide (show ∀ w',Grow w w' → Src Tryz.prog 1 23 (.slice aB b.length cB) b.length (u8s b) w' from fun w' h => Src.ofReads under_u8s (InB.grow hR h) (u8s_one _));obtain ⟨i0,hi0,hz0',hz1,hz2⟩ := info_parts info_u8;have Hi0 := hide hi0;have Hz0 := hide hz0';have Hz1 := hide hz1;have Hz2 := hide hz2;clear hi0 hz0' hz1 hz2 hl hf hsl hsf hv;clear hR h4 h5 h6 h7 h8 h9 hc0;go_enter Tryz.func42,Tryz.ntmps42;go_upto_region 1 with fail
  go_cut [3] (fun p wx => CpE (((w.alloc (.cells (Cv.cells ⟨k,n,aB,b.length,cB,aL,l.length,cL,aF,f.length,cF⟩) 27)).alloc (.cells #[.int .i64 0,.int .u64 0,.slice none 0 0,.slice none 0 0,.slice none 0 0] 27)).drew) k n b l.length f.length p wx)
  case first =>
   refine wp_region_noPanic ?_;refine wp_region_held_drew (S := fun w' => ∀ i,w'.cell? ⟨w.heap.size,i,none⟩ = (Cv.cells ⟨k,n,aB,b.length,cB,aL,l.length,cL,aF,f.length,cF⟩)[i]?) (by kernel_rfl) (hcell) (fun hHeld => ?_);refine tk_ 0 ?_;refine tk_ 1 ?_;refine tk_ 2 ?_;refine tk_ 3 ?_;refine tk_ 4 ?_;refine tk_ 5 ?_;refine tk_ 6 ?_;refine tk_ 8 ?_;refine tk_ 9 ?_;refine tk_ 11 ?_;refine tk_ 12 ?_;refine tk_ 13 ?_;refine tk_ 15 ?_;refine tk_ 16 ?_;refine tk_ 17 ?_;have HW0 := hide ((((Grow.refl w).alloc (.cells (Cv.cells ⟨k,n,aB,b.length,cB,aL,l.length,cL,aF,f.length,cF⟩) 27)).alloc (.cells #[.int .i64 0,.int .u64 0,.slice none 0 0,.slice none 0 0,.slice none 0 0] 27)).drew);clear hcell hHeld HC0 HV Hl Hf
   generalize hWW : ((w.alloc (.cells (Cv.cells ⟨k,n,aB,b.length,cB,aL,l.length,cL,aF,f.length,cF⟩) 27)).alloc (.cells #[.int .i64 0,.int .u64 0,.slice none 0 0,.slice none 0 0,.slice none 0 0] 27)).drew = W0 at HS HW0 ⊢;have HWW := hide hWW;clear hWW
   refine merge5 (fun b1 b2 b3 b4 b5 => #[true,true,true,true,true,true,true,b1,true,true,b2,true,true,true,b3,true,true,true,b4,false,b5,false]) (fun x1 x2 x3 x4 x5 => { tmps := #[(Cv.agg ⟨k,n,aB,b.length,cB,aL,l.length,cL,aF,f.length,cF⟩),.pointer (some ⟨w.heap.size,0,none⟩),.pointer (some ⟨w.heap.size + 1,0,none⟩),x5,undef,undef,undef,undef,.pointer (some ⟨w.heap.size,0,none⟩),.int .i64 k,.pointer (some ⟨w.heap.size,1,none⟩),.int .u64 n,.pointer (some ⟨w.heap.size,2,none⟩),.slice aB b.length cB,.int .i64 b.length,x1,.pointer (some ⟨w.heap.size,2,none⟩),.slice aB b.length cB,x2,.pointer (some ⟨w.heap.size,3,none⟩),.slice aL l.length cL,.int .i64 l.length,x3,.pointer (some ⟨w.heap.size,4,none⟩),.slice aF f.length cF,.int .i64 f.length,x4,undef,undef,undef,undef,undef,undef,undef,undef,undef,undef,undef,undef,undef,undef,undef,undef,undef,undef,undef,undef,undef,undef,undef,undef,undef,undef,undef,undef,undef,undef,undef,undef,undef,undef,undef,undef],defers := [] }) (CpJ W0 b l.length f.length) rfl (by kernel_rfl) rfl ?_ ?_
   ·exact ⟨0,0,0,0,Grow.refl _,fun e => (by cases e),fun e => (by cases e),fun e => (by cases e),fun e => (by cases e),fun e => (by cases e),fun e => (by cases e),⟨fun e => (by cases e),fun e => (by cases e),fun e => (by cases e),fun e => (by cases e)⟩,⟨fun e => (by cases e),fun e => (by cases e),fun e => (by cases e),fun e => (by cases e),fun e => (by cases e),fun e => (by cases e)⟩⟩
   intro fu b1 b2 b3 b4 b5 x1 x2 x3 x4 x5 W hfu hI IH;dsimp only at IH ⊢
   cases b1 <;> cases b2 <;> cases b3 <;> cases b4 <;> cases b5
   ·obtain rfl : fu = 6 := hfu;refine rr_ [7,14,18,20] ?_;refine AllReadyH.cons rfl (fun K hK => ?_) ?_
    ·go_simp;have hI2 := hI.mk1 hcur hbl;refine hK.out _ _ (HS.out _ hI2.grow) (fun hHeld => ?_);clear hK K;simp only [ly_];exact IH true false false false false _ _ _ _ _ _ rfl hI2
    refine AllReadyH.cons rfl (fun K hK => ?_) ?_
    ·go_simp;have hI2 := hI.mk3 hcurL hll;refine hK.out _ _ (HS.out _ hI2.grow) (fun hHeld => ?_);clear hK K;simp only [ly_];exact IH false false true false false _ _ _ _ _ _ rfl hI2
    refine AllReadyH.cons rfl (fun K hK => ?_) ?_
    ·go_simp;have hI2 := hI.mk4 hcurF hfl;refine hK.out _ _ (HS.out _ hI2.grow) (fun hHeld => ?_);clear hK K;simp only [ly_];exact IH false false false true false _ _ _ _ _ _ rfl hI2
    refine AllReadyH.cons rfl (fun K hK => ?_) AllReadyH.nil;go_simp;have hI2 := hI.mk5;refine hK.out _ _ (HS.out _ hI2.grow) (fun hHeld => ?_);clear hK K;simp only [ly_];exact IH false false false false true _ _ _ _ _ _ rfl hI2
   ·obtain rfl : fu = 5 := hfu;refine rr_ [7,14,18] ?_;refine AllReadyH.cons rfl (fun K hK => ?_) ?_
    ·go_simp;have hI2 := hI.mk1 hcur hbl;refine hK.out _ _ (HS.out _ hI2.grow) (fun hHeld => ?_);clear hK K;simp only [ly_];exact IH true false false false true _ _ _ _ _ _ rfl hI2
    refine AllReadyH.cons rfl (fun K hK => ?_) ?_
    ·go_simp;have hI2 := hI.mk3 hcurL hll;refine hK.out _ _ (HS.out _ hI2.grow) (fun hHeld => ?_);clear hK K;simp only [ly_];exact IH false false true false true _ _ _ _ _ _ rfl hI2
    refine AllReadyH.cons rfl (fun K hK => ?_) AllReadyH.nil;go_simp;have hI2 := hI.mk4 hcurF hfl;refine hK.out _ _ (HS.out _ hI2.grow) (fun hHeld => ?_);clear hK K;simp only [ly_];exact IH false false false true true _ _ _ _ _ _ rfl hI2
   ·obtain rfl : fu = 5 := hfu;refine rr_ [7,14,20] ?_;refine AllReadyH.cons rfl (fun K hK => ?_) ?_
    ·go_simp;have hI2 := hI.mk1 hcur hbl;refine hK.out _ _ (HS.out _ hI2.grow) (fun hHeld => ?_);clear hK K;simp only [ly_];exact IH true false false true false _ _ _ _ _ _ rfl hI2
    refine AllReadyH.cons rfl (fun K hK => ?_) ?_
    ·go_simp;have hI2 := hI.mk3 hcurL hll;refine hK.out _ _ (HS.out _ hI2.grow) (fun hHeld => ?_);clear hK K;simp only [ly_];exact IH false false true true false _ _ _ _ _ _ rfl hI2
    refine AllReadyH.cons rfl (fun K hK => ?_) AllReadyH.nil;go_simp;have hI2 := hI.mk5;refine hK.out _ _ (HS.out _ hI2.grow) (fun hHeld => ?_);clear hK K;simp only [ly_];exact IH false false false true true _ _ _ _ _ _ rfl hI2
   ·obtain rfl : fu = 4 := hfu;refine rr_ [7,14] ?_;refine AllReadyH.cons rfl (fun K hK => ?_) ?_
    ·go_simp;have hI2 := hI.mk1 hcur hbl;refine hK.out _ _ (HS.out _ hI2.grow) (fun hHeld => ?_);clear hK K;simp only [ly_];exact IH true false false true true _ _ _ _ _ _ rfl hI2
    refine AllReadyH.cons rfl (fun K hK => ?_) AllReadyH.nil;go_simp;have hI2 := hI.mk3 hcurL hll;refine hK.out _ _ (HS.out _ hI2.grow) (fun hHeld => ?_);clear hK K;simp only [ly_];exact IH false false true true true _ _ _ _ _ _ rfl hI2
   ·obtain rfl : fu = 5 := hfu;refine rr_ [7,18,20] ?_;refine AllReadyH.cons rfl (fun K hK => ?_) ?_
    ·go_simp;have hI2 := hI.mk1 hcur hbl;refine hK.out _ _ (HS.out _ hI2.grow) (fun hHeld => ?_);clear hK K;simp only [ly_];exact IH true false true false false _ _ _ _ _ _ rfl hI2
    refine AllReadyH.cons rfl (fun K hK => ?_) ?_
    ·go_simp;have hI2 := hI.mk4 hcurF hfl;refine hK.out _ _ (HS.out _ hI2.grow) (fun hHeld => ?_);clear hK K;simp only [ly_];exact IH false false true true false _ _ _ _ _ _ rfl hI2
    refine AllReadyH.cons rfl (fun K hK => ?_) AllReadyH.nil;go_simp;have hI2 := hI.mk5;refine hK.out _ _ (HS.out _ hI2.grow) (fun hHeld => ?_);clear hK K;simp only [ly_];exact IH false false true false true _ _ _ _ _ _ rfl hI2
   ·obtain rfl : fu = 4 := hfu;refine rr_ [7,18] ?_;refine AllReadyH.cons rfl (fun K hK => ?_) ?_
    ·go_simp;have hI2 := hI.mk1 hcur hbl;refine hK.out _ _ (HS.out _ hI2.grow) (fun hHeld => ?_);clear hK K;simp only [ly_];exact IH true false true false true _ _ _ _ _ _ rfl hI2
    refine AllReadyH.cons rfl (fun K hK => ?_) AllReadyH.nil;go_simp;have hI2 := hI.mk4 hcurF hfl;refine hK.out _ _ (HS.out _ hI2.grow) (fun hHeld => ?_);clear hK K;simp only [ly_];exact IH false false true true true _ _ _ _ _ _ rfl hI2
   ·obtain rfl : fu = 4 := hfu;refine rr_ [7,20] ?_;refine AllReadyH.cons rfl (fun K hK => ?_) ?_
    ·go_simp;have hI2 := hI.mk1 hcur hbl;refine hK.out _ _ (HS.out _ hI2.grow) (fun hHeld => ?_);clear hK K;simp only [ly_];exact IH true false true true false _ _ _ _ _ _ rfl hI2
    refine AllReadyH.cons rfl (fun K hK => ?_) AllReadyH.nil;go_simp;have hI2 := hI.mk5;refine hK.out _ _ (HS.out _ hI2.grow) (fun hHeld => ?_);clear hK K;simp only [ly_];exact IH false false true true true _ _ _ _ _ _ rfl hI2
   ·obtain rfl : fu = 3 := hfu;refine rr_ [7] ?_;refine AllReadyH.cons rfl (fun K hK => ?_) AllReadyH.nil;go_simp;have hI2 := hI.mk1 hcur hbl;refine hK.out _ _ (HS.out _ hI2.grow) (fun hHeld => ?_);clear hK K;simp only [ly_];exact IH true false true true true _ _ _ _ _ _ rfl hI2
   ·exact absurd (hI.le rfl) (by decide)
   ·exact absurd (hI.le rfl) (by decide)
   ·exact absurd (hI.le rfl) (by decide)
   ·exact absurd (hI.le rfl) (by decide)
   ·exact absurd (hI.le rfl) (by decide)
   ·exact absurd (hI.le rfl) (by decide)
   ·exact absurd (hI.le rfl) (by decide)
   ·exact absurd (hI.le rfl) (by decide)
   ·obtain rfl : fu = 5 := hfu;refine rr_ [10,14,18,20] ?_;refine AllReadyH.cons rfl (fun K hK => ?_) ?_
    ·obtain ⟨g,rfl,hA⟩ := hI.made;refine step_append_src (by rfl) (.tmp 15) (.tmp 17) 23 23 (by rfl) W0.heap.size 5 i0 _ 1 1 under_u8s Hi0.out Hz0.out Hz1.out Hz2.out (by rfl) (.slice (some ⟨g,0,none⟩) 0 b.length) 0 (u8s []) (by rfl) hA (.slice aB b.length cB) b.length (u8s b) (by rfl) (HSRC.out _ (HW0.out.trans hI.grow)) (by omega) (by simp only [maxLen];omega) hI.grow.size ?_;intro A cC W2 hown hgr hob;simp only [Nat.zero_add] at hown hob ⊢;have hI2 := hI.mk2 rfl hown hgr hob;refine hK.out _ _ (HS.out _ hI2.grow) (fun hHeld => ?_);clear hK K;simp only [ly_];exact IH true true false false false _ _ _ _ _ _ rfl hI2
    refine AllReadyH.cons rfl (fun K hK => ?_) ?_
    ·go_simp;have hI2 := hI.mk3 hcurL hll;refine hK.out _ _ (HS.out _ hI2.grow) (fun hHeld => ?_);clear hK K;simp only [ly_];exact IH true false true false false _ _ _ _ _ _ rfl hI2
    refine AllReadyH.cons rfl (fun K hK => ?_) ?_
    ·go_simp;have hI2 := hI.mk4 hcurF hfl;refine hK.out _ _ (HS.out _ hI2.grow) (fun hHeld => ?_);clear hK K;simp only [ly_];exact IH true false false true false _ _ _ _ _ _ rfl hI2
    refine AllReadyH.cons rfl (fun K hK => ?_) AllReadyH.nil;go_simp;have hI2 := hI.mk5;refine hK.out _ _ (HS.out _ hI2.grow) (fun hHeld => ?_);clear hK K;simp only [ly_];exact IH true false false false true _ _ _ _ _ _ rfl hI2
   ·obtain rfl : fu = 4 := hfu;refine rr_ [10,14,18] ?_;refine AllReadyH.cons rfl (fun K hK => ?_) ?_
    ·obtain ⟨g,rfl,hA⟩ := hI.made;refine step_append_src (by rfl) (.tmp 15) (.tmp 17) 23 23 (by rfl) W0.heap.size 5 i0 _ 1 1 under_u8s Hi0.out Hz0.out Hz1.out Hz2.out (by rfl) (.slice (some ⟨g,0,none⟩) 0 b.length) 0 (u8s []) (by rfl) hA (.slice aB b.length cB) b.length (u8s b) (by rfl) (HSRC.out _ (HW0.out.trans hI.grow)) (by omega) (by simp only [maxLen];omega) hI.grow.size ?_;intro A cC W2 hown hgr hob;simp only [Nat.zero_add] at hown hob ⊢;have hI2 := hI.mk2 rfl hown hgr hob;refine hK.out _ _ (HS.out _ hI2.grow) (fun hHeld => ?_);clear hK K;simp only [ly_];exact IH true true false false true _ _ _ _ _ _ rfl hI2
    refine AllReadyH.cons rfl (fun K hK => ?_) ?_
    ·go_simp;have hI2 := hI.mk3 hcurL hll;refine hK.out _ _ (HS.out _ hI2.grow) (fun hHeld => ?_);clear hK K;simp only [ly_];exact IH true false true false true _ _ _ _ _ _ rfl hI2
    refine AllReadyH.cons rfl (fun K hK => ?_) AllReadyH.nil;go_simp;have hI2 := hI.mk4 hcurF hfl;refine hK.out _ _ (HS.out _ hI2.grow) (fun hHeld => ?_);clear hK K;simp only [ly_];exact IH true false false true true _ _ _ _ _ _ rfl hI2
   ·obtain rfl : fu = 4 := hfu;refine rr_ [10,14,20] ?_;refine AllReadyH.cons rfl (fun K hK => ?_) ?_
    ·obtain ⟨g,rfl,hA⟩ := hI.made;refine step_append_src (by rfl) (.tmp 15) (.tmp 17) 23 23 (by rfl) W0.heap.size 5 i0 _ 1 1 under_u8s Hi0.out Hz0.out Hz1.out Hz2.out (by rfl) (.slice (some ⟨g,0,none⟩) 0 b.length) 0 (u8s []) (by rfl) hA (.slice aB b.length cB) b.length (u8s b) (by rfl) (HSRC.out _ (HW0.out.trans hI.grow)) (by omega) (by simp only [maxLen];omega) hI.grow.size ?_;intro A cC W2 hown hgr hob;simp only [Nat.zero_add] at hown hob ⊢;have hI2 := hI.mk2 rfl hown hgr hob;refine hK.out _ _ (HS.out _ hI2.grow) (fun hHeld => ?_);clear hK K;simp only [ly_];exact IH true true false true false _ _ _ _ _ _ rfl hI2
    refine AllReadyH.cons rfl (fun K hK => ?_) ?_
    ·go_simp;have hI2 := hI.mk3 hcurL hll;refine hK.out _ _ (HS.out _ hI2.grow) (fun hHeld => ?_);clear hK K;simp only [ly_];exact IH true false true true false _ _ _ _ _ _ rfl hI2
    refine AllReadyH.cons rfl (fun K hK => ?_) AllReadyH.nil;go_simp;have hI2 := hI.mk5;refine hK.out _ _ (HS.out _ hI2.grow) (fun hHeld => ?_);clear hK K;simp only [ly_];exact IH true false false true true _ _ _ _ _ _ rfl hI2
   ·obtain rfl : fu = 3 := hfu;refine rr_ [10,14] ?_;refine AllReadyH.cons rfl (fun K hK => ?_) ?_
    ·obtain ⟨g,rfl,hA⟩ := hI.made;refine step_append_src (by rfl) (.tmp 15) (.tmp 17) 23 23 (by rfl) W0.heap.size 5 i0 _ 1 1 under_u8s Hi0.out Hz0.out Hz1.out Hz2.out (by rfl) (.slice (some ⟨g,0,none⟩) 0 b.length) 0 (u8s []) (by rfl) hA (.slice aB b.length cB) b.length (u8s b) (by rfl) (HSRC.out _ (HW0.out.trans hI.grow)) (by omega) (by simp only [maxLen];omega) hI.grow.size ?_;intro A cC W2 hown hgr hob;simp only [Nat.zero_add] at hown hob ⊢;have hI2 := hI.mk2 rfl hown hgr hob;refine hK.out _ _ (HS.out _ hI2.grow) (fun hHeld => ?_);clear hK K;simp only [ly_];exact IH true true false true true _ _ _ _ _ _ rfl hI2
    refine AllReadyH.cons rfl (fun K hK => ?_) AllReadyH.nil;go_simp;have hI2 := hI.mk3 hcurL hll;refine hK.out _ _ (HS.out _ hI2.grow) (fun hHeld => ?_);clear hK K;simp only [ly_];exact IH true false true true true _ _ _ _ _ _ rfl hI2
   ·obtain rfl : fu = 4 := hfu;refine rr_ [10,18,20] ?_;refine AllReadyH.cons rfl (fun K hK => ?_) ?_
    ·obtain ⟨g,rfl,hA⟩ := hI.made;refine step_append_src (by rfl) (.tmp 15) (.tmp 17) 23 23 (by rfl) W0.heap.size 5 i0 _ 1 1 under_u8s Hi0.out Hz0.out Hz1.out Hz2.out (by rfl) (.slice (some ⟨g,0,none⟩) 0 b.length) 0 (u8s []) (by rfl) hA (.slice aB b.length cB) b.length (u8s b) (by rfl) (HSRC.out _ (HW0.out.trans hI.grow)) (by omega) (by simp only [maxLen];omega) hI.grow.size ?_;intro A cC W2 hown hgr hob;simp only [Nat.zero_add] at hown hob ⊢;have hI2 := hI.mk2 rfl hown hgr hob;refine hK.out _ _ (HS.out _ hI2.grow) (fun hHeld => ?_);clear hK K;simp only [ly_];exact IH true true true false false _ _ _ _ _ _ rfl hI2
    refine AllReadyH.cons rfl (fun K hK => ?_) ?_
    ·go_simp;have hI2 := hI.mk4 hcurF hfl;refine hK.out _ _ (HS.out _ hI2.grow) (fun hHeld => ?_);clear hK K;simp only [ly_];exact IH true false true true false _ _ _ _ _ _ rfl hI2
    refine AllReadyH.cons rfl (fun K hK => ?_) AllReadyH.nil;go_simp;have hI2 := hI.mk5;refine hK.out _ _ (HS.out _ hI2.grow) (fun hHeld => ?_);clear hK K;simp only [ly_];exact IH true false true false true _ _ _ _ _ _ rfl hI2
   ·obtain rfl : fu = 3 := hfu;refine rr_ [10,18] ?_;refine AllReadyH.cons rfl (fun K hK => ?_) ?_
    ·obtain ⟨g,rfl,hA⟩ := hI.made;refine step_append_src (by rfl) (.tmp 15) (.tmp 17) 23 23 (by rfl) W0.heap.size 5 i0 _ 1 1 under_u8s Hi0.out Hz0.out Hz1.out Hz2.out (by rfl) (.slice (some ⟨g,0,none⟩) 0 b.length) 0 (u8s []) (by rfl) hA (.slice aB b.length cB) b.length (u8s b) (by rfl) (HSRC.out _ (HW0.out.trans hI.grow)) (by omega) (by simp only [maxLen];omega) hI.grow.size ?_;intro A cC W2 hown hgr hob;simp only [Nat.zero_add] at hown hob ⊢;have hI2 := hI.mk2 rfl hown hgr hob;refine hK.out _ _ (HS.out _ hI2.grow) (fun hHeld => ?_);clear hK K;simp only [ly_];exact IH true true true false true _ _ _ _ _ _ rfl hI2
    refine AllReadyH.cons rfl (fun K hK => ?_) AllReadyH.nil;go_simp;have hI2 := hI.mk4 hcurF hfl;refine hK.out _ _ (HS.out _ hI2.grow) (fun hHeld => ?_);clear hK K;simp only [ly_];exact IH true false true true true _ _ _ _ _ _ rfl hI2
   ·obtain rfl : fu = 3 := hfu;refine rr_ [10,20] ?_;refine AllReadyH.cons rfl (fun K hK => ?_) ?_
    ·obtain ⟨g,rfl,hA⟩ := hI.made;refine step_append_src (by rfl) (.tmp 15) (.tmp 17) 23 23 (by rfl) W0.heap.size 5 i0 _ 1 1 under_u8s Hi0.out Hz0.out Hz1.out Hz2.out (by rfl) (.slice (some ⟨g,0,none⟩) 0 b.length) 0 (u8s []) (by rfl) hA (.slice aB b.length cB) b.length (u8s b) (by rfl) (HSRC.out _ (HW0.out.trans hI.grow)) (by omega) (by simp only [maxLen];omega) hI.grow.size ?_;intro A cC W2 hown hgr hob;simp only [Nat.zero_add] at hown hob ⊢;have hI2 := hI.mk2 rfl hown hgr hob;refine hK.out _ _ (HS.out _ hI2.grow) (fun hHeld => ?_);clear hK K;simp only [ly_];exact IH true true true true false _ _ _ _ _ _ rfl hI2
    refine AllReadyH.cons rfl (fun K hK => ?_) AllReadyH.nil;go_simp;have hI2 := hI.mk5;refine hK.out _ _ (HS.out _ hI2.grow) (fun hHeld => ?_);clear hK K;simp only [ly_];exact IH true false true true true _ _ _ _ _ _ rfl hI2
   ·obtain rfl : fu = 2 := hfu;refine rr_ [10] ?_;refine AllReadyH.cons rfl (fun K hK => ?_) AllReadyH.nil;obtain ⟨g,rfl,hA⟩ := hI.made;refine step_append_src (by rfl) (.tmp 15) (.tmp 17) 23 23 (by rfl) W0.heap.size 5 i0 _ 1 1 under_u8s Hi0.out Hz0.out Hz1.out Hz2.out (by rfl) (.slice (some ⟨g,0,none⟩) 0 b.length) 0 (u8s []) (by rfl) hA (.slice aB b.length cB) b.length (u8s b) (by rfl) (HSRC.out _ (HW0.out.trans hI.grow)) (by omega) (by simp only [maxLen];omega) hI.grow.size ?_;intro A cC W2 hown hgr hob;simp only [Nat.zero_add] at hown hob ⊢;have hI2 := hI.mk2 rfl hown hgr hob;refine hK.out _ _ (HS.out _ hI2.grow) (fun hHeld => ?_);clear hK K;simp only [ly_];exact IH true true true true true _ _ _ _ _ _ rfl hI2
   ·obtain rfl : fu = 4 := hfu;refine rr_ [14,18,20] ?_;refine AllReadyH.cons rfl (fun K hK => ?_) ?_
    ·go_simp;have hI2 := hI.mk3 hcurL hll;refine hK.out _ _ (HS.out _ hI2.grow) (fun hHeld => ?_);clear hK K;simp only [ly_];exact IH true true true false false _ _ _ _ _ _ rfl hI2
    refine AllReadyH.cons rfl (fun K hK => ?_) ?_
    ·go_simp;have hI2 := hI.mk4 hcurF hfl;refine hK.out _ _ (HS.out _ hI2.grow) (fun hHeld => ?_);clear hK K;simp only [ly_];exact IH true true false true false _ _ _ _ _ _ rfl hI2
    refine AllReadyH.cons rfl (fun K hK => ?_) AllReadyH.nil;go_simp;have hI2 := hI.mk5;refine hK.out _ _ (HS.out _ hI2.grow) (fun hHeld => ?_);clear hK K;simp only [ly_];exact IH true true false false true _ _ _ _ _ _ rfl hI2
   ·obtain rfl : fu = 3 := hfu;refine rr_ [14,18] ?_;refine AllReadyH.cons rfl (fun K hK => ?_) ?_
    ·go_simp;have hI2 := hI.mk3 hcurL hll;refine hK.out _ _ (HS.out _ hI2.grow) (fun hHeld => ?_);clear hK K;simp only [ly_];exact IH true true true false true _ _ _ _ _ _ rfl hI2
    refine AllReadyH.cons rfl (fun K hK => ?_) AllReadyH.nil;go_simp;have hI2 := hI.mk4 hcurF hfl;refine hK.out _ _ (HS.out _ hI2.grow) (fun hHeld => ?_);clear hK K;simp only [ly_];exact IH true true false true true _ _ _ _ _ _ rfl hI2
   ·obtain rfl : fu = 3 := hfu;refine rr_ [14,20] ?_;refine AllReadyH.cons rfl (fun K hK => ?_) ?_
    ·go_simp;have hI2 := hI.mk3 hcurL hll;refine hK.out _ _ (HS.out _ hI2.grow) (fun hHeld => ?_);clear hK K;simp only [ly_];exact IH true true true true false _ _ _ _ _ _ rfl hI2
    refine AllReadyH.cons rfl (fun K hK => ?_) AllReadyH.nil;go_simp;have hI2 := hI.mk5;refine hK.out _ _ (HS.out _ hI2.grow) (fun hHeld => ?_);clear hK K;simp only [ly_];exact IH true true false true true _ _ _ _ _ _ rfl hI2
   ·obtain rfl : fu = 2 := hfu;refine rr_ [14] ?_;refine AllReadyH.cons rfl (fun K hK => ?_) AllReadyH.nil;go_simp;have hI2 := hI.mk3 hcurL hll;refine hK.out _ _ (HS.out _ hI2.grow) (fun hHeld => ?_);clear hK K;simp only [ly_];exact IH true true true true true _ _ _ _ _ _ rfl hI2
   ·obtain rfl : fu = 3 := hfu;refine rr_ [18,20] ?_;refine AllReadyH.cons rfl (fun K hK => ?_) ?_
    ·go_simp;have hI2 := hI.mk4 hcurF hfl;refine hK.out _ _ (HS.out _ hI2.grow) (fun hHeld => ?_);clear hK K;simp only [ly_];exact IH true true true true false _ _ _ _ _ _ rfl hI2
    refine AllReadyH.cons rfl (fun K hK => ?_) AllReadyH.nil;go_simp;have hI2 := hI.mk5;refine hK.out _ _ (HS.out _ hI2.grow) (fun hHeld => ?_);clear hK K;simp only [ly_];exact IH true true true false true _ _ _ _ _ _ rfl hI2
   ·obtain rfl : fu = 2 := hfu;refine rr_ [18] ?_;refine AllReadyH.cons rfl (fun K hK => ?_) AllReadyH.nil;go_simp;have hI2 := hI.mk4 hcurF hfl;refine hK.out _ _ (HS.out _ hI2.grow) (fun hHeld => ?_);clear hK K;simp only [ly_];exact IH true true true true true _ _ _ _ _ _ rfl hI2
   ·obtain rfl : fu = 2 := hfu;clear IH;obtain ⟨A,cC,g3,g4,rfl,rfl,rfl⟩ := hI.forms;have hHeld := HS.out _ hI.grow;refine tk_ 19 ?_;refine rr_ [20] ?_;refine AllReadyH.cons rfl (fun K hK => ?_) AllReadyH.nil;go_simp;have hI5 := hI.mk5;refine hK.out _ _ (HS.out _ hI5.grow) (fun hHeld => ?_);clear hK K hI hHeld;simp only [ly_];generalize W.alloc (.cells #[.int .i64 0,.int .u64 0,.slice none 0 0,.slice none 0 0,.slice none 0 0] 27) = W5 at hI5 ⊢;generalize Value.pointer (some ⟨W.heap.size,0,none⟩) = x5 at hI5 ⊢;have hI := hI5;clear hI5;obtain ⟨g1,g3',g4',gO,e3,e4,rfl,hg,hC,hCo,h3r,h4r,hO,hOz,hd⟩ := hI.done;injection e3 with e3;injection e3 with e3;injection e3 with e3;injection e4 with e4;injection e4 with e4;injection e4 with e4;subst e3 e4;have hOc := hO.cell;have hOf := hO.frozen;clear hI;refine rr_ [21] ?_
    refine AllReadyH.cons rfl (fun K hK => ?_) AllReadyH.nil;go_simp;refine hK.out _ _ (HS.out _ (hg.set5v hOz ⟨k,n,A,b.length,cC,some ⟨g3,0,none⟩,0,l.length,some ⟨g4,0,none⟩,0,f.length⟩)) (fun hHeld => ?_);clear hK K;refine dn_ ?_;go_wp2_with fail;go_meet;rw [HWW.out];exact CpE.make hg hC hCo h3r h4r hO hOz hd
   obtain rfl : fu = 1 := hfu;clear IH;obtain ⟨A,cC,g3,g4,rfl,rfl,rfl⟩ := hI.forms;have hHeld := HS.out _ hI.grow;refine tk_ 19 ?_;obtain ⟨g1,g3',g4',gO,e3,e4,rfl,hg,hC,hCo,h3r,h4r,hO,hOz,hd⟩ := hI.done;injection e3 with e3;injection e3 with e3;injection e3 with e3;injection e4 with e4;injection e4 with e4;injection e4 with e4;subst e3 e4;have hOc := hO.cell;have hOf := hO.frozen;clear hI;refine rr_ [21] ?_;refine AllReadyH.cons rfl (fun K hK => ?_) AllReadyH.nil;go_simp;refine hK.out _ _ (HS.out _ (hg.set5v hOz ⟨k,n,A,b.length,cC,some ⟨g3,0,none⟩,0,l.length,some ⟨g4,0,none⟩,0,f.length⟩)) (fun hHeld => ?_);clear hK K;refine dn_ ?_;go_wp2_with fail;go_meet;rw [HWW.out];exact CpE.make hg hC hCo h3r h4r hO hOz hd
  case rest =>
   have hw0 := HC0.out.drew;have hr0 := ((Blk.new (w.alloc (.cells (Cv.cells ⟨k,n,aB,b.length,cB,aL,l.length,cL,aF,f.length,cF⟩) 27)) 27 #[.int .i64 0,.int .u64 0,.slice none 0 0,.slice none 0 0,.slice none 0 0]).drew);rw [show (w.alloc (.cells (Cv.cells ⟨k,n,aB,b.length,cB,aL,l.length,cL,aF,f.length,cF⟩) 27)).heap.size = w.heap.size + 1 by simp] at hr0;obtain ⟨gO,g1,g3,g4,A,cC,rfl,hR⟩ := CpR.start (w := w) (c := ⟨k,n,aB,b.length,cB,aL,l.length,cL,aF,f.length,cF⟩) ((((Grow.refl w).alloc _).alloc _).drew) (by simp) hw0 hr0 hcut;rename World => wx;have hvc := hR.src.cell;have HR0 := hide hR;obtain ⟨M,hM⟩ : ∃ M,M = wx.heap.size - 1 := ⟨_,rfl⟩;rw [← hM] at HR0;clear hM hw0 hr0 hcut HS HC0 hcell HSRC Hi0 Hz0 Hz1 Hz2 hcur hmk hcurL hmkL hcurF hmkF hR;obtain ⟨i0,hi0,hz0',hz1,hz2⟩ := info_parts info_val3;have Hi0 := hide hi0;have Hz0 := hide hz0'
   have Hz1 := hide hz1;have Hz2 := hide hz2;clear hi0 hz0' hz1 hz2;obtain ⟨j0,hj0,hy0',hy1,hy2⟩ := info_parts info_fld3;have Hj0 := hide hj0;have Hy0 := hide hy0';have Hy1 := hide hy1;have Hy2 := hide hy2;clear hj0 hy0' hy1 hy2;go_wp2_with fail;go_loopg [31] (l.length + 1) (fun gk i wr => ∃ (j : Nat) (es : List VE) (AL : Option Addr) (capL : Nat),j ≤ l.length ∧ gk + j = l.length + 1 ∧ i = .int .i64 j ∧ es.length = j ∧ es.map VE.v = l.take j ∧ CpR w ⟨k,n,aB,b.length,cB,aL,l.length,cL,aF,f.length,cF⟩ M b gO g1 A cC (.slice AL es.length capL) (.slice (some ⟨g4,0,none⟩) 0 f.length) es [] wr)
   case atStart => exact ⟨0,[],_,_,Nat.zero_le _,by omega,rfl,rfl,by simp,HR0.out⟩
   case round =>
    obtain ⟨j,es,AL,capL,hj,hgk,rfl,hej,hes,hR⟩ := hrel;obtain ⟨gk',rfl⟩ := gk_ gk (by omega);have HR := hide hR;have HES := hide hes;have HEJ := hide hej;have hel : es.length ≤ 1000000000 := by omega
    clear hR hes hvc HR0;by_cases hlt : j < l.length
    ·obtain ⟨bk,o,cx,ha,hbk,e0,e1,e2,e3,e4,hx⟩ := (HV.out.grow HR.out.grow).elemL j hlt;dsimp only at ha;subst ha;have HX := hide hx;clear hx hej;have hoc := (HR.out.out.alloc (.cells cx.cells 27)).cell;have hxc := (Blk.new wr 27 cx.cells).cell;have HC := hide (Hl.out j hlt ((wr.alloc (.cells cx.cells 27)).drew) cx (HX.out.grow (((Grow.refl wr).alloc _).drew)));have HGA := hide (((Grow.refl wr).alloc (.cells cx.cells 27)).drew);go_wp2_with fail
     go_region_law ((first | (refine step_append_src (by rfl) (.tmp 36) (.tmp 39) 24 24 (by rfl) (w.heap.size + 2) 27 i0 _ 5 88 under_vals Hi0.out Hz0.out Hz1.out Hz2.out (by rfl) (.slice AL es.length capL) es.length (cellsOf noHead es) (by rfl) ((World.ownsRow.alloc hown3 _)) _ 1 cy.cells.toList (by rfl) (Src.oneV cy _) (by omega) (by simp only [maxLen];omega) (by have := hz3;simp;omega) ?_;intro A4 c4 w4 hown4 hgr4 hat4;have hB4 := Blk.own (HO3.out.alloc _) hgr4 (fun k hk => (HR.out.ownL k hk).1);have hc4 := hB4.cell;have hf4 := hB4.frozen) | (go_simp;go_at_call 42;refine HC.out.mono ?_;rintro e w3 ⟨cy,rfl,hy3,hg3⟩;have hG3 := HGA.out.trans hg3;have HO3 := hide (HR.out.out.grow hG3);have hc3 := HO3.out.cell;have hc3a := (HO3.out.alloc (.cells cy.cells 27)).cell;have hown3 := (HR.out.list.grow hG3).own;have hz3 : w.heap.size + 2 ≤ w3.heap.size := (by have := hG3.size;have := HR.out.hM;have := HR.out.hO;omega))))
     all_goals
      have HR4 := hide (HR.out.addL hG3 (m0 := wr.heap.size + 1) (by omega) (by have := hg3.size;simpa using this) (by simpa using hy3) hown4 hgr4 hat4)
      clear hB4 hc3 hc3a hc4 hf4 hy3 hg3 hown3 hown4 hgr4 hat4 hG3 HO3 hoc hxc e0 e1 e2 e3 e4
      go_wp2_with fail
      go_roundg gk'
      case measure => omega
      case rel =>
       have hn : (es ++ [(⟨⟨#[]⟩,l[j],cy,wr.heap.size + 1,w3.heap.size⟩ : VE)]).length = es.length + 1 := by simp
       exact ⟨j + 1,es ++ [⟨⟨#[]⟩,l[j],cy,wr.heap.size + 1,w3.heap.size⟩],A4,c4,by omega,by omega,by go_num,by rw [hn,HEJ.out],take_snocV hlt HES.out rfl,by rw [hn];exact HR4.out⟩
    obtain rfl : j = l.length := by omega
    have hesl : es.map VE.v = l := by rw [HES.out,List.take_length]
    have HESL := hide hesl;have hvc := HR.out.src.cell;clear hesl hej;go_wp2_with fail;go_loopg [46] (f.length + 1) (fun gk2 i2 wr2 => ∃ (j : Nat) (fs : List VE) (AF : Option Addr) (capF : Nat),j ≤ f.length ∧ gk2 + j = f.length + 1 ∧ i2 = .int .i64 j ∧ fs.length = j ∧ fs.map (fun x => (x.s,x.v)) = f.take j ∧ (∀ x ∈ fs,x.s.size ≤ 140737488355328) ∧ CpR w ⟨k,n,aB,b.length,cB,aL,l.length,cL,aF,f.length,cF⟩ M b gO g1 A cC (.slice AL es.length capL) (.slice AF fs.length capF) es fs wr2)
    case atStart => exact ⟨0,[],_,_,Nat.zero_le _,by omega,rfl,rfl,by simp,fun x hx => by simp at hx,HR.out⟩
    case round =>
     obtain ⟨j,fs,AF,capF,hj2,hgk2,rfl,hfj,hfs,hss,hR2⟩ := hrel;obtain ⟨gk2',rfl⟩ : ∃ g,gk = g + 1 := ⟨gk - 1,by omega⟩;have HR2 := hide hR2;have HFS := hide hfs;have HSS := hide hss;have HFJ := hide hfj;have hfl2 : fs.length ≤ 1000000000 := by omega
     clear hR2 hfs hss hvc;by_cases hlt2 : j < f.length
     ·obtain ⟨bk,o,cx,ha,hbk,es0,esz,e0,e1,e2,e3,e4,hx⟩ := (HV.out.grow HR2.out.grow).elemF j hlt2;dsimp only at ha;subst ha;obtain ⟨s,hs⟩ : ∃ s,f[j].1 = s := ⟨_,rfl⟩;rw [hs] at es0 esz;have HSN := hide hs;have HX := hide hx;clear hx hfj hs;have hoc := (HR2.out.out.alloc (.cells (cx.fcells s) 82)).cell;have HXB := hide (Blk.new wr 82 (cx.fcells s));have hxc := HXB.out.cell;have HGA := hide (((Grow.refl wr).alloc (.cells (cx.fcells s) 82)).drew);have HC := hide (Hf.out j hlt2 ((wr.alloc (.cells (cx.fcells s) 82)).drew) cx (HX.out.grow HGA.out));go_upto_region 10 with fail;have HSX := hide (show ∀ w',Grow (wr.alloc (.cells (cx.fcells s) 82)) w' → ∀ i,w'.cell? ⟨wr.heap.size,i,none⟩ = (cx.fcells s)[i]? from fun w' h => (HXB.out.grow h).cell);refine wp_region_noPanic ?_
      refine wp_region_held_drew (S := fun w' => ∀ i,w'.cell? ⟨wr.heap.size,i,none⟩ = (cx.fcells s)[i]?) (by kernel_rfl) ((HSX.out _ (Grow.refl _).drew)) (fun hHeld => ?_);refine tk_ 0 ?_;refine tk_ 2 ?_;refine tk_ 3 ?_;refine tk_ 4 ?_;refine tk_ 5 ?_;refine rr_ [1,6] ?_;refine AllReadyH.cons rfl (fun K hK => ?_) ?_
      ·go_simp;refine hk_ hK (HSX.out _ (Grow.refl _).drew) (fun hHeld => ?_);clear hK K;refine rr_ [6] ?_;refine AllReadyH.cons rfl (fun K hK => ?_) AllReadyH.nil;go_simp;refine HC.out.mono ?_;rintro e w3 ⟨cy,rfl,hy3,hg3⟩;have hG3 := HGA.out.trans hg3;have HO3 := hide (HR2.out.out.grow hG3);have hc3 := HO3.out.cell;have hc3a := (HO3.out.alloc (.cells (cy.fcells s) 82)).cell;have hown3 := (HR2.out.flds.grow hG3).own;have hz3 : w.heap.size + 2 ≤ w3.heap.size := (by have := hG3.size;have := HR2.out.hM;have := HR2.out.hO;omega);have hgx : Grow (wr.alloc (.cells (cx.fcells s) 82)) w3 := (Grow.refl _).drew.trans hg3
       try go_simp
       refine hk_ hK (HSX.out _ hgx) (fun hHeld => ?_);clear hK K;refine tk_ 7 ?_;refine rr_ [8] ?_;refine AllReadyH.cons rfl (fun K hK => ?_) AllReadyH.nil;go_simp;refine hk_ hK (HSX.out _ (hgx.alloc _)) (fun hHeld => ?_);clear hK K;refine rr_ [9] ?_;refine AllReadyH.cons rfl (fun K hK => ?_) AllReadyH.nil;refine step_append_src (by rfl) (.tmp 51) (.tmp 58) 25 25 (by rfl) (w.heap.size + 2) 82 j0 _ 6 104 under_flds Hj0.out Hy0.out Hy1.out Hy2.out (by rfl) (.slice AF fs.length capF) fs.length (cellsOf nameHead fs) (by rfl) (World.ownsRow.alloc hown3 _) _ 1 (nameHead s ++ cy.cells.toList) (by rfl) (Src.oneF s cy _) (by omega) (by simp only [maxLen];omega) (by simp;omega) ?_;intro A4 c4 w4 hown4 hgr4 hat4;have hB4 := Blk.own (HO3.out.alloc _) hgr4 (fun k hk => (HR2.out.ownF k hk).1);have hc4 := hB4.cell;have hf4 := hB4.frozen
       have HX4 := hide (Blk.own ((HXB.out.grow hgx).alloc _) hgr4 (fun k hk => by have := (HR2.out.flds.own_lt hk).2;omega));refine hk_ hK (HX4.out.cell) (fun hHeld => ?_);clear hK K;refine tk_ 10 ?_;refine rr_ [11] ?_;refine AllReadyH.cons rfl (fun K hK => ?_) AllReadyH.nil;go_simp;refine hk_ hK (Blk.cell (HX4.out.far (by show wr.heap.size ≠ gO;have := HR2.out.hM;have := HR2.out.hO;omega) _)) (fun hHeld => ?_);clear hK K;have HR4 := hide (HR2.out.addF (s := s) hG3 (m0 := wr.heap.size + 1) (by omega) (by have := hg3.size;simpa using this) (by simpa using hy3) hown4 hgr4 hat4);refine dn_ ?_;clear hB4 hc3 hc3a hc4 hf4 hy3 hg3 hown3 hown4 hgr4 hat4 hG3 HO3 hoc hxc e0 e1 e2 e3 e4 es0 HX4 hgx hHeld;go_wp2_with fail;go_roundg gk2'
       case measure => omega
       case rel =>
        have hn : (fs ++ [(⟨s,f[j].2,cy,wr.heap.size + 1,w3.heap.size⟩ : VE)]).length = fs.length + 1 := by simp
        exact ⟨j + 1,fs ++ [⟨s,f[j].2,cy,wr.heap.size + 1,w3.heap.size⟩],A4,c4,by omega,by omega,by go_num,by rw [hn,HFJ.out],take_snocF hlt2 HFS.out (by rw [← HSN.out]),fun x hx => by
         rcases List.mem_append.1 hx with hx | hx
         ·exact HSS.out x hx
         rw [List.mem_singleton] at hx;subst hx;exact esz,by rw [hn];exact HR4.out⟩
      refine AllReadyH.cons rfl (fun K hK => ?_) AllReadyH.nil;go_simp;refine HC.out.mono ?_;rintro e w3 ⟨cy,rfl,hy3,hg3⟩;have hG3 := HGA.out.trans hg3;have HO3 := hide (HR2.out.out.grow hG3);have hc3 := HO3.out.cell;have hc3a := (HO3.out.alloc (.cells (cy.fcells s) 82)).cell;have hown3 := (HR2.out.flds.grow hG3).own;have hz3 : w.heap.size + 2 ≤ w3.heap.size := (by have := hG3.size;have := HR2.out.hM;have := HR2.out.hO;omega);have hgx : Grow (wr.alloc (.cells (cx.fcells s) 82)) w3 := (Grow.refl _).drew.trans hg3
      try go_simp
      refine hk_ hK (HSX.out _ hgx) (fun hHeld => ?_);clear hK K;refine tk_ 7 ?_;refine rr_ [1,8] ?_;refine AllReadyH.cons rfl (fun K hK => ?_) ?_
      ·go_simp;refine hk_ hK (HSX.out _ hgx) (fun hHeld => ?_);clear hK K;refine rr_ [8] ?_;refine AllReadyH.cons rfl (fun K hK => ?_) AllReadyH.nil;go_simp;refine hk_ hK (HSX.out _ (hgx.alloc _)) (fun hHeld => ?_);clear hK K;refine rr_ [9] ?_;refine AllReadyH.cons rfl (fun K hK => ?_) AllReadyH.nil;refine step_append_src (by rfl) (.tmp 51) (.tmp 58) 25 25 (by rfl) (w.heap.size + 2) 82 j0 _ 6 104 under_flds Hj0.out Hy0.out Hy1.out Hy2.out (by rfl) (.slice AF fs.length capF) fs.length (cellsOf nameHead fs) (by rfl) (World.ownsRow.alloc hown3 _) _ 1 (nameHead s ++ cy.cells.toList) (by rfl) (Src.oneF s cy _) (by omega) (by simp only [maxLen];omega) (by simp;omega) ?_;intro A4 c4 w4 hown4 hgr4 hat4;have hB4 := Blk.own (HO3.out.alloc _) hgr4 (fun k hk => (HR2.out.ownF k hk).1);have hc4 := hB4.cell;have hf4 := hB4.frozen
       have HX4 := hide (Blk.own ((HXB.out.grow hgx).alloc _) hgr4 (fun k hk => by have := (HR2.out.flds.own_lt hk).2;omega));refine hk_ hK (HX4.out.cell) (fun hHeld => ?_);clear hK K;refine tk_ 10 ?_;refine rr_ [11] ?_;refine AllReadyH.cons rfl (fun K hK => ?_) AllReadyH.nil;go_simp;refine hk_ hK (Blk.cell (HX4.out.far (by show wr.heap.size ≠ gO;have := HR2.out.hM;have := HR2.out.hO;omega) _)) (fun hHeld => ?_);clear hK K;have HR4 := hide (HR2.out.addF (s := s) hG3 (m0 := wr.heap.size + 1) (by omega) (by have := hg3.size;simpa using this) (by simpa using hy3) hown4 hgr4 hat4);refine dn_ ?_;clear hB4 hc3 hc3a hc4 hf4 hy3 hg3 hown3 hown4 hgr4 hat4 hG3 HO3 hoc hxc e0 e1 e2 e3 e4 es0 HX4 hgx hHeld;go_wp2_with fail;go_roundg gk2'
       case measure => omega
       case rel =>
        have hn : (fs ++ [(⟨s,f[j].2,cy,wr.heap.size + 1,w3.heap.size⟩ : VE)]).length = fs.length + 1 := by simp
        exact ⟨j + 1,fs ++ [⟨s,f[j].2,cy,wr.heap.size + 1,w3.heap.size⟩],A4,c4,by omega,by omega,by go_num,by rw [hn,HFJ.out],take_snocF hlt2 HFS.out (by rw [← HSN.out]),fun x hx => by
         rcases List.mem_append.1 hx with hx | hx
         ·exact HSS.out x hx
         rw [List.mem_singleton] at hx;subst hx;exact esz,by rw [hn];exact HR4.out⟩
      refine AllReadyH.cons rfl (fun K hK => ?_) AllReadyH.nil;go_simp;refine hk_ hK (HSX.out _ (hgx.alloc _)) (fun hHeld => ?_);clear hK K;refine rr_ [1] ?_;refine AllReadyH.cons rfl (fun K hK => ?_) AllReadyH.nil;go_simp;refine hk_ hK (HSX.out _ (hgx.alloc _)) (fun hHeld => ?_);clear hK K;refine rr_ [9] ?_;refine AllReadyH.cons rfl (fun K hK => ?_) AllReadyH.nil;refine step_append_src (by rfl) (.tmp 51) (.tmp 58) 25 25 (by rfl) (w.heap.size + 2) 82 j0 _ 6 104 under_flds Hj0.out Hy0.out Hy1.out Hy2.out (by rfl) (.slice AF fs.length capF) fs.length (cellsOf nameHead fs) (by rfl) (World.ownsRow.alloc hown3 _) _ 1 (nameHead s ++ cy.cells.toList) (by rfl) (Src.oneF s cy _) (by omega) (by simp only [maxLen];omega) (by simp;omega) ?_;intro A4 c4 w4 hown4 hgr4 hat4;have hB4 := Blk.own (HO3.out.alloc _) hgr4 (fun k hk => (HR2.out.ownF k hk).1);have hc4 := hB4.cell;have hf4 := hB4.frozen
      have HX4 := hide (Blk.own ((HXB.out.grow hgx).alloc _) hgr4 (fun k hk => by have := (HR2.out.flds.own_lt hk).2;omega));refine hk_ hK (HX4.out.cell) (fun hHeld => ?_);clear hK K;refine tk_ 10 ?_;refine rr_ [11] ?_;refine AllReadyH.cons rfl (fun K hK => ?_) AllReadyH.nil;go_simp;refine hk_ hK (Blk.cell (HX4.out.far (by show wr.heap.size ≠ gO;have := HR2.out.hM;have := HR2.out.hO;omega) _)) (fun hHeld => ?_);clear hK K;have HR4 := hide (HR2.out.addF (s := s) hG3 (m0 := wr.heap.size + 1) (by omega) (by have := hg3.size;simpa using this) (by simpa using hy3) hown4 hgr4 hat4);refine dn_ ?_;clear hB4 hc3 hc3a hc4 hf4 hy3 hg3 hown3 hown4 hgr4 hat4 hG3 HO3 hoc hxc e0 e1 e2 e3 e4 es0 HX4 hgx hHeld;go_wp2_with fail;go_roundg gk2'
      case measure => omega
      case rel =>
       have hn : (fs ++ [(⟨s,f[j].2,cy,wr.heap.size + 1,w3.heap.size⟩ : VE)]).length = fs.length + 1 := by simp
       exact ⟨j + 1,fs ++ [⟨s,f[j].2,cy,wr.heap.size + 1,w3.heap.size⟩],A4,c4,by omega,by omega,by go_num,by rw [hn,HFJ.out],take_snocF hlt2 HFS.out (by rw [← HSN.out]),fun x hx => by
        rcases List.mem_append.1 hx with hx | hx
        ·exact HSS.out x hx
        rw [List.mem_singleton] at hx;subst hx;exact esz,by rw [hn];exact HR4.out⟩
     obtain rfl : j = f.length := by omega
     have hfsl : fs.map (fun x => (x.s,x.v)) = f := by rw [HFS.out,List.take_length]
     have hoc := HR2.out.out.cell;have hrc := HR2.out.res.cell;have hrf := HR2.out.res.frozen;have HE := hide (HR2.out.done HSS.out h1 h2 h3 (by omega) (by omega) (by omega) rfl);rw [HESL.out,hfsl] at HE;have HRS := hide HR2.out.res;clear hfsl hfj;go_wp2_with fail;refine bodyPost_ret (cellres (F := Tryz.f42) (vb := w.heap.size + 1) rfl rfl ⟨k,n,A,b.length,cC,AL,es.length,capL,AF,fs.length,capF⟩ (set5_from (c := ⟨k,n,A,b.length,cC,AL,es.length,capL,AF,fs.length,capF⟩) HRS.out)) rfl ?_;exact HE.out
end
end Go.Proofs.YtndjopkdbdcmdaaGreatDoor
