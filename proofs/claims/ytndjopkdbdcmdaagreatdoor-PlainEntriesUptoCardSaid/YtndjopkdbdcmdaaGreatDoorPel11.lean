/- Part 11 of the proof of pentries_card. -/
import Derived.Test.YtndjopkdbdcmdaaGreatDoorPel8
import Derived.Deep.DeepCutAuto
set_option linter.unusedVariables false
set_option linter.unusedSimpArgs false
set_option maxRecDepth 100000
set_option maxHeartbeats 12800000
open Go.Proofs.Tryz
namespace Go.Proofs.YtndjopkdbdcmdaaGreatDoor
section
open Go.RowKit Go.Shelf Go.WideShapes
theorem NJ(S:Nat)(hS:S≤1000000000):∃cur:Array Value,cur.size=S*5∧∀w:World,(Instr.makeSlice 24 (.int .i64 0) (.int .i64 (S:Int))).run prog w=.ok (.slice (some ⟨w.heap.size,0,none⟩) 0 S) (w.alloc (.cells cur 27)):=by
 obtain⟨i0,hi0,hz0,hz1,hz2⟩:=info_parts ry;refine⟨madeCells (Value.agg #[.int .i64 0,.int .u64 0,.slice none 0 0,.slice none 0 0,.slice none 0 0]).cells (S*i0.size),?_,fun w=>?_⟩
 ·rw[hz1];simp[madeCells]
 have h:=run_make (P:=prog) (w:=w) 24 27 i0 _ lF hi0 hz0 .i64 .i64 0 (S:Int) (by omega) (by omega) (by rw[hz2];omega) (by omega);exact h
theorem abT(S:Nat)(hS:S≤1000000000):∃cur:Array Value,cur.size=S*6∧∀w:World,(Instr.makeSlice 25 (.int .i64 0) (.int .i64 (S:Int))).run prog w=.ok (.slice (some ⟨w.heap.size,0,none⟩) 0 S) (w.alloc (.cells cur 82)):=by
 obtain⟨i0,hi0,hz0,hz1,hz2⟩:=info_parts Ur;refine⟨madeCells (Value.agg #[.string ⟨#[]⟩,.int .i64 0,.int .u64 0,.slice none 0 0,.slice none 0 0,.slice none 0 0]).cells (S*i0.size),?_,fun w=>?_⟩
 ·rw[hz1];simp[madeCells]
 have h:=run_make (P:=prog) (w:=w) 25 82 i0 _ Am hi0 hz0 .i64 .i64 0 (S:Int) (by omega) (by omega) (by rw[hz2];omega) (by omega);exact h
theorem abU{W:World}{base n c:Nat}{A:Option Addr}{xs:List UInt8}(h:Row W base (.slice A n c) n xs):n≤c:=by
 rcases h.2 with ⟨hv,h0⟩ | ⟨g,cap',cur,hv,_,_,hc,_⟩
 ·omega
 injection hv with _ _ e;omega
theorem abV{W:World}{base n c:Nat}{A:Option Addr}{xs:List UInt8}(h:Row W base (.slice A n c) n xs):Reads (fun p u=>CF W p u∧base≤p.block∧p.block<W.heap.size) 1 A n (bw xs):=by
 have hl:xs.length=n:=by simpa [bw] using h.1
 refine⟨by rw[EZ,qT,hl],fun hn=>?_⟩;obtain⟨g,cap,hv,hb,hlt⟩:=World.ownsRow.form h (by omega);have hA:A=some ⟨g,0,none⟩:=by injection hv
 subst hA;refine⟨g,0,rfl,fun j u hu=>⟨⟨?_,EH h _⟩,hb,hlt⟩⟩;have:=ED h (g:=g) rfl j u hu;rwa [add_lit] at this
def gy(W0:World)(b:List UInt8)(nL nF:Nat)(b1 b2 b3 b4 b5:Bool)(x1 x2 x3 x4 x5:Value)(W:World):Prop:=
 ∃g1 g3 g4 g5:Nat,Grow W0 W∧(b2=true→b1=true) ∧
 (b1=true→b2=false→x1=.slice (some ⟨g1,0,none⟩) 0 b.length∧Row W W0.heap.size (.slice (some ⟨g1,0,none⟩) 0 b.length) 0 []) ∧
 (b2=true→∃A c,x2=.slice A b.length c∧Row W W0.heap.size (.slice A b.length c) b.length b∧Value.ownBlock (.slice A b.length c)=some g1) ∧
 (b3=true→x3=.slice (some ⟨g3,0,none⟩) 0 nL∧W.ownsRow W0.heap.size 27 5 (.slice (some ⟨g3,0,none⟩) 0 nL) 0 []) ∧
 (b4=true→x4=.slice (some ⟨g4,0,none⟩) 0 nF∧W.ownsRow W0.heap.size 82 6 (.slice (some ⟨g4,0,none⟩) 0 nF) 0 []) ∧
 (b5=true→x5=.pointer (some ⟨g5,0,none⟩)∧Blk W g5 27 #[.int .i64 0,.int .u64 0,.slice none 0 0,.slice none 0 0,.slice none 0 0]∧W0.heap.size≤g5) ∧
 ((b1=true→g1<W.heap.size)∧(b3=true→g3<W.heap.size)∧(b4=true→g4<W.heap.size)∧(b5=true→g5<W.heap.size)) ∧
 ((b1=true→b3=true→g1≠g3)∧(b1=true→b4=true→g1≠g4)∧(b1=true→b5=true→g1≠g5)∧(b3=true→b4=true→g3≠g4)∧(b3=true→b5=true→g3≠g5)∧(b4=true→b5=true→g4≠g5))
theorem gy.grow{W0 W:World}{b:List UInt8}{nL nF:Nat}{b1 b2 b3 b4 b5:Bool}{x1 x2 x3 x4 x5:Value}(h:gy W0 b nL nF b1 b2 b3 b4 b5 x1 x2 x3 x4 x5 W):Grow W0 W:=by
 obtain⟨g1,g3,g4,g5,hg,_⟩:=h;exact hg
theorem gy.le{W0 W:World}{b:List UInt8}{nL nF:Nat}{b1 b2 b3 b4 b5:Bool}{x1 x2 x3 x4 x5:Value}(h:gy W0 b nL nF b1 b2 b3 b4 b5 x1 x2 x3 x4 x5 W):b2=true→b1=true:=by
 obtain⟨g1,g3,g4,g5,_,h,_⟩:=h;exact h
theorem gy.made{W0 W:World}{b:List UInt8}{nL nF:Nat}{b3 b4 b5:Bool}{x1 x2 x3 x4 x5:Value}(h:gy W0 b nL nF true false b3 b4 b5 x1 x2 x3 x4 x5 W):∃g,x1=.slice (some ⟨g,0,none⟩) 0 b.length∧Row W W0.heap.size (.slice (some ⟨g,0,none⟩) 0 b.length) 0 []:=by
 obtain⟨g1,g3,g4,g5,_,_,h,_⟩:=h;exact⟨g1,h rfl rfl⟩
theorem gy.alloc{W0 W:World}{b:List UInt8}{nL nF:Nat}{b1 b2 b3 b4 b5:Bool}{x1 x2 x3 x4 x5:Value}{g1 g3 g4 g5:Nat}(o:Obj)
 (h1:b1=true→b2=false→x1=.slice (some ⟨g1,0,none⟩) 0 b.length∧Row W W0.heap.size (.slice (some ⟨g1,0,none⟩) 0 b.length) 0 [])
 (h2:b2=true→∃A c,x2=.slice A b.length c∧Row W W0.heap.size (.slice A b.length c) b.length b∧Value.ownBlock (.slice A b.length c)=some g1)
 (h3:b3=true→x3=.slice (some ⟨g3,0,none⟩) 0 nL∧W.ownsRow W0.heap.size 27 5 (.slice (some ⟨g3,0,none⟩) 0 nL) 0 [])
 (h4:b4=true→x4=.slice (some ⟨g4,0,none⟩) 0 nF∧W.ownsRow W0.heap.size 82 6 (.slice (some ⟨g4,0,none⟩) 0 nF) 0 [])
 (h5:b5=true→x5=.pointer (some ⟨g5,0,none⟩)∧Blk W g5 27 #[.int .i64 0,.int .u64 0,.slice none 0 0,.slice none 0 0,.slice none 0 0]∧W0.heap.size≤g5) :
 (b1=true→b2=false→x1=.slice (some ⟨g1,0,none⟩) 0 b.length∧Row (W.alloc o) W0.heap.size (.slice (some ⟨g1,0,none⟩) 0 b.length) 0 []) ∧
 (b2=true→∃A c,x2=.slice A b.length c∧Row (W.alloc o) W0.heap.size (.slice A b.length c) b.length b∧Value.ownBlock (.slice A b.length c)=some g1) ∧
 (b3=true→x3=.slice (some ⟨g3,0,none⟩) 0 nL∧(W.alloc o).ownsRow W0.heap.size 27 5 (.slice (some ⟨g3,0,none⟩) 0 nL) 0 []) ∧
 (b4=true→x4=.slice (some ⟨g4,0,none⟩) 0 nF∧(W.alloc o).ownsRow W0.heap.size 82 6 (.slice (some ⟨g4,0,none⟩) 0 nF) 0 []) ∧
 (b5=true→x5=.pointer (some ⟨g5,0,none⟩)∧Blk (W.alloc o) g5 27 #[.int .i64 0,.int .u64 0,.slice none 0 0,.slice none 0 0,.slice none 0 0]∧W0.heap.size≤g5):=
 ⟨fun e e'=>⟨(h1 e e').1,(h1 e e').2.alloc o⟩,fun e=>(by obtain⟨A,c,r1,r2,r3⟩:=h2 e;exact⟨A,c,r1,r2.alloc o,r3⟩),fun e=>⟨(h3 e).1,(h3 e).2.alloc o⟩,fun e=>⟨(h4 e).1,(h4 e).2.alloc o⟩,fun e=>⟨(h5 e).1,(h5 e).2.1.alloc o,(h5 e).2.2⟩⟩
theorem gy.yC{W0 W:World}{b:List UInt8}{nL nF:Nat}{b3 b4 b5:Bool}{x1 x2 x3 x4 x5:Value}{cur:Array Value}(h:gy W0 b nL nF false false b3 b4 b5 x1 x2 x3 x4 x5 W)(jc:cur.size=b.length)(hb:b.length≤1000000000) :
 gy W0 b nL nF true false b3 b4 b5 (.slice (some ⟨W.heap.size,0,none⟩) 0 b.length) x2 x3 x4 x5 (W.alloc (.cells cur 5)):=by
 obtain⟨g1,g3,g4,g5,hg,h12,h1,h2,h3,h4,h5,⟨t1,t3,t4,t5⟩,⟨d13,d14,d15,d34,d35,d45⟩⟩:=h;have hA:Row (W.alloc (.cells cur 5)) W0.heap.size (.slice (some ⟨W.heap.size,0,none⟩) 0 b.length) 0 []:=qU W cur b.length hg.size (by simp only[maxLen];omega) (by omega);have hs:(W.alloc (.cells cur 5)).heap.size=W.heap.size+1:=by simp
 obtain⟨k1,k2,k3,k4,k5⟩:=gy.alloc (.cells cur 5) h1 h2 h3 h4 h5;refine⟨W.heap.size,g3,g4,g5,hg.alloc _,fun e=>(by cases e),fun _ _=>⟨rfl,hA⟩,fun e=>(by cases e),k3,k4,k5,⟨fun _=>?_,fun e=>?_,fun e=>?_,fun e=>?_⟩,⟨fun _ e=>?_,fun _ e=>?_,fun _ e=>?_,d34,d35,d45⟩⟩
 ·omega
 ·have:=t3 e;omega
 ·have:=t4 e;omega
 ·have:=t5 e;omega
 ·have:=t3 e;omega
 ·have:=t4 e;omega
 have:=t5 e;omega
theorem gy.yD{W0 W W':World}{b:List UInt8}{nL nF:Nat}{b3 b4 b5:Bool}{x1 x2 x3 x4 x5:Value}{g:Nat}{A:Option Addr}{c:Nat}(h:gy W0 b nL nF true false b3 b4 b5 x1 x2 x3 x4 x5 W)(hx:x1=.slice (some ⟨g,0,none⟩) 0 b.length)
 (hown:Row W' W0.heap.size (.slice A b.length c) b.length b) (hgr:W.grownBy W' (some g)) (eY:Value.ownBlock (.slice A b.length c)=some g∨Value.ownBlock (.slice A b.length c)=some W.heap.size) :
 gy W0 b nL nF true true b3 b4 b5 x1 (.slice A b.length c) x3 x4 x5 W':=by
 obtain⟨g1,g3,g4,g5,hg,h12,h1,h2,h3,h4,h5,⟨t1,t3,t4,t5⟩,⟨d13,d14,d15,d34,d35,d45⟩⟩:=h;obtain⟨r1,r2⟩:=h1 rfl rfl;rw[hx] at r1;injection r1 with r1;injection r1 with r1;injection r1 with r1;subst r1;have hlt:=bO r2 g rfl;have hz:=hgr.size;have CQ:∀{te:TypeId} {z m:Nat} {q:Nat} {n:Nat} {xs:List Value},g≠q→W.ownsRow W0.heap.size te z (.slice (some ⟨q,0,none⟩) m n) m xs→W'.ownsRow W0.heap.size te z (.slice (some ⟨q,0,none⟩) m n) m xs:=fun hne hr =>
  nV hr hgr (.inr (fun e=>hne (pd e).symm))
 obtain⟨g',hg',hl'⟩:∃g',Value.ownBlock (.slice A b.length c)=some g'∧(g'=g∨g'=W.heap.size):=by
  rcases eY with z | z
  ·exact⟨_,z,.inl rfl⟩
  exact⟨_,z,.inr rfl⟩
 have abW:=(bO hown g' hg').2;refine⟨g',g3,g4,g5,hg.grown hgr (fun k e=>by injection e with e;omega),fun _=>rfl,fun _ e=>(by cases e),fun _=>⟨A,c,rfl,hown,hg'⟩,fun e=>⟨(h3 e).1,CQ (d13 rfl e) (h3 e).2⟩,fun e=>⟨(h4 e).1,CQ (d14 rfl e) (h4 e).2⟩,fun e=>⟨(h5 e).1,pE (h5 e).2.1 hgr (fun k e2=>by injection e2 with e2;have:=d15 rfl e;omega),(h5 e).2.2⟩,⟨fun _=>abW,fun e=>?_,fun e=>?_,fun e=>?_⟩,⟨fun _ e=>?_,fun _ e=>?_,fun _ e=>?_,d34,d35,d45⟩⟩
 ·have:=t3 e;omega
 ·have:=t4 e;omega
 ·have:=t5 e;omega
 ·have:=t3 e;have:=d13 rfl e;omega
 ·have:=t4 e;have:=d14 rfl e;omega
 have:=t5 e;have:=d15 rfl e;omega
theorem gy.rz{W0 W:World}{b:List UInt8}{nL nF:Nat}{b1 b2 b4 b5:Bool}{x1 x2 x3 x4 x5:Value}{cur:Array Value}(h:gy W0 b nL nF b1 b2 false b4 b5 x1 x2 x3 x4 x5 W)(jc:cur.size=nL*5)(hn:nL≤1000000000) :
 gy W0 b nL nF b1 b2 true b4 b5 x1 x2 (.slice (some ⟨W.heap.size,0,none⟩) 0 nL) x4 x5 (W.alloc (.cells cur 27)):=by
 obtain⟨g1,g3,g4,g5,hg,h12,h1,h2,h3,h4,h5,⟨t1,t3,t4,t5⟩,⟨d13,d14,d15,d34,d35,d45⟩⟩:=h;have hA:(W.alloc (.cells cur 27)).ownsRow W0.heap.size 27 5 (.slice (some ⟨W.heap.size,0,none⟩) 0 nL) 0 []:=qU W cur nL hg.size (by simp only[maxLen];omega) (by omega);have hs:(W.alloc (.cells cur 27)).heap.size=W.heap.size+1:=by simp
 obtain⟨k1,k2,k3,k4,k5⟩:=gy.alloc (.cells cur 27) h1 h2 h3 h4 h5;refine⟨g1,W.heap.size,g4,g5,hg.alloc _,h12,k1,k2,fun _=>⟨rfl,hA⟩,k4,k5,⟨fun e=>?_,fun _=>?_,fun e=>?_,fun e=>?_⟩,⟨fun e _=>?_,d14,d15,fun _ e=>?_,fun _ e=>?_,d45⟩⟩
 ·have:=t1 e;omega
 ·omega
 ·have:=t4 e;omega
 ·have:=t5 e;omega
 ·have:=t1 e;omega
 ·have:=t4 e;omega
 have:=t5 e;omega
theorem gy.rA{W0 W:World}{b:List UInt8}{nL nF:Nat}{b1 b2 b3 b5:Bool}{x1 x2 x3 x4 x5:Value}{cur:Array Value}(h:gy W0 b nL nF b1 b2 b3 false b5 x1 x2 x3 x4 x5 W)(jc:cur.size=nF*6)(hn:nF≤1000000000) :
 gy W0 b nL nF b1 b2 b3 true b5 x1 x2 x3 (.slice (some ⟨W.heap.size,0,none⟩) 0 nF) x5 (W.alloc (.cells cur 82)):=by
 obtain⟨g1,g3,g4,g5,hg,h12,h1,h2,h3,h4,h5,⟨t1,t3,t4,t5⟩,⟨d13,d14,d15,d34,d35,d45⟩⟩:=h;have hA:(W.alloc (.cells cur 82)).ownsRow W0.heap.size 82 6 (.slice (some ⟨W.heap.size,0,none⟩) 0 nF) 0 []:=qU W cur nF hg.size (by simp only[maxLen];omega) (by omega);have hs:(W.alloc (.cells cur 82)).heap.size=W.heap.size+1:=by simp
 obtain⟨k1,k2,k3,k4,k5⟩:=gy.alloc (.cells cur 82) h1 h2 h3 h4 h5;refine⟨g1,g3,W.heap.size,g5,hg.alloc _,h12,k1,k2,k3,fun _=>⟨rfl,hA⟩,k5,⟨fun e=>?_,fun e=>?_,fun _=>?_,fun e=>?_⟩,⟨d13,fun e _=>?_,d15,fun e _=>?_,d35,fun _ e=>?_⟩⟩
 ·have:=t1 e;omega
 ·have:=t3 e;omega
 ·omega
 ·have:=t5 e;omega
 ·have:=t1 e;omega
 ·have:=t3 e;omega
 have:=t5 e;omega
theorem gy.rB{W0 W:World}{b:List UInt8}{nL nF:Nat}{b1 b2 b3 b4:Bool}{x1 x2 x3 x4 x5:Value}(h:gy W0 b nL nF b1 b2 b3 b4 false x1 x2 x3 x4 x5 W) :
 gy W0 b nL nF b1 b2 b3 b4 true x1 x2 x3 x4 (.pointer (some ⟨W.heap.size,0,none⟩)) (W.alloc (.cells #[.int .i64 0,.int .u64 0,.slice none 0 0,.slice none 0 0,.slice none 0 0] 27)):=by
 obtain⟨g1,g3,g4,g5,hg,h12,h1,h2,h3,h4,h5,⟨t1,t3,t4,t5⟩,⟨d13,d14,d15,d34,d35,d45⟩⟩:=h;have hs:(W.alloc (.cells #[.int .i64 0,.int .u64 0,.slice none 0 0,.slice none 0 0,.slice none 0 0] 27)).heap.size=W.heap.size+1:=by simp
 obtain⟨k1,k2,k3,k4,k5⟩:=gy.alloc (.cells #[.int .i64 0,.int .u64 0,.slice none 0 0,.slice none 0 0,.slice none 0 0] 27) h1 h2 h3 h4 h5;refine⟨g1,g3,g4,W.heap.size,hg.alloc _,h12,k1,k2,k3,k4,fun _=>⟨rfl,aH _ _ _,hg.size⟩,⟨fun e=>?_,fun e=>?_,fun e=>?_,fun _=>?_⟩,⟨d13,d14,fun e _=>?_,d34,fun e _=>?_,fun e _=>?_⟩⟩
 ·have:=t1 e;omega
 ·have:=t3 e;omega
 ·have:=t4 e;omega
 ·omega
 ·have:=t1 e;omega
 ·have:=t3 e;omega
 have:=t4 e;omega
theorem gy.done{W0 W:World}{b:List UInt8}{nL nF:Nat}{b1:Bool}{A:Option Addr}{c:Nat}{x1 x3 x4 x5:Value}(h:gy W0 b nL nF b1 true true true true x1 (.slice A b.length c) x3 x4 x5 W) :
 ∃g1 g3 g4 g5:Nat,x3=.slice (some ⟨g3,0,none⟩) 0 nL∧x4=.slice (some ⟨g4,0,none⟩) 0 nF∧x5=.pointer (some ⟨g5,0,none⟩)∧Grow W0 W∧Row W W0.heap.size (.slice A b.length c) b.length b∧Value.ownBlock (.slice A b.length c)=some g1 ∧
  W.ownsRow W0.heap.size 27 5 (.slice (some ⟨g3,0,none⟩) 0 nL) 0 []∧W.ownsRow W0.heap.size 82 6 (.slice (some ⟨g4,0,none⟩) 0 nF) 0 [] ∧
  Blk W g5 27 #[.int .i64 0,.int .u64 0,.slice none 0 0,.slice none 0 0,.slice none 0 0]∧W0.heap.size≤g5∧(g1≠g3∧g1≠g4∧g1≠g5∧g3≠g4∧g3≠g5∧g4≠g5):=by
 obtain⟨g1,g3,g4,g5,hg,h12,h1,h2,h3,h4,h5,_,⟨d13,d14,d15,d34,d35,d45⟩⟩:=h;have hb1:=h12 rfl;obtain⟨A',c',e,r2,r3⟩:=h2 rfl;injection e with e1 _ e2;subst e1 e2;exact⟨g1,g3,g4,g5,(h3 rfl).1,(h4 rfl).1,(h5 rfl).1,hg,r2,r3,(h3 rfl).2,(h4 rfl).2,(h5 rfl).2.1,(h5 rfl).2.2,d13 hb1 rfl,d14 hb1 rfl,d15 hb1 rfl,d34 rfl rfl,d35 rfl rfl,d45 rfl rfl⟩
def CS(W0:World)(k n:Int)(b:List UInt8)(nL nF:Nat)(p:Value)(wx:World):Prop:=
 ∃(gO g1 g3 g4:Nat) (A:Option Addr) (cB:Nat),p=.pointer (some ⟨gO,0,none⟩)∧Blk wx gO 27 #[.int .i64 k,.int .u64 n,.slice A b.length cB,.slice (some ⟨g3,0,none⟩) 0 nL,.slice (some ⟨g4,0,none⟩) 0 nF] ∧
  Row wx W0.heap.size (.slice A b.length cB) b.length b∧Value.ownBlock (.slice A b.length cB)=some g1 ∧
  wx.ownsRow W0.heap.size 27 5 (.slice (some ⟨g3,0,none⟩) 0 nL) 0 []∧wx.ownsRow W0.heap.size 82 6 (.slice (some ⟨g4,0,none⟩) 0 nF) 0 []∧Grow W0 wx∧W0.heap.size≤gO ∧
  (g1≠g3∧g1≠g4∧g1≠gO∧g3≠g4∧g3≠gO∧g4≠gO)
theorem CS.make{W0 W:World}{k n:Int}{b:List UInt8}{nL nF g1 g3 g4 gO cC:Nat}{A:Option Addr}(hg:Grow W0 W)(hC:Row W W0.heap.size (.slice A b.length cC) b.length b)(wT:Value.ownBlock (.slice A b.length cC)=some g1)
 (h3:W.ownsRow W0.heap.size 27 5 (.slice (some ⟨g3,0,none⟩) 0 nL) 0 []) (h4:W.ownsRow W0.heap.size 82 6 (.slice (some ⟨g4,0,none⟩) 0 nF) 0 [])
 (hO:Blk W gO 27 #[.int .i64 0,.int .u64 0,.slice none 0 0,.slice none 0 0,.slice none 0 0]) (sW:W0.heap.size≤gO) (hd:g1≠g3∧g1≠g4∧g1≠gO∧g3≠g4∧g3≠gO∧g4≠gO) :
 CS W0 k n b nL nF (.pointer (some ⟨gO,0,none⟩)) (qj W gO ⟨k,n,A,b.length,cC,some ⟨g3,0,none⟩,0,nL,some ⟨g4,0,none⟩,0,nF⟩):=by
 have hs:=Us W gO ⟨k,n,A,b.length,cC,some ⟨g3,0,none⟩,0,nL,some ⟨g4,0,none⟩,0,nF⟩;refine⟨gO,g1,g3,g4,A,cC,rfl,vp hO,nV hC hs (.inr ?_),wT,nV h3 hs (.inr ?_),nV h4 hs (.inr ?_),hg.mf sW _,sW,hd⟩
 ·rw[wT];intro e;injection e with e;exact hd.2.2.1 e
 ·intro e;injection e with e;exact hd.2.2.2.2.1 e
 intro e;injection e with e;exact hd.2.2.2.2.2 e
structure ql (w:World) (c:Cv) (M:Nat) (b:List UInt8) (gO g1:Nat) (A:Option Addr) (cB:Nat) (sL sF:Value) (jC lG:List VE) (wr:World):Prop where
 grow:Grow w wr
 src:Blk wr w.heap.size 27 c.cells
 res:Blk wr (w.heap.size+1) 27 #[.int .i64 0,.int .u64 0,.slice none 0 0,.slice none 0 0,.slice none 0 0]
 xq:Blk wr gO 27 #[.int .i64 c.k,.int .u64 c.n,.slice A b.length cB,sL,sF]
 row:Row wr (w.heap.size+2) (.slice A b.length cB) b.length b
 own:Value.ownBlock (.slice A b.length cB)=some g1
 list:gQ wr 27 Fs 5 (w.heap.size+2) M (w.heap.size+2) sL jC
 mg:gQ wr 82 sY 6 (w.heap.size+2) M (w.heap.size+2) sF lG
 hO:w.heap.size+2≤gO∧gO≤M
 h1:g1≤M∧g1≠gO
 hM:M<wr.heap.size
 Ap:∀k,sL.ownBlock=some k→k≠gO∧k≠g1
 wU:∀k,sF.ownBlock=some k→k≠gO∧k≠g1
 JR:∀k,sL.ownBlock=some k→sF.ownBlock≠some k
 NK:∀x∈jC,∀k,sF.ownBlock=some k→¬ (x.lo≤k∧k<x.hi)
theorem gQ.NL{W:World}{te:TypeId}{hd:ByteArray→List Value}{z lo vb base:Nat}{v:Value}{es:List VE}(h:gQ W te hd z lo vb base v es){g:Nat}(hne:∀k,v.ownBlock=some k→k≠g)(hg:g≤vb)(i:Nat)(u:Value):gQ (W.setCell ⟨g,i,none⟩ u) te hd z lo vb base v es:=
 h.kept (rC W g i u) (fun k e=>by injection e with e;subst e;exact⟨fun e2=>hne _ e2 rfl,hg⟩)
theorem ql.abX{w:World}{c:Cv}{M:Nat}{b:List UInt8}{gO g1:Nat}{A:Option Addr}{cB:Nat}{sL sZ sF:Value}{jC:List VE}{wr w3 w4:World}{o:Obj}{x:V}{cx:Cv}{m0:Nat}(h:ql w c M b gO g1 A cB sL sF jC [] wr)(hg:Grow wr w3)(hm0:wr.heap.size≤m0)(bG:m0≤w3.heap.size)
 (hx:pF w3 m0 w3.heap.size x cx) (hown:w4.ownsRow (w.heap.size+2) 27 5 sZ (jC.length+1) (cellsOf Fs jC++cx.cells.toList)) (hgr:(w3.alloc o).grownBy w4 sL.ownBlock)
 (eY:sZ.ownBlock=sL.ownBlock∨sZ.ownBlock=some (w3.alloc o).heap.size):ql w c M b gO g1 A cB sZ sF (jC++[⟨⟨#[]⟩,x,cx,m0,w3.heap.size⟩]) [] (w4.setCell ⟨gO,3,none⟩ sZ):=by
 have jo:=hg.alloc o;have hz3:(w3.alloc o).heap.size=w3.heap.size+1:=by simp
 have wP:=hgr.size;have hzg:=hg.size;have hM:=h.hM;have hO:=h.hO;have hzs:(w4.setCell ⟨gO,3,none⟩ sZ).heap.size=w4.heap.size:=by simp[World.setCell]
 have hown':∀k,sZ.ownBlock=some k→sL.ownBlock=some k∨k=w3.heap.size+1:=fun k e=>by
  rcases eY with q | q
  ·exact .inl (q ▸ e)
  rw[q] at e;injection e with e;exact .inr (by omega)
 have hVL:=(gQ.add (s:=⟨#[]⟩) (m0:=m0) (h.list.grow hg) (fun k hk=>cU (h.list.nv hk).2 hm0) (by omega) (by have:=h.grow.size;omega) (fun y hy=>a_ (h.list.part y hy).2.2.2.1 hm0) hx hown hgr eY);refine⟨((h.grow.trans jo).grown hgr (fun k hk=>by have:=(h.list.nv hk).1;omega)).setCell (by show w.heap.size≤gO;omega) _,(pE (h.src.grow jo) hgr (fun k hk=>by have:=(h.list.nv hk).1;omega)).far (by show w.heap.size≠gO;omega) _,(pE (h.res.grow jo) hgr (fun k hk=>by have:=(h.list.nv hk).1;omega)).far (by show w.heap.size+1≠gO;omega) _,
  (pE (h.xq.grow jo) hgr (fun k hk=>(h.Ap k hk).1)).bg 3 sZ,?_,h.own,hVL.NL (fun k hk=>?_) hO.2 3 sZ,?_,hO,h.h1,by omega,fun k hk=>?_,h.wU,fun k hk=>?_,fun y hy k hk=>?_⟩
 ·refine nV (nV (h.row.grow jo) hgr ?_) (rC w4 gO 3 sZ) (.inr ?_)
  ·cases hs:sL.ownBlock with
   | none=>rw[h.own];simp
   | some k=>right;rw[h.own];intro e;injection e with e;exact(h.Ap k hs).2 e.symm
  rw[h.own];intro e;injection e with e;exact h.h1.2 e
 ·rcases hown' k hk with q | q
  ·exact(h.Ap k q).1
  omega
 ·refine⟨nV (nV (h.mg.grow jo).own hgr ?_) (rC w4 gO 3 sZ) ?_,fun y hy=>by simp at hy,fun i j hi=>by simp at hi⟩
  ·cases hs:sL.ownBlock with
   | none=>cases sF.ownBlock<;>simp
   | some k=>right;exact fun e=>h.JR k hs e
  right;intro e;exact(h.wU gO e).1 rfl
 ·rcases hown' k hk with q | q
  ·exact h.Ap k q
  have:=h.h1.1;omega
 ·rcases hown' k hk with q | q
  ·exact h.JR k q
  intro e;have:=(h.mg.nv e).2;omega
 have hlt:=(h.mg.nv hk).2;rcases qV.1 hy with hy | hy
 ·exact h.NK y hy k hk
 rw[uP] at hy;subst hy;intro q;have:=q.1;dsimp only at this;omega
theorem ql.NP{w:World}{c:Cv}{M:Nat}{b:List UInt8}{gO g1:Nat}{A:Option Addr}{cB:Nat}{sL sF tj:Value}{jC lG:List VE}{wr w3 w4:World}{o:Obj}{s:ByteArray}{x:V}{cx:Cv}{m0:Nat}(h:ql w c M b gO g1 A cB sL sF jC lG wr)(hg:Grow wr w3)(hm0:wr.heap.size≤m0)(bG:m0≤w3.heap.size)
 (hx:pF w3 m0 w3.heap.size x cx) (hown:w4.ownsRow (w.heap.size+2) 82 6 tj (lG.length+1) (cellsOf sY lG++(sY s++cx.cells.toList))) (hgr:(w3.alloc o).grownBy w4 sF.ownBlock)
 (eY:tj.ownBlock=sF.ownBlock∨tj.ownBlock=some (w3.alloc o).heap.size):ql w c M b gO g1 A cB sL tj jC (lG++[⟨s,x,cx,m0,w3.heap.size⟩]) (w4.setCell ⟨gO,4,none⟩ tj):=by
 have jo:=hg.alloc o;have hz3:(w3.alloc o).heap.size=w3.heap.size+1:=by simp
 have wP:=hgr.size;have hzg:=hg.size;have hM:=h.hM;have hO:=h.hO;have hzs:(w4.setCell ⟨gO,4,none⟩ tj).heap.size=w4.heap.size:=by simp[World.setCell]
 have hown':∀k,tj.ownBlock=some k→sF.ownBlock=some k∨k=w3.heap.size+1:=fun k e=>by
  rcases eY with q | q
  ·exact .inl (q ▸ e)
  rw[q] at e;injection e with e;exact .inr (by omega)
 have hVF:=(gQ.add (s:=s) (m0:=m0) (h.mg.grow hg) (fun k hk=>cU (h.mg.nv hk).2 hm0) (by omega) (by have:=h.grow.size;omega) (fun y hy=>a_ (h.mg.part y hy).2.2.2.1 hm0) hx hown hgr eY);refine⟨((h.grow.trans jo).grown hgr (fun k hk=>by have:=(h.mg.nv hk).1;omega)).setCell (by show w.heap.size≤gO;omega) _,(pE (h.src.grow jo) hgr (fun k hk=>by have:=(h.mg.nv hk).1;omega)).far (by show w.heap.size≠gO;omega) _,(pE (h.res.grow jo) hgr (fun k hk=>by have:=(h.mg.nv hk).1;omega)).far (by show w.heap.size+1≠gO;omega) _,
  (pE (h.xq.grow jo) hgr (fun k hk=>(h.wU k hk).1)).bg 4 tj,?_,h.own,?_,hVF.NL (fun k hk=>?_) hO.2 4 tj,hO,h.h1,by omega,h.Ap,fun k hk=>?_,fun k hk e=>?_,fun y hy k hk=>?_⟩
 ·refine nV (nV (h.row.grow jo) hgr ?_) (rC w4 gO 4 tj) (.inr ?_)
  ·cases hs:sF.ownBlock with
   | none=>rw[h.own];simp
   | some k=>right;rw[h.own];intro e;injection e with e;exact(h.wU k hs).2 e.symm
  rw[h.own];intro e;injection e with e;exact h.h1.2 e
 ·have ny:=h.list.grow jo;have hl4:gQ w4 27 Fs 5 (w.heap.size+2) M (w.heap.size+2) sL jC:=by
   refine⟨nV ny.own hgr ?_,fun y hy=>?_,ny.apart⟩
   ·cases hs:sF.ownBlock with
    | none=>cases sL.ownBlock<;>simp
    | some k=>right;exact fun e=>h.JR k e hs
   obtain⟨p1,p2,p3,p4⟩:=ny.part y hy;exact⟨p1,p2,p3,p4.blocks hgr.size (fun k hk hk'=>hgr.block k (cU hk' p4.1) (fun e=>h.NK y hy k e.symm ⟨hk,hk'⟩))⟩
  exact hl4.NL (fun k hk=>(h.Ap k hk).1) hO.2 4 tj
 ·rcases hown' k hk with q | q
  ·exact(h.wU k q).1
  omega
 ·rcases hown' k hk with q | q
  ·exact h.wU k q
  have:=h.h1.1;omega
 ·rcases hown' k e with q | q
  ·exact h.JR k hk q
  have:=(h.list.nv hk).2;omega
 rcases hown' k hk with q | q
 ·exact h.NK y hy k q
 have:=(h.list.part y hy).2.2.2.1;intro e;omega
theorem ql.start{w W0 wx:World}{c:Cv}{b:List UInt8}{nL nF:Nat}{p:Value}(hw:Grow w W0)(hz:W0.heap.size=w.heap.size+2)(hs:Blk W0 w.heap.size 27 c.cells)(hr:Blk W0 (w.heap.size+1) 27 #[.int .i64 0,.int .u64 0,.slice none 0 0,.slice none 0 0,.slice none 0 0])
 (h:CS W0 c.k c.n b nL nF p wx):∃gO g1 g3 g4 A cB,p=.pointer (some ⟨gO,0,none⟩)∧ql w c (wx.heap.size-1) b gO g1 A cB (.slice (some ⟨g3,0,none⟩) 0 nL) (.slice (some ⟨g4,0,none⟩) 0 nF) [] [] wx:=by
 obtain⟨gO,g1,g3,g4,A,cB,rfl,hO,hC,wT,h3,h4,hg,sW,d13,d14,d1O,d34,d3O,d4O⟩:=h;rw[hz] at hC h3 h4 sW;have hOl:=hO.lt;have h1l:=(bO hC g1 wT).2;refine⟨gO,g1,g3,g4,A,cB,rfl,hw.trans hg,hs.grow hg,hr.grow hg,hO,hC,wT,⟨h3,fun x hx=>by simp at hx,fun i j hi=>by simp at hi⟩,⟨h4,fun x hx=>by simp at hx,fun i j hi=>by simp at hi⟩,⟨sW,by omega⟩,⟨by omega,d1O⟩,by omega,fun k hk=>?_,fun k hk=>?_,fun k hk e=>?_,fun x hx=>by simp at hx⟩
 ·have e:g3=k:=pd hk;subst e;exact⟨d3O,fun e=>d13 e.symm⟩
 ·have e:g4=k:=pd hk;subst e;exact⟨d4O,fun e=>d14 e.symm⟩
 have e1:g3=k:=pd hk;have e2:g4=k:=pd e;omega
theorem ql.done{w:World}{k:Int}{n:Nat}{aB aL aF:Option Addr}{nB cB0 nL0 cL0 nF0 cF0:Nat}{M:Nat}{b:List UInt8}{gO g1:Nat}{A AL AF:Option Addr}{cB og nz:Nat}{jC lG:List VE}{wr:World}(h:ql w ⟨k,n,aB,nB,cB0,aL,nL0,cL0,aF,nF0,cF0⟩ M b gO g1 A cB (.slice AL jC.length og) (.slice AF lG.length nz) jC lG wr)
 (hs:∀x∈lG,x.s.size≤140737488355328) (h1:-9223372036854775808≤k) (h2:k≤9223372036854775807) (hn:n<18446744073709551616) (hb:b.length≤140737488355328) (hl:jC.length≤140737488355328) (hf:lG.length≤140737488355328) {e:Ending}
 (he:e=.returned (Cv.agg ⟨k,n,A,b.length,cB,AL,jC.length,og,AF,lG.length,nz⟩)) :
 Ut w (.mk k n b (jC.map VE.v) (lG.map fun x=>(x.s,x.v))) e (qj wr (w.heap.size+1) ⟨k,n,A,b.length,cB,AL,jC.length,og,AF,lG.length,nz⟩):=by
 subst he;have cr:=Us wr (w.heap.size+1) ⟨k,n,A,b.length,cB,AL,jC.length,og,AF,lG.length,nz⟩;have sS:=abY wr (w.heap.size+1) ⟨k,n,A,b.length,cB,AL,jC.length,og,AF,lG.length,nz⟩;have hO:=h.hO;have hL:=((h.list.lower (JS:=w.heap.size+1) (by omega)).kept cr (fun q e=>by injection e with e;exact⟨fun e2=>by have:=(h.list.nv e2).1;omega,by omega⟩)).abZ rfl (av _) (by omega) hl;have hF:=((h.mg.lower (JS:=w.heap.size+1) (by omega)).kept cr (fun q e=>by injection e with e;exact⟨fun e2=>by have:=(h.mg.nv e2).1;omega,by omega⟩)).ab0 hs rfl (av _) (by omega) hf;have hR:Row (qj wr (w.heap.size+1) ⟨k,n,A,b.length,cB,AL,jC.length,og,AF,lG.length,nz⟩) (w.heap.size+2) (.slice A b.length cB) b.length b:=nV h.row cr (.inr (by
  rw[h.own];intro e;injection e with e;have:=(bO h.row g1 h.own).1;omega))
 have hcapB:=abU hR;have hRd:=abV hR;generalize qj wr (w.heap.size+1) ⟨k,n,A,b.length,cB,AL,jC.length,og,AF,lG.length,nz⟩=W at *;refine⟨⟨k,n,A,b.length,cB,AL,jC.length,og,AF,lG.length,nz⟩,rfl,⟨av _,?_⟩,h.grow.grown cr (fun q e=>by injection e with e;omega)⟩;rw[kL] at hL hF ⊢;obtain⟨_,_,_,l4,_,_,_,_,_,_,l11,l12,_,_,_,⟨T,E9,qa⟩,_⟩:=hL;obtain⟨_,_,_,_,f5,_,_,_,_,_,_,_,f13,f14,_,_,⟨U,hU1,hU2⟩⟩:=hF;refine⟨rfl,rfl,rfl,l4,f5,h1,h2,hn,hcapB,hb,l11,l12,f13,f14,dW (fun p u q=>⟨q.1,by have:=q.2.1;omega,q.2.2⟩) hRd,⟨T,fun i hi=>?_,qa⟩,⟨U,fun i hi=>?_,hU2⟩⟩
 ·obtain⟨bk,o,x,r1,r2,r3,r4,r5,r6⟩:=E9 i hi;exact⟨bk,o,x,r1,⟨by have:=r2.1;omega,r2.2⟩,r3,fun q hq=>⟨by have:=(r4 q hq).1;omega,(r4 q hq).2⟩,kI.mono (fun _ _ z=>z.1) r5,kL.mono _ _ _ _ (fun _ _ z _=>z.1) (fun _ z=>z) r6⟩
 obtain⟨bk,o,x,r1,r2,r3,r4,r5,r6,r7,r8⟩:=hU1 i hi;exact⟨bk,o,x,r1,⟨by have:=r2.1;omega,r2.2⟩,r3,fun q hq=>⟨by have:=(r4 q hq).1;omega,(r4 q hq).2⟩,r5.1,r6,kI.mono (fun _ _ z=>z.1) r7,kL.mono _ _ _ _ (fun _ _ z _=>z.1) (fun _ z=>z) r8⟩
end
section
open Go.RowKit Go.Shelf Go.WideShapes
theorem ab1{P:Program}{md:Region.Mode}{ops:Array Oper}{Q:Exit→Act→World→Prop}{S:World→Prop}(L:Bool→Bool→Bool→Bool→Bool→Array Bool)(A:Value→Value→Value→Value→Value→Act)
 (I:Bool→Bool→Bool→Bool→Bool→Value→Value→Value→Value→Value→World→Prop) {l:Array Bool} {a:Act} {W:World} {n:Nat} (hn:n=7)
 (hl:l=L false false false false false) (ha:a=A undef undef undef undef undef) (h0:I false false false false false undef undef undef undef undef W)
 (h:∀(f:Nat) b1 b2 b3 b4 b5 x1 x2 x3 x4 x5 W,f=(!b1).toNat+(!b2).toNat+(!b3).toNat+(!b4).toNat+(!b5).toNat+1→I b1 b2 b3 b4 b5 x1 x2 x3 x4 x5 W →
  (∀c1 c2 c3 c4 c5 y1 y2 y3 y4 y5 W',f=(!c1).toNat+(!c2).toNat+(!c3).toNat+(!c4).toNat+(!c5).toNat+2→I c1 c2 c3 c4 c5 y1 y2 y3 y4 y5 W'→wpAnyH P md ops Q S f (L c1 c2 c3 c4 c5) (A y1 y2 y3 y4 y5) W') →
  wpAnyH P md ops Q S (f+1) (L b1 b2 b3 b4 b5) (A x1 x2 x3 x4 x5) W):wpAnyH P md ops Q S n l a W:=by
 have key:∀(f:Nat) b1 b2 b3 b4 b5 x1 x2 x3 x4 x5 W,f=(!b1).toNat+(!b2).toNat+(!b3).toNat+(!b4).toNat+(!b5).toNat+2→I b1 b2 b3 b4 b5 x1 x2 x3 x4 x5 W→wpAnyH P md ops Q S f (L b1 b2 b3 b4 b5) (A x1 x2 x3 x4 x5) W:=by
  intro f
  induction f with
  | zero=>intro b1 b2 b3 b4 b5 x1 x2 x3 x4 x5 W e;omega
  | succ f ih =>
   intro b1 b2 b3 b4 b5 x1 x2 x3 x4 x5 W e hI;exact h f b1 b2 b3 b4 b5 x1 x2 x3 x4 x5 W (by omega) hI (fun c1 c2 c3 c4 c5 y1 y2 y3 y4 y5 W' e' h'=>ih c1 c2 c3 c4 c5 y1 y2 y3 y4 y5 W' e' h')
 subst hl ha hn;exact key 7 _ _ _ _ _ _ _ _ _ _ _ rfl h0
theorem gy.forms{W0 W:World}{b:List UInt8}{nL nF:Nat}{b1 b5:Bool}{x1 x2 x3 x4 x5:Value}(h:gy W0 b nL nF b1 true true true b5 x1 x2 x3 x4 x5 W):∃A c g3 g4,x2=.slice A b.length c∧x3=.slice (some ⟨g3,0,none⟩) 0 nL∧x4=.slice (some ⟨g4,0,none⟩) 0 nF:=by
 obtain⟨g1,g3,g4,g5,hg,h12,h1,h2,h3,h4,h5,_⟩:=h;obtain⟨A,c,e,_,_⟩:=h2 rfl;exact⟨A,c,g3,g4,e,(h3 rfl).1,(h4 rfl).1⟩
theorem ab2{l:List V}{es:List VE}{j:Nat}(h:j<l.length)(e:es.map VE.v=l.take j){x:VE}(hx:x.v=l[j]):(es++[x]).map VE.v=l.take (j+1):=by
 rw[lZ,e,Cm,bN h];simp[hx]
theorem NQ{f:List (ByteArray×V)}{es:List VE}{j:Nat}(h:j<f.length)(e:es.map (fun x=>(x.s,x.v))=f.take j){x:VE}(hx:(x.s,x.v)=f[j]):(es++[x]).map (fun x=>(x.s,x.v))=f.take (j+1):=by
 rw[lZ,e,Cm,bN h];simp[hx]
theorem Src.ab3{w:World}{W:World}(c:Cv)(e:TypeId){g:Nat}(hg:g=w.heap.size):Src prog 5 24 (.slice (some ⟨g,0,none⟩) 1 1) 1 c.cells.toList (w.alloc (.cells c.cells e)):=by
 subst hg;exact Src.Uu c e
theorem JT(v:V):v.nC→∀(w:World) (c:Cv),In w v c→Calls prog 42 #[c.agg] w (Ut w v):=by
 induction v using V.ind with
 | h k n b l f hl hf =>
  intro hsm w c hv;rw[V.NR] at hsm;obtain⟨hbl,hll,hfl,hsl,Uv⟩:=hsm;have HV:=aa hv;have Hl:=aa (fun j (h:j<l.length)=>hl l[j] (aY h) (hsl l[j] (aY h)));have Hf:=aa (fun j (h:j<f.length)=>hf f[j] (aY h) (Uv f[j] (aY h)));obtain⟨aB,aL,aF,cB,cL,cF,rfl,h1,h2,h3,h4,h5,h6,h7,h8,h9,hR⟩:=hv.open;obtain⟨cur,jc,hmk⟩:=JU b.length (by omega);obtain⟨alF,qm,ab4⟩:=NJ l.length hll;obtain⟨alG,qo,ab5⟩:=abT f.length hfl;have hc0:=((aH w 27 (Cv.cells ⟨k,n,aB,b.length,cB,aL,l.length,cL,aF,f.length,cF⟩)).alloc (.cells Cv.zero.cells 27));have Fu:=aa hc0;have hcell:=hc0.cell
  have HS:=aa (show ∀w',Grow (((w.alloc (.cells (Cv.cells ⟨k,n,aB,b.length,cB,aL,l.length,cL,aF,f.length,cF⟩) 27)).alloc (.cells #[.int .i64 0,.int .u64 0,.slice none 0 0,.slice none 0 0,.slice none 0 0] 27)).drew) w'→∀i,w'.cell? ⟨w.heap.size,i,none⟩=(Cv.cells ⟨k,n,aB,b.length,cB,aL,l.length,cL,aF,f.length,cF⟩)[i]? from fun w' h=>(hc0.drew.grow h).cell);have gz:=aa (show ∀w',Grow w w'→Src prog 1 23 (.slice aB b.length cB) b.length (bw b) w' from fun w' h=>ej dP (zY hR h) (gM _));obtain⟨i0,hi0,hz0',hz1,hz2⟩:=info_parts E5;have fX:=aa hi0;have fY:=aa hz0';have fZ:=aa hz1;have f_:=aa hz2;clear hi0 hz0' hz1 hz2 hl hf hsl Uv hv;clear hR h4 h5 h6 h7 h8 h9 hc0;go_enter func42,ntmps42;go_upto_region 1 with fail
  go_cut [3] (fun p wx=>CS (((w.alloc (.cells (Cv.cells ⟨k,n,aB,b.length,cB,aL,l.length,cL,aF,f.length,cF⟩) 27)).alloc (.cells #[.int .i64 0,.int .u64 0,.slice none 0 0,.slice none 0 0,.slice none 0 0] 27)).drew) k n b l.length f.length p wx)
  case first =>
   refine dN ?_;refine dO (S:=fun w'=>∀i,w'.cell? ⟨w.heap.size,i,none⟩=(Cv.cells ⟨k,n,aB,b.length,cB,aL,l.length,cL,aF,f.length,cF⟩)[i]?) (by kernel_rfl) (hcell) (fun hHeld=>?_);refine aj 0 ?_;refine aj 1 ?_;refine aj 2 ?_;refine aj 3 ?_;refine aj 4 ?_;refine aj 5 ?_;refine aj 6 ?_;refine aj 8 ?_;refine aj 9 ?_;refine aj 11 ?_;refine aj 12 ?_;refine aj 13 ?_;refine aj 15 ?_;refine aj 16 ?_;refine aj 17 ?_;have qp:=aa ((((ah w).alloc (.cells (Cv.cells ⟨k,n,aB,b.length,cB,aL,l.length,cL,aF,f.length,cF⟩) 27)).alloc (.cells #[.int .i64 0,.int .u64 0,.slice none 0 0,.slice none 0 0,.slice none 0 0] 27)).drew);clear hcell hHeld Fu HV Hl Hf
   generalize Uw:((w.alloc (.cells (Cv.cells ⟨k,n,aB,b.length,cB,aL,l.length,cL,aF,f.length,cF⟩) 27)).alloc (.cells #[.int .i64 0,.int .u64 0,.slice none 0 0,.slice none 0 0,.slice none 0 0] 27)).drew=W0 at HS qp ⊢;have Ux:=aa Uw;clear Uw
   refine ab1 (fun b1 b2 b3 b4 b5=>#[true,true,true,true,true,true,true,b1,true,true,b2,true,true,true,b3,true,true,true,b4,false,b5,false]) (fun x1 x2 x3 x4 x5=>{ tmps:=#[(Cv.agg ⟨k,n,aB,b.length,cB,aL,l.length,cL,aF,f.length,cF⟩),.pointer (some ⟨w.heap.size,0,none⟩),.pointer (some ⟨w.heap.size+1,0,none⟩),x5,undef,undef,undef,undef,.pointer (some ⟨w.heap.size,0,none⟩),.int .i64 k,.pointer (some ⟨w.heap.size,1,none⟩),.int .u64 n,.pointer (some ⟨w.heap.size,2,none⟩),.slice aB b.length cB,.int .i64 b.length,x1,.pointer (some ⟨w.heap.size,2,none⟩),.slice aB b.length cB,x2,.pointer (some ⟨w.heap.size,3,none⟩),.slice aL l.length cL,.int .i64 l.length,x3,.pointer (some ⟨w.heap.size,4,none⟩),.slice aF f.length cF,.int .i64 f.length,x4,undef,undef,undef,undef,undef,undef,undef,undef,undef,undef,undef,undef,undef,undef,undef,undef,undef,undef,undef,undef,undef,undef,undef,undef,undef,undef,undef,undef,undef,undef,undef,undef,undef,undef,undef,undef],defers:=[] }) (gy W0 b l.length f.length) rfl (by kernel_rfl) rfl ?_ ?_
   ·exact⟨0,0,0,0,ah _,fun e=>(by cases e),fun e=>(by cases e),fun e=>(by cases e),fun e=>(by cases e),fun e=>(by cases e),fun e=>(by cases e),⟨fun e=>(by cases e),fun e=>(by cases e),fun e=>(by cases e),fun e=>(by cases e)⟩,⟨fun e=>(by cases e),fun e=>(by cases e),fun e=>(by cases e),fun e=>(by cases e),fun e=>(by cases e),fun e=>(by cases e)⟩⟩
   intro fu b1 b2 b3 b4 b5 x1 x2 x3 x4 x5 W iE hI IH;dsimp only at IH ⊢
   cases b1<;>cases b2<;>cases b3<;>cases b4<;>cases b5
   ·obtain rfl:fu=6:=iE;refine b_ [7,14,18,20] ?_;refine bl rfl (fun K hK=>?_) ?_
    ·go_simp;have aI:=hI.yC jc hbl;refine hK.out _ _ (HS.o _ aI.grow) (fun hHeld=>?_);clear hK K;simp only[ak];exact IH true false false false false _ _ _ _ _ _ rfl aI
    refine bl rfl (fun K hK=>?_) ?_
    ·go_simp;have aI:=hI.rz qm hll;refine hK.out _ _ (HS.o _ aI.grow) (fun hHeld=>?_);clear hK K;simp only[ak];exact IH false false true false false _ _ _ _ _ _ rfl aI
    refine bl rfl (fun K hK=>?_) ?_
    ·go_simp;have aI:=hI.rA qo hfl;refine hK.out _ _ (HS.o _ aI.grow) (fun hHeld=>?_);clear hK K;simp only[ak];exact IH false false false true false _ _ _ _ _ _ rfl aI
    refine bl rfl (fun K hK=>?_) bZ;go_simp;have aI:=hI.rB;refine hK.out _ _ (HS.o _ aI.grow) (fun hHeld=>?_);clear hK K;simp only[ak];exact IH false false false false true _ _ _ _ _ _ rfl aI
   ·obtain rfl:fu=5:=iE;refine b_ [7,14,18] ?_;refine bl rfl (fun K hK=>?_) ?_
    ·go_simp;have aI:=hI.yC jc hbl;refine hK.out _ _ (HS.o _ aI.grow) (fun hHeld=>?_);clear hK K;simp only[ak];exact IH true false false false true _ _ _ _ _ _ rfl aI
    refine bl rfl (fun K hK=>?_) ?_
    ·go_simp;have aI:=hI.rz qm hll;refine hK.out _ _ (HS.o _ aI.grow) (fun hHeld=>?_);clear hK K;simp only[ak];exact IH false false true false true _ _ _ _ _ _ rfl aI
    refine bl rfl (fun K hK=>?_) bZ;go_simp;have aI:=hI.rA qo hfl;refine hK.out _ _ (HS.o _ aI.grow) (fun hHeld=>?_);clear hK K;simp only[ak];exact IH false false false true true _ _ _ _ _ _ rfl aI
   ·obtain rfl:fu=5:=iE;refine b_ [7,14,20] ?_;refine bl rfl (fun K hK=>?_) ?_
    ·go_simp;have aI:=hI.yC jc hbl;refine hK.out _ _ (HS.o _ aI.grow) (fun hHeld=>?_);clear hK K;simp only[ak];exact IH true false false true false _ _ _ _ _ _ rfl aI
    refine bl rfl (fun K hK=>?_) ?_
    ·go_simp;have aI:=hI.rz qm hll;refine hK.out _ _ (HS.o _ aI.grow) (fun hHeld=>?_);clear hK K;simp only[ak];exact IH false false true true false _ _ _ _ _ _ rfl aI
    refine bl rfl (fun K hK=>?_) bZ;go_simp;have aI:=hI.rB;refine hK.out _ _ (HS.o _ aI.grow) (fun hHeld=>?_);clear hK K;simp only[ak];exact IH false false false true true _ _ _ _ _ _ rfl aI
   ·obtain rfl:fu=4:=iE;refine b_ [7,14] ?_;refine bl rfl (fun K hK=>?_) ?_
    ·go_simp;have aI:=hI.yC jc hbl;refine hK.out _ _ (HS.o _ aI.grow) (fun hHeld=>?_);clear hK K;simp only[ak];exact IH true false false true true _ _ _ _ _ _ rfl aI
    refine bl rfl (fun K hK=>?_) bZ;go_simp;have aI:=hI.rz qm hll;refine hK.out _ _ (HS.o _ aI.grow) (fun hHeld=>?_);clear hK K;simp only[ak];exact IH false false true true true _ _ _ _ _ _ rfl aI
   ·obtain rfl:fu=5:=iE;refine b_ [7,18,20] ?_;refine bl rfl (fun K hK=>?_) ?_
    ·go_simp;have aI:=hI.yC jc hbl;refine hK.out _ _ (HS.o _ aI.grow) (fun hHeld=>?_);clear hK K;simp only[ak];exact IH true false true false false _ _ _ _ _ _ rfl aI
    refine bl rfl (fun K hK=>?_) ?_
    ·go_simp;have aI:=hI.rA qo hfl;refine hK.out _ _ (HS.o _ aI.grow) (fun hHeld=>?_);clear hK K;simp only[ak];exact IH false false true true false _ _ _ _ _ _ rfl aI
    refine bl rfl (fun K hK=>?_) bZ;go_simp;have aI:=hI.rB;refine hK.out _ _ (HS.o _ aI.grow) (fun hHeld=>?_);clear hK K;simp only[ak];exact IH false false true false true _ _ _ _ _ _ rfl aI
   ·obtain rfl:fu=4:=iE;refine b_ [7,18] ?_;refine bl rfl (fun K hK=>?_) ?_
    ·go_simp;have aI:=hI.yC jc hbl;refine hK.out _ _ (HS.o _ aI.grow) (fun hHeld=>?_);clear hK K;simp only[ak];exact IH true false true false true _ _ _ _ _ _ rfl aI
    refine bl rfl (fun K hK=>?_) bZ;go_simp;have aI:=hI.rA qo hfl;refine hK.out _ _ (HS.o _ aI.grow) (fun hHeld=>?_);clear hK K;simp only[ak];exact IH false false true true true _ _ _ _ _ _ rfl aI
   ·obtain rfl:fu=4:=iE;refine b_ [7,20] ?_;refine bl rfl (fun K hK=>?_) ?_
    ·go_simp;have aI:=hI.yC jc hbl;refine hK.out _ _ (HS.o _ aI.grow) (fun hHeld=>?_);clear hK K;simp only[ak];exact IH true false true true false _ _ _ _ _ _ rfl aI
    refine bl rfl (fun K hK=>?_) bZ;go_simp;have aI:=hI.rB;refine hK.out _ _ (HS.o _ aI.grow) (fun hHeld=>?_);clear hK K;simp only[ak];exact IH false false true true true _ _ _ _ _ _ rfl aI
   ·obtain rfl:fu=3:=iE;refine b_ [7] ?_;refine bl rfl (fun K hK=>?_) bZ;go_simp;have aI:=hI.yC jc hbl;refine hK.out _ _ (HS.o _ aI.grow) (fun hHeld=>?_);clear hK K;simp only[ak];exact IH true false true true true _ _ _ _ _ _ rfl aI
   ·exact absurd (hI.le rfl) (by decide)
   ·exact absurd (hI.le rfl) (by decide)
   ·exact absurd (hI.le rfl) (by decide)
   ·exact absurd (hI.le rfl) (by decide)
   ·exact absurd (hI.le rfl) (by decide)
   ·exact absurd (hI.le rfl) (by decide)
   ·exact absurd (hI.le rfl) (by decide)
   ·exact absurd (hI.le rfl) (by decide)
   ·obtain rfl:fu=5:=iE;refine b_ [10,14,18,20] ?_;refine bl rfl (fun K hK=>?_) ?_
    ·obtain⟨g,rfl,hA⟩:=hI.made;refine jP (by rfl) (.tmp 15) (.tmp 17) 23 23 (by rfl) W0.heap.size 5 i0 _ 1 1 dP fX.o fY.o fZ.o f_.o (by rfl) (.slice (some ⟨g,0,none⟩) 0 b.length) 0 (bw []) (by rfl) hA (.slice aB b.length cB) b.length (bw b) (by rfl) (gz.o _ (qp.o.trans hI.grow)) (by omega) (by simp only[maxLen];omega) hI.grow.size ?_;intro A cC W2 hown hgr eY;simp only[dg] at hown eY ⊢;have aI:=hI.yD rfl hown hgr eY;refine hK.out _ _ (HS.o _ aI.grow) (fun hHeld=>?_);clear hK K;simp only[ak];exact IH true true false false false _ _ _ _ _ _ rfl aI
    refine bl rfl (fun K hK=>?_) ?_
    ·go_simp;have aI:=hI.rz qm hll;refine hK.out _ _ (HS.o _ aI.grow) (fun hHeld=>?_);clear hK K;simp only[ak];exact IH true false true false false _ _ _ _ _ _ rfl aI
    refine bl rfl (fun K hK=>?_) ?_
    ·go_simp;have aI:=hI.rA qo hfl;refine hK.out _ _ (HS.o _ aI.grow) (fun hHeld=>?_);clear hK K;simp only[ak];exact IH true false false true false _ _ _ _ _ _ rfl aI
    refine bl rfl (fun K hK=>?_) bZ;go_simp;have aI:=hI.rB;refine hK.out _ _ (HS.o _ aI.grow) (fun hHeld=>?_);clear hK K;simp only[ak];exact IH true false false false true _ _ _ _ _ _ rfl aI
   ·obtain rfl:fu=4:=iE;refine b_ [10,14,18] ?_;refine bl rfl (fun K hK=>?_) ?_
    ·obtain⟨g,rfl,hA⟩:=hI.made;refine jP (by rfl) (.tmp 15) (.tmp 17) 23 23 (by rfl) W0.heap.size 5 i0 _ 1 1 dP fX.o fY.o fZ.o f_.o (by rfl) (.slice (some ⟨g,0,none⟩) 0 b.length) 0 (bw []) (by rfl) hA (.slice aB b.length cB) b.length (bw b) (by rfl) (gz.o _ (qp.o.trans hI.grow)) (by omega) (by simp only[maxLen];omega) hI.grow.size ?_;intro A cC W2 hown hgr eY;simp only[dg] at hown eY ⊢;have aI:=hI.yD rfl hown hgr eY;refine hK.out _ _ (HS.o _ aI.grow) (fun hHeld=>?_);clear hK K;simp only[ak];exact IH true true false false true _ _ _ _ _ _ rfl aI
    refine bl rfl (fun K hK=>?_) ?_
    ·go_simp;have aI:=hI.rz qm hll;refine hK.out _ _ (HS.o _ aI.grow) (fun hHeld=>?_);clear hK K;simp only[ak];exact IH true false true false true _ _ _ _ _ _ rfl aI
    refine bl rfl (fun K hK=>?_) bZ;go_simp;have aI:=hI.rA qo hfl;refine hK.out _ _ (HS.o _ aI.grow) (fun hHeld=>?_);clear hK K;simp only[ak];exact IH true false false true true _ _ _ _ _ _ rfl aI
   ·obtain rfl:fu=4:=iE;refine b_ [10,14,20] ?_;refine bl rfl (fun K hK=>?_) ?_
    ·obtain⟨g,rfl,hA⟩:=hI.made;refine jP (by rfl) (.tmp 15) (.tmp 17) 23 23 (by rfl) W0.heap.size 5 i0 _ 1 1 dP fX.o fY.o fZ.o f_.o (by rfl) (.slice (some ⟨g,0,none⟩) 0 b.length) 0 (bw []) (by rfl) hA (.slice aB b.length cB) b.length (bw b) (by rfl) (gz.o _ (qp.o.trans hI.grow)) (by omega) (by simp only[maxLen];omega) hI.grow.size ?_;intro A cC W2 hown hgr eY;simp only[dg] at hown eY ⊢;have aI:=hI.yD rfl hown hgr eY;refine hK.out _ _ (HS.o _ aI.grow) (fun hHeld=>?_);clear hK K;simp only[ak];exact IH true true false true false _ _ _ _ _ _ rfl aI
    refine bl rfl (fun K hK=>?_) ?_
    ·go_simp;have aI:=hI.rz qm hll;refine hK.out _ _ (HS.o _ aI.grow) (fun hHeld=>?_);clear hK K;simp only[ak];exact IH true false true true false _ _ _ _ _ _ rfl aI
    refine bl rfl (fun K hK=>?_) bZ;go_simp;have aI:=hI.rB;refine hK.out _ _ (HS.o _ aI.grow) (fun hHeld=>?_);clear hK K;simp only[ak];exact IH true false false true true _ _ _ _ _ _ rfl aI
   ·obtain rfl:fu=3:=iE;refine b_ [10,14] ?_;refine bl rfl (fun K hK=>?_) ?_
    ·obtain⟨g,rfl,hA⟩:=hI.made;refine jP (by rfl) (.tmp 15) (.tmp 17) 23 23 (by rfl) W0.heap.size 5 i0 _ 1 1 dP fX.o fY.o fZ.o f_.o (by rfl) (.slice (some ⟨g,0,none⟩) 0 b.length) 0 (bw []) (by rfl) hA (.slice aB b.length cB) b.length (bw b) (by rfl) (gz.o _ (qp.o.trans hI.grow)) (by omega) (by simp only[maxLen];omega) hI.grow.size ?_;intro A cC W2 hown hgr eY;simp only[dg] at hown eY ⊢;have aI:=hI.yD rfl hown hgr eY;refine hK.out _ _ (HS.o _ aI.grow) (fun hHeld=>?_);clear hK K;simp only[ak];exact IH true true false true true _ _ _ _ _ _ rfl aI
    refine bl rfl (fun K hK=>?_) bZ;go_simp;have aI:=hI.rz qm hll;refine hK.out _ _ (HS.o _ aI.grow) (fun hHeld=>?_);clear hK K;simp only[ak];exact IH true false true true true _ _ _ _ _ _ rfl aI
   ·obtain rfl:fu=4:=iE;refine b_ [10,18,20] ?_;refine bl rfl (fun K hK=>?_) ?_
    ·obtain⟨g,rfl,hA⟩:=hI.made;refine jP (by rfl) (.tmp 15) (.tmp 17) 23 23 (by rfl) W0.heap.size 5 i0 _ 1 1 dP fX.o fY.o fZ.o f_.o (by rfl) (.slice (some ⟨g,0,none⟩) 0 b.length) 0 (bw []) (by rfl) hA (.slice aB b.length cB) b.length (bw b) (by rfl) (gz.o _ (qp.o.trans hI.grow)) (by omega) (by simp only[maxLen];omega) hI.grow.size ?_;intro A cC W2 hown hgr eY;simp only[dg] at hown eY ⊢;have aI:=hI.yD rfl hown hgr eY;refine hK.out _ _ (HS.o _ aI.grow) (fun hHeld=>?_);clear hK K;simp only[ak];exact IH true true true false false _ _ _ _ _ _ rfl aI
    refine bl rfl (fun K hK=>?_) ?_
    ·go_simp;have aI:=hI.rA qo hfl;refine hK.out _ _ (HS.o _ aI.grow) (fun hHeld=>?_);clear hK K;simp only[ak];exact IH true false true true false _ _ _ _ _ _ rfl aI
    refine bl rfl (fun K hK=>?_) bZ;go_simp;have aI:=hI.rB;refine hK.out _ _ (HS.o _ aI.grow) (fun hHeld=>?_);clear hK K;simp only[ak];exact IH true false true false true _ _ _ _ _ _ rfl aI
   ·obtain rfl:fu=3:=iE;refine b_ [10,18] ?_;refine bl rfl (fun K hK=>?_) ?_
    ·obtain⟨g,rfl,hA⟩:=hI.made;refine jP (by rfl) (.tmp 15) (.tmp 17) 23 23 (by rfl) W0.heap.size 5 i0 _ 1 1 dP fX.o fY.o fZ.o f_.o (by rfl) (.slice (some ⟨g,0,none⟩) 0 b.length) 0 (bw []) (by rfl) hA (.slice aB b.length cB) b.length (bw b) (by rfl) (gz.o _ (qp.o.trans hI.grow)) (by omega) (by simp only[maxLen];omega) hI.grow.size ?_;intro A cC W2 hown hgr eY;simp only[dg] at hown eY ⊢;have aI:=hI.yD rfl hown hgr eY;refine hK.out _ _ (HS.o _ aI.grow) (fun hHeld=>?_);clear hK K;simp only[ak];exact IH true true true false true _ _ _ _ _ _ rfl aI
    refine bl rfl (fun K hK=>?_) bZ;go_simp;have aI:=hI.rA qo hfl;refine hK.out _ _ (HS.o _ aI.grow) (fun hHeld=>?_);clear hK K;simp only[ak];exact IH true false true true true _ _ _ _ _ _ rfl aI
   ·obtain rfl:fu=3:=iE;refine b_ [10,20] ?_;refine bl rfl (fun K hK=>?_) ?_
    ·obtain⟨g,rfl,hA⟩:=hI.made;refine jP (by rfl) (.tmp 15) (.tmp 17) 23 23 (by rfl) W0.heap.size 5 i0 _ 1 1 dP fX.o fY.o fZ.o f_.o (by rfl) (.slice (some ⟨g,0,none⟩) 0 b.length) 0 (bw []) (by rfl) hA (.slice aB b.length cB) b.length (bw b) (by rfl) (gz.o _ (qp.o.trans hI.grow)) (by omega) (by simp only[maxLen];omega) hI.grow.size ?_;intro A cC W2 hown hgr eY;simp only[dg] at hown eY ⊢;have aI:=hI.yD rfl hown hgr eY;refine hK.out _ _ (HS.o _ aI.grow) (fun hHeld=>?_);clear hK K;simp only[ak];exact IH true true true true false _ _ _ _ _ _ rfl aI
    refine bl rfl (fun K hK=>?_) bZ;go_simp;have aI:=hI.rB;refine hK.out _ _ (HS.o _ aI.grow) (fun hHeld=>?_);clear hK K;simp only[ak];exact IH true false true true true _ _ _ _ _ _ rfl aI
   ·obtain rfl:fu=2:=iE;refine b_ [10] ?_;refine bl rfl (fun K hK=>?_) bZ;obtain⟨g,rfl,hA⟩:=hI.made;refine jP (by rfl) (.tmp 15) (.tmp 17) 23 23 (by rfl) W0.heap.size 5 i0 _ 1 1 dP fX.o fY.o fZ.o f_.o (by rfl) (.slice (some ⟨g,0,none⟩) 0 b.length) 0 (bw []) (by rfl) hA (.slice aB b.length cB) b.length (bw b) (by rfl) (gz.o _ (qp.o.trans hI.grow)) (by omega) (by simp only[maxLen];omega) hI.grow.size ?_;intro A cC W2 hown hgr eY;simp only[dg] at hown eY ⊢;have aI:=hI.yD rfl hown hgr eY;refine hK.out _ _ (HS.o _ aI.grow) (fun hHeld=>?_);clear hK K;simp only[ak];exact IH true true true true true _ _ _ _ _ _ rfl aI
   ·obtain rfl:fu=4:=iE;refine b_ [14,18,20] ?_;refine bl rfl (fun K hK=>?_) ?_
    ·go_simp;have aI:=hI.rz qm hll;refine hK.out _ _ (HS.o _ aI.grow) (fun hHeld=>?_);clear hK K;simp only[ak];exact IH true true true false false _ _ _ _ _ _ rfl aI
    refine bl rfl (fun K hK=>?_) ?_
    ·go_simp;have aI:=hI.rA qo hfl;refine hK.out _ _ (HS.o _ aI.grow) (fun hHeld=>?_);clear hK K;simp only[ak];exact IH true true false true false _ _ _ _ _ _ rfl aI
    refine bl rfl (fun K hK=>?_) bZ;go_simp;have aI:=hI.rB;refine hK.out _ _ (HS.o _ aI.grow) (fun hHeld=>?_);clear hK K;simp only[ak];exact IH true true false false true _ _ _ _ _ _ rfl aI
   ·obtain rfl:fu=3:=iE;refine b_ [14,18] ?_;refine bl rfl (fun K hK=>?_) ?_
    ·go_simp;have aI:=hI.rz qm hll;refine hK.out _ _ (HS.o _ aI.grow) (fun hHeld=>?_);clear hK K;simp only[ak];exact IH true true true false true _ _ _ _ _ _ rfl aI
    refine bl rfl (fun K hK=>?_) bZ;go_simp;have aI:=hI.rA qo hfl;refine hK.out _ _ (HS.o _ aI.grow) (fun hHeld=>?_);clear hK K;simp only[ak];exact IH true true false true true _ _ _ _ _ _ rfl aI
   ·obtain rfl:fu=3:=iE;refine b_ [14,20] ?_;refine bl rfl (fun K hK=>?_) ?_
    ·go_simp;have aI:=hI.rz qm hll;refine hK.out _ _ (HS.o _ aI.grow) (fun hHeld=>?_);clear hK K;simp only[ak];exact IH true true true true false _ _ _ _ _ _ rfl aI
    refine bl rfl (fun K hK=>?_) bZ;go_simp;have aI:=hI.rB;refine hK.out _ _ (HS.o _ aI.grow) (fun hHeld=>?_);clear hK K;simp only[ak];exact IH true true false true true _ _ _ _ _ _ rfl aI
   ·obtain rfl:fu=2:=iE;refine b_ [14] ?_;refine bl rfl (fun K hK=>?_) bZ;go_simp;have aI:=hI.rz qm hll;refine hK.out _ _ (HS.o _ aI.grow) (fun hHeld=>?_);clear hK K;simp only[ak];exact IH true true true true true _ _ _ _ _ _ rfl aI
   ·obtain rfl:fu=3:=iE;refine b_ [18,20] ?_;refine bl rfl (fun K hK=>?_) ?_
    ·go_simp;have aI:=hI.rA qo hfl;refine hK.out _ _ (HS.o _ aI.grow) (fun hHeld=>?_);clear hK K;simp only[ak];exact IH true true true true false _ _ _ _ _ _ rfl aI
    refine bl rfl (fun K hK=>?_) bZ;go_simp;have aI:=hI.rB;refine hK.out _ _ (HS.o _ aI.grow) (fun hHeld=>?_);clear hK K;simp only[ak];exact IH true true true false true _ _ _ _ _ _ rfl aI
   ·obtain rfl:fu=2:=iE;refine b_ [18] ?_;refine bl rfl (fun K hK=>?_) bZ;go_simp;have aI:=hI.rA qo hfl;refine hK.out _ _ (HS.o _ aI.grow) (fun hHeld=>?_);clear hK K;simp only[ak];exact IH true true true true true _ _ _ _ _ _ rfl aI
   ·obtain rfl:fu=2:=iE;clear IH;obtain⟨A,cC,g3,g4,rfl,rfl,rfl⟩:=hI.forms;have hHeld:=HS.o _ hI.grow;refine aj 19 ?_;refine b_ [20] ?_;refine bl rfl (fun K hK=>?_) bZ;go_simp;have Fv:=hI.rB;refine hK.out _ _ (HS.o _ Fv.grow) (fun hHeld=>?_);clear hK K hI hHeld;simp only[ak];generalize W.alloc (.cells #[.int .i64 0,.int .u64 0,.slice none 0 0,.slice none 0 0,.slice none 0 0] 27)=W5 at Fv ⊢;generalize Value.pointer (some ⟨W.heap.size,0,none⟩)=x5 at Fv ⊢;have hI:=Fv;clear Fv;obtain⟨g1,g3',g4',gO,e3,e4,rfl,hg,hC,wT,NT,NU,hO,sW,hd⟩:=hI.done;injection e3 with e3;injection e3 with e3;injection e3 with e3;injection e4 with e4;injection e4 with e4;injection e4 with e4;subst e3 e4;have hOc:=hO.cell;have JV:=hO.frozen;clear hI;refine b_ [21] ?_
    refine bl rfl (fun K hK=>?_) bZ;go_simp;refine hK.out _ _ (HS.o _ (hg.mf sW ⟨k,n,A,b.length,cC,some ⟨g3,0,none⟩,0,l.length,some ⟨g4,0,none⟩,0,f.length⟩)) (fun hHeld=>?_);clear hK K;refine cz ?_;go_wp2_with fail;go_meet;rw[Ux.o];exact CS.make hg hC wT NT NU hO sW hd
   obtain rfl:fu=1:=iE;clear IH;obtain⟨A,cC,g3,g4,rfl,rfl,rfl⟩:=hI.forms;have hHeld:=HS.o _ hI.grow;refine aj 19 ?_;obtain⟨g1,g3',g4',gO,e3,e4,rfl,hg,hC,wT,NT,NU,hO,sW,hd⟩:=hI.done;injection e3 with e3;injection e3 with e3;injection e3 with e3;injection e4 with e4;injection e4 with e4;injection e4 with e4;subst e3 e4;have hOc:=hO.cell;have JV:=hO.frozen;clear hI;refine b_ [21] ?_;refine bl rfl (fun K hK=>?_) bZ;go_simp;refine hK.out _ _ (HS.o _ (hg.mf sW ⟨k,n,A,b.length,cC,some ⟨g3,0,none⟩,0,l.length,some ⟨g4,0,none⟩,0,f.length⟩)) (fun hHeld=>?_);clear hK K;refine cz ?_;go_wp2_with fail;go_meet;rw[Ux.o];exact CS.make hg hC wT NT NU hO sW hd
  have hw0:=Fu.o.drew;have rD:=((aH (w.alloc (.cells (Cv.cells ⟨k,n,aB,b.length,cB,aL,l.length,cL,aF,f.length,cF⟩) 27)) 27 #[.int .i64 0,.int .u64 0,.slice none 0 0,.slice none 0 0,.slice none 0 0]).drew);rw[show (w.alloc (.cells (Cv.cells ⟨k,n,aB,b.length,cB,aL,l.length,cL,aF,f.length,cF⟩) 27)).heap.size=w.heap.size+1 by simp] at rD;obtain⟨gO,g1,g3,g4,A,cC,rfl,hR⟩:=ql.start (w:=w) (c:=⟨k,n,aB,b.length,cB,aL,l.length,cL,aF,f.length,cF⟩) ((((ah w).alloc _).alloc _).drew) (by simp) hw0 rD hcut;rename World=>wx;have wV:=hR.src.cell;have NV:=aa hR;obtain⟨M,hM⟩:∃M,M=wx.heap.size-1:=⟨_,rfl⟩;rw[← hM] at NV;clear hM hw0 rD hcut HS Fu hcell gz fX fY fZ f_ jc hmk qm ab4 qo ab5 hR;obtain⟨i0,hi0,hz0',hz1,hz2⟩:=info_parts ry;have fX:=aa hi0;have fY:=aa hz0'
  have fZ:=aa hz1;have f_:=aa hz2;clear hi0 hz0' hz1 hz2;obtain⟨j0,yE,Uy,hy1,hy2⟩:=info_parts Ur;have NW:=aa yE;have NY:=aa Uy;have NZ:=aa hy1;have N0:=aa hy2;clear yE Uy hy1 hy2;go_wp2_with fail;go_loopg [31] (l.length+1) (fun gk i wr=>∃(j:Nat) (es:List VE) (AL:Option Addr) (og:Nat),j≤l.length∧gk+j=l.length+1∧i=.int .i64 j∧es.length=j∧es.map VE.v=l.take j∧ql w ⟨k,n,aB,b.length,cB,aL,l.length,cL,aF,f.length,cF⟩ M b gO g1 A cC (.slice AL es.length og) (.slice (some ⟨g4,0,none⟩) 0 f.length) es [] wr);exact⟨0,[],_,_,aS _,by omega,rfl,rfl,by simp,NV.o⟩;obtain⟨j,es,AL,og,hj,iB,rfl,N1,hes,hR⟩:=hrel;obtain⟨gk',rfl⟩:=bP gk (by omega);have HR:=aa hR;have qb:=aa hes;have HEJ:=aa N1;have hel:es.length≤1000000000:=by omega
  clear hR hes wV NV;by_cases hlt:j<l.length
  ·obtain⟨bk,o,cx,ha,hbk,e0,e1,e2,e3,e4,hx⟩:=(HV.o.grow HR.o.grow).fJ j hlt;dsimp only at ha;subst ha;have HX:=aa hx;clear hx N1;have rE:=(HR.o.xq.alloc (.cells cx.cells 27)).cell;have oh:=(aH wr 27 cx.cells).cell;have HC:=aa (Hl.o j hlt ((wr.alloc (.cells cx.cells 27)).drew) cx (HX.o.grow (((ah wr).alloc _).drew)));have bV:=aa (((ah wr).alloc (.cells cx.cells 27)).drew);go_wp2_with fail
   go_region_law ((first | (refine jP (by rfl) (.tmp 36) (.tmp 39) 24 24 (by rfl) (w.heap.size+2) 27 i0 _ 5 88 lF fX.o fY.o fZ.o f_.o (by rfl) (.slice AL es.length og) es.length (cellsOf Fs es) (by rfl) ((EC gA _)) _ 1 cy.cells.toList (by rfl) (Src.Uu cy _) (by omega) (by simp only[maxLen];omega) (by have:=hz3;simp;omega) ?_;intro A4 c4 w4 tq mh tu;have hB4:=pE (g_.o.alloc _) mh (fun k hk=>(HR.o.Ap k hk).1);have gf:=hB4.cell;have h_:=hB4.frozen) | (go_simp;go_at_call 42;refine HC.o.mono ?_;rintro e w3 ⟨cy,rfl,vq,hg3⟩;have lH:=bV.o.trans hg3;have g_:=aa (HR.o.xq.grow lH);have hc3:=g_.o.cell;have CT:=(g_.o.alloc (.cells cy.cells 27)).cell;have gA:=(HR.o.list.grow lH).own;have hz3:w.heap.size+2≤w3.heap.size:=(by have:=lH.size;have:=HR.o.hM;have:=HR.o.hO;omega))))
   all_goals
    have cN:=aa (HR.o.abX lH (m0:=wr.heap.size+1) (by omega) (by have:=hg3.size;simpa using this) (by simpa using vq) tq mh tu)
    clear hB4 hc3 CT gf h_ vq hg3 gA tq mh tu lH g_ rE oh e0 e1 e2 e3 e4
    go_wp2_with fail
    go_roundg gk'
    have hn:(es++[(⟨⟨#[]⟩,l[j],cy,wr.heap.size+1,w3.heap.size⟩:VE)]).length=es.length+1:=by simp
    exact⟨j+1,es++[⟨⟨#[]⟩,l[j],cy,wr.heap.size+1,w3.heap.size⟩],A4,c4,by omega,by omega,by go_num,by rw[hn,HEJ.o],ab2 hlt qb.o rfl,by rw[hn];exact cN.o⟩
    omega
  obtain rfl:j=l.length:=by omega
  have N2:es.map VE.v=l:=by rw[qb.o,fC]
  have ab6:=aa N2;have wV:=HR.o.src.cell;clear N2 N1;go_wp2_with fail;go_loopg [46] (f.length+1) (fun tv i2 wr2=>∃(j:Nat) (fs:List VE) (AF:Option Addr) (nz:Nat),j≤f.length∧tv+j=f.length+1∧i2=.int .i64 j∧fs.length=j∧fs.map (fun x=>(x.s,x.v))=f.take j∧(∀x∈fs,x.s.size≤140737488355328)∧ql w ⟨k,n,aB,b.length,cB,aL,l.length,cL,aF,f.length,cF⟩ M b gO g1 A cC (.slice AL es.length og) (.slice AF fs.length nz) es fs wr2);exact⟨0,[],_,_,aS _,by omega,rfl,rfl,by simp,fun x hx=>by simp at hx,HR.o⟩;obtain⟨j,fs,AF,nz,Fw,N3,rfl,CU,lI,Uz,rF⟩:=hrel;obtain⟨N4,rfl⟩:∃g,gk=g+1:=⟨gk-1,by omega⟩;have bI:=aa rF;have JW:=aa lI;have tz:=aa Uz;have N5:=aa CU;have JX:fs.length≤1000000000:=by omega
  clear rF lI Uz wV;by_cases dC:j<f.length
  ·obtain⟨bk,o,cx,ha,hbk,jT,iA,e0,e1,e2,e3,e4,hx⟩:=(HV.o.grow bI.o.grow).iR j dC;dsimp only at ha;subst ha;obtain⟨s,hs⟩:∃s,f[j].1=s:=⟨_,rfl⟩;rw[hs] at jT iA;have CV:=aa hs;have HX:=aa hx;clear hx CU hs;have rE:=(bI.o.xq.alloc (.cells (cx.lJ s) 82)).cell;have Fx:=aa (aH wr 82 (cx.lJ s));have oh:=Fx.o.cell;have bV:=aa (((ah wr).alloc (.cells (cx.lJ s) 82)).drew);have HC:=aa (Hf.o j dC ((wr.alloc (.cells (cx.lJ s) 82)).drew) cx (HX.o.grow bV.o));go_upto_region 10 with fail;have qq:=aa (show ∀w',Grow (wr.alloc (.cells (cx.lJ s) 82)) w'→∀i,w'.cell? ⟨wr.heap.size,i,none⟩=(cx.lJ s)[i]? from fun w' h=>(Fx.o.grow h).cell);refine dN ?_
   refine dO (S:=fun w'=>∀i,w'.cell? ⟨wr.heap.size,i,none⟩=(cx.lJ s)[i]?) (by kernel_rfl) ((qq.o _ (ah _).drew)) (fun hHeld=>?_);refine aj 0 ?_;refine aj 2 ?_;refine aj 3 ?_;refine aj 4 ?_;refine aj 5 ?_;refine b_ [1,6] ?_;refine bl rfl (fun K hK=>?_) ?_
   ·go_simp;refine aV hK (qq.o _ (ah _).drew) (fun hHeld=>?_);clear hK K;refine b_ [6] ?_;refine bl rfl (fun K hK=>?_) bZ;go_simp;refine HC.o.mono ?_;rintro e w3 ⟨cy,rfl,vq,hg3⟩;have lH:=bV.o.trans hg3;have g_:=aa (bI.o.xq.grow lH);have hc3:=g_.o.cell;have CT:=(g_.o.alloc (.cells (cy.lJ s) 82)).cell;have gA:=(bI.o.mg.grow lH).own;have hz3:w.heap.size+2≤w3.heap.size:=(by have:=lH.size;have:=bI.o.hM;have:=bI.o.hO;omega);have hgx:Grow (wr.alloc (.cells (cx.lJ s) 82)) w3:=(ah _).drew.trans hg3
    try go_simp
    refine aV hK (qq.o _ hgx) (fun hHeld=>?_);clear hK K;refine aj 7 ?_;refine b_ [8] ?_;refine bl rfl (fun K hK=>?_) bZ;go_simp;refine aV hK (qq.o _ (hgx.alloc _)) (fun hHeld=>?_);clear hK K;refine b_ [9] ?_;refine bl rfl (fun K hK=>?_) bZ;refine jP (by rfl) (.tmp 51) (.tmp 58) 25 25 (by rfl) (w.heap.size+2) 82 j0 _ 6 104 Am NW.o NY.o NZ.o N0.o (by rfl) (.slice AF fs.length nz) fs.length (cellsOf sY fs) (by rfl) (EC gA _) _ 1 (sY s++cy.cells.toList) (by rfl) (Src.N6 s cy _) (by omega) (by simp only[maxLen];omega) (by simp;omega) ?_;intro A4 c4 w4 tq mh tu;have hB4:=pE (g_.o.alloc _) mh (fun k hk=>(bI.o.wU k hk).1);have gf:=hB4.cell;have h_:=hB4.frozen
    have tA:=aa (pE ((Fx.o.grow hgx).alloc _) mh (fun k hk=>by have:=(bI.o.mg.nv hk).2;omega));refine aV hK (tA.o.cell) (fun hHeld=>?_);clear hK K;refine aj 10 ?_;refine b_ [11] ?_;refine bl rfl (fun K hK=>?_) bZ;go_simp;refine aV hK (Blk.cell (tA.o.far (by show wr.heap.size≠gO;have:=bI.o.hM;have:=bI.o.hO;omega) _)) (fun hHeld=>?_);clear hK K;have cN:=aa (bI.o.NP (s:=s) lH (m0:=wr.heap.size+1) (by omega) (by have:=hg3.size;simpa using this) (by simpa using vq) tq mh tu);refine cz ?_;clear hB4 hc3 CT gf h_ vq hg3 gA tq mh tu lH g_ rE oh e0 e1 e2 e3 e4 jT tA hgx hHeld;go_wp2_with fail;go_roundg N4;have hn:(fs++[(⟨s,f[j].2,cy,wr.heap.size+1,w3.heap.size⟩:VE)]).length=fs.length+1:=by simp
    exact⟨j+1,fs++[⟨s,f[j].2,cy,wr.heap.size+1,w3.heap.size⟩],A4,c4,by omega,by omega,by go_num,by rw[hn,N5.o],NQ dC JW.o (by rw[← CV.o]),fun x hx=>by
     rcases qV.1 hx with hx | hx
     ·exact tz.o x hx
     rw[uP] at hx;subst hx;exact iA,by rw[hn];exact cN.o⟩
    omega
   refine bl rfl (fun K hK=>?_) bZ;go_simp;refine HC.o.mono ?_;rintro e w3 ⟨cy,rfl,vq,hg3⟩;have lH:=bV.o.trans hg3;have g_:=aa (bI.o.xq.grow lH);have hc3:=g_.o.cell;have CT:=(g_.o.alloc (.cells (cy.lJ s) 82)).cell;have gA:=(bI.o.mg.grow lH).own;have hz3:w.heap.size+2≤w3.heap.size:=(by have:=lH.size;have:=bI.o.hM;have:=bI.o.hO;omega);have hgx:Grow (wr.alloc (.cells (cx.lJ s) 82)) w3:=(ah _).drew.trans hg3
   try go_simp
   refine aV hK (qq.o _ hgx) (fun hHeld=>?_);clear hK K;refine aj 7 ?_;refine b_ [1,8] ?_;refine bl rfl (fun K hK=>?_) ?_
   ·go_simp;refine aV hK (qq.o _ hgx) (fun hHeld=>?_);clear hK K;refine b_ [8] ?_;refine bl rfl (fun K hK=>?_) bZ;go_simp;refine aV hK (qq.o _ (hgx.alloc _)) (fun hHeld=>?_);clear hK K;refine b_ [9] ?_;refine bl rfl (fun K hK=>?_) bZ;refine jP (by rfl) (.tmp 51) (.tmp 58) 25 25 (by rfl) (w.heap.size+2) 82 j0 _ 6 104 Am NW.o NY.o NZ.o N0.o (by rfl) (.slice AF fs.length nz) fs.length (cellsOf sY fs) (by rfl) (EC gA _) _ 1 (sY s++cy.cells.toList) (by rfl) (Src.N6 s cy _) (by omega) (by simp only[maxLen];omega) (by simp;omega) ?_;intro A4 c4 w4 tq mh tu;have hB4:=pE (g_.o.alloc _) mh (fun k hk=>(bI.o.wU k hk).1);have gf:=hB4.cell;have h_:=hB4.frozen
    have tA:=aa (pE ((Fx.o.grow hgx).alloc _) mh (fun k hk=>by have:=(bI.o.mg.nv hk).2;omega));refine aV hK (tA.o.cell) (fun hHeld=>?_);clear hK K;refine aj 10 ?_;refine b_ [11] ?_;refine bl rfl (fun K hK=>?_) bZ;go_simp;refine aV hK (Blk.cell (tA.o.far (by show wr.heap.size≠gO;have:=bI.o.hM;have:=bI.o.hO;omega) _)) (fun hHeld=>?_);clear hK K;have cN:=aa (bI.o.NP (s:=s) lH (m0:=wr.heap.size+1) (by omega) (by have:=hg3.size;simpa using this) (by simpa using vq) tq mh tu);refine cz ?_;clear hB4 hc3 CT gf h_ vq hg3 gA tq mh tu lH g_ rE oh e0 e1 e2 e3 e4 jT tA hgx hHeld;go_wp2_with fail;go_roundg N4;have hn:(fs++[(⟨s,f[j].2,cy,wr.heap.size+1,w3.heap.size⟩:VE)]).length=fs.length+1:=by simp
    exact⟨j+1,fs++[⟨s,f[j].2,cy,wr.heap.size+1,w3.heap.size⟩],A4,c4,by omega,by omega,by go_num,by rw[hn,N5.o],NQ dC JW.o (by rw[← CV.o]),fun x hx=>by
     rcases qV.1 hx with hx | hx
     ·exact tz.o x hx
     rw[uP] at hx;subst hx;exact iA,by rw[hn];exact cN.o⟩
    omega
   refine bl rfl (fun K hK=>?_) bZ;go_simp;refine aV hK (qq.o _ (hgx.alloc _)) (fun hHeld=>?_);clear hK K;refine b_ [1] ?_;refine bl rfl (fun K hK=>?_) bZ;go_simp;refine aV hK (qq.o _ (hgx.alloc _)) (fun hHeld=>?_);clear hK K;refine b_ [9] ?_;refine bl rfl (fun K hK=>?_) bZ;refine jP (by rfl) (.tmp 51) (.tmp 58) 25 25 (by rfl) (w.heap.size+2) 82 j0 _ 6 104 Am NW.o NY.o NZ.o N0.o (by rfl) (.slice AF fs.length nz) fs.length (cellsOf sY fs) (by rfl) (EC gA _) _ 1 (sY s++cy.cells.toList) (by rfl) (Src.N6 s cy _) (by omega) (by simp only[maxLen];omega) (by simp;omega) ?_;intro A4 c4 w4 tq mh tu;have hB4:=pE (g_.o.alloc _) mh (fun k hk=>(bI.o.wU k hk).1);have gf:=hB4.cell;have h_:=hB4.frozen
   have tA:=aa (pE ((Fx.o.grow hgx).alloc _) mh (fun k hk=>by have:=(bI.o.mg.nv hk).2;omega));refine aV hK (tA.o.cell) (fun hHeld=>?_);clear hK K;refine aj 10 ?_;refine b_ [11] ?_;refine bl rfl (fun K hK=>?_) bZ;go_simp;refine aV hK (Blk.cell (tA.o.far (by show wr.heap.size≠gO;have:=bI.o.hM;have:=bI.o.hO;omega) _)) (fun hHeld=>?_);clear hK K;have cN:=aa (bI.o.NP (s:=s) lH (m0:=wr.heap.size+1) (by omega) (by have:=hg3.size;simpa using this) (by simpa using vq) tq mh tu);refine cz ?_;clear hB4 hc3 CT gf h_ vq hg3 gA tq mh tu lH g_ rE oh e0 e1 e2 e3 e4 jT tA hgx hHeld;go_wp2_with fail;go_roundg N4;have hn:(fs++[(⟨s,f[j].2,cy,wr.heap.size+1,w3.heap.size⟩:VE)]).length=fs.length+1:=by simp
   exact⟨j+1,fs++[⟨s,f[j].2,cy,wr.heap.size+1,w3.heap.size⟩],A4,c4,by omega,by omega,by go_num,by rw[hn,N5.o],NQ dC JW.o (by rw[← CV.o]),fun x hx=>by
    rcases qV.1 hx with hx | hx
    ·exact tz.o x hx
    rw[uP] at hx;subst hx;exact iA,by rw[hn];exact cN.o⟩
   omega
  obtain rfl:j=f.length:=by omega
  have UA:fs.map (fun x=>(x.s,x.v))=f:=by rw[JW.o,fC]
  have rE:=bI.o.xq.cell;have hrc:=bI.o.res.cell;have hrf:=bI.o.res.frozen;have HE:=aa (bI.o.done tz.o h1 h2 h3 (by omega) (by omega) (by omega) rfl);rw[ab6.o,UA] at HE;have HRS:=aa bI.o.res;clear UA CU;go_wp2_with fail;refine gK (ab7 (F:=f42) (vb:=w.heap.size+1) rfl rfl ⟨k,n,A,b.length,cC,AL,es.length,og,AF,fs.length,nz⟩ (vp (c:=⟨k,n,A,b.length,cC,AL,es.length,og,AF,fs.length,nz⟩) HRS.o)) rfl ?_;exact HE.o
end
section
open Go.RowKit Go.Shelf
def kM:V→List ByteArray→Option V
 | v,[]=>some v
 | v,s::r=>(jd v s).bind fun u=>kM u r
def vr:ByteArray:=⟨#[46]⟩
def nD(s:ByteArray):List ByteArray:=Lib.splitB vr 0 (Lib.countB s vr) s
def gB(v:V)(s:ByteArray):Option V:=if v.good=0 then (if s.toList=[] then some v else kM v (nD s)) else none
def kO(w:World):Prop:=∃m,w.cell? ⟨2,0,none⟩=some (.int .i64 m)∧2<w.heap.size
theorem kO.grow{w w':World}(h:kO w)(hg:Grow w w'):kO w':=by
 obtain⟨m,h1,h2⟩:=h;exact⟨m,(hg.below.cell h2).trans h1,cU h2 hg.size⟩
theorem UB(s:ByteArray):(nD s).length=Lib.countB s vr+1:=Lib.splitB_all vr (by decide) 0 _ s rfl
theorem ab8(s:ByteArray)(w:World)(hM:kO w)(hs:s.size<4294967281):Calls prog 47 #[.string s,.string vr] w fun e w' =>
 e=.returned (.slice (some ⟨w.heap.size,0,none⟩) (nD s).length (nD s).length)∧w'=w.alloc (.cells ((nD s).map Value.string).toArray 9):=by
 obtain⟨m,h1,h2⟩:=hM;rw[UB];exact Any.strings_Split (P:=prog) { N7 with } N7.i9 s vr m w hs h1 (by decide)
theorem ab9{v u:V}{s:ByteArray}(h:jd v s=some u)(hs:v.nC):u.nC:=by
 obtain⟨k,n,b,l,f⟩:=v;rw[V.NR] at hs;obtain⟨-,-,-,hl,hf⟩:=hs;by_cases hk:k=7
 ·subst hk;rw[yF] at h;split at h
  ·exact hl _ (yn h)
  cases h
 rw[vt hk] at h;obtain⟨x,hx,rfl⟩:=Ck.1 h;exact hf _ (Cl hx)
theorem Blk.Fy{W:World}{b vb:Nat}{t:TypeId}{cs:Array Value}(h:Blk W b t cs)(hne:b≠vb)(c:Cv):Blk (qj W vb c) b t cs:=
 ((((h.far (p:=⟨vb,0,none⟩) hne _).far (p:=⟨vb,1,none⟩) hne _).far (p:=⟨vb,2,none⟩) hne _).far (p:=⟨vb,3,none⟩) hne _).far (p:=⟨vb,4,none⟩) hne _
theorem N8{α:Type}(g:α→List UInt8):∀(l:List α) (x:α),x∈l→(g x).length≤((l.map g).flatten).length
 | y::r,x,h=>by
  rw[eW,l5,bD];rcases iw.1 h with h | h
  ·rw[h];omega
  have:=N8 g r x h;omega
theorem ab_(v:V):v.formed=true→v.bytes.length≤1000000000→v.nC:=by
 refine V.ind (p:=fun v=>v.formed=true→v.bytes.length≤1000000000→v.nC) (fun k n b l f ihl UC hf hb=>?_) v;have hc:=count_le (V.mk k n b l f) hf;rw[u6] at hc;have h1:l.length≤(l.map V.count).sum:=by
  clear ihl hf hb hc
  induction l with
  | nil=>simp
  | cons x r ih=>have:=Ab x;simp only[eW,pc,aU];omega
 have h2:f.length≤(f.map fun x=>x.2.count).sum:=by
  clear UC hf hb hc
  induction f with
  | nil=>simp
  | cons x r ih=>have:=Ab x.2;simp only[eW,pc,aU];omega
 rw[rh] at hf;simp only[gV,nU,iy] at hf;have ho:=hf.1.1.1;unfold V.own at ho;simp only[gV,iy] at ho;rw[iT] at hb hc;rw[V.NR];refine⟨?_,by omega,by omega,fun x hx=>ihl x hx (hf.1.1.2 x hx) ?_,fun x hx=>UC x hx (hf.1.2 x hx).2 ?_⟩
 ·by_cases hk:k=5∨k=6
  ·rw[ai (by omega),ai (by omega),ar hk] at hb;simp only[aU,bD] at hb;omega
  omega
 ·have h7:k=7:=by
   rcases ho.1.2 with h | h
   ·exact h
   rw[zQ.1 h] at hx;simp at hx
  subst h7;have hm:=N8 V.bytes l x hx;simp at hb;have hb2:(l.map V.bytes).flatten.length≤1000000000:=by simp only[EG,kG];omega
  omega
 have h8:k=8:=by
  rcases ho.2 with h | h
  ·exact h
  rw[zQ.1 h] at hx;simp at hx
 subst h8;have hm:=N8 (fun x:ByteArray×V=>V.item x.1 x.2.bytes) f x hx;have hi:(V.item x.1 x.2.bytes).length=x.1.size+x.2.bytes.length+1:=by rw[V.item];simp
 have hb2:(f.map fun x:ByteArray×V=>V.item x.1 x.2.bytes).flatten.length≤1000000000:=by
  rw[ai (by decide),ai (by decide),ai (by decide),ai (by decide),ar rfl] at hb;simp only[aU] at hb;omega
 omega
theorem JY{v:V}(h:v.good=0):v.nC:=ab_ v (mJ h).1 (by have:=(mJ h).2;omega)
theorem aca(v:V)(s:ByteArray)(c:Cv)(w:World)(hT:eo w)(eP:v.count≤20000)(hv:In w v c)(hgd:v.good≠0) :
 Calls prog 21 #[c.agg,.string s] w (tB w (gB v s)):=by
 have hg0:=((ah w).alloc (.cells c.cells 27)).alloc (.cells Cv.zero.cells 27);have aP:=aa hg0;have au:=aa (df (w:=w.alloc (.cells c.cells 27)) (g:=w.heap.size+1) (by simp) 27 Cv.zero.cells);have CW:=aa (N9 v _ c eP (hT.grow hg0) (hv.grow hg0));clear hg0 hT eP hv;rw[gB];rw[ai hgd];obtain⟨g,hg⟩:∃g,v.good=g:=⟨_,rfl⟩;rw[hg] at hgd CW;have hgz:(g==0)=false:=by simpa using hgd
 clear hgd hg;go_enter func21,ntmps21;go_wp2_with fail;refine CW.o.mono ?_;rintro e w1 ⟨rfl,hg⟩;have aN:=aa (aP.o.trans hg);have rG:=aa (au.o.grow hg);have gf:=rG.o.cell;have Fz:=rG.o.lt;have wP:=rG.o.frozen;clear hg;go_wp2_with fail;refine gK (pG rfl rfl rfl Cv.zero (CX (c:=Cv.zero) rG.o)) rfl (tB.no rfl (aN.o.mf (fg _) Cv.zero))
theorem acb(v:V)(s:ByteArray)(c:Cv)(w:World)(hT:eo w)(hM:kO w)(eP:v.count≤20000)(hs:s.size<4294967281)(hv:In w v c)(hgd:v.good=0) :
 Calls prog 21 #[c.agg,.string s] w (tB w (gB v s)):=by
 have hg0:=((ah w).alloc (.cells c.cells 27)).alloc (.cells Cv.zero.cells 27);have aP:=aa hg0;have aG:=aa ((aH w 27 c.cells).alloc (.cells Cv.zero.cells 27));have au:=aa (df (w:=w.alloc (.cells c.cells 27)) (g:=w.heap.size+1) (by simp) 27 Cv.zero.cells);have CW:=aa (N9 v _ c eP (hT.grow hg0) (hv.grow hg0));have HCp:=aa (JT v (JY hgd));have HSm:=aa (JY hgd);have HM:=aa (hM.grow hg0);have HV:=aa hv;have HS:=aa hs;clear hg0 hv hT hM eP hs;rw[gB];rw[ar hgd];rw[hgd] at CW;clear hgd;by_cases om:s.toList=[]
 ·rw[ar om];go_enter func21,ntmps21;go_wp2_with fail;refine CW.o.mono ?_;rintro e w1 ⟨rfl,hg⟩;have aN:=aa (aP.o.trans hg);have je:=aa (aG.o.grow hg);have rG:=aa (au.o.grow hg);have hc2:=je.o.cell;have gf:=rG.o.cell;have HV1:=aa (HV.o.grow aN.o);clear hg;go_wp2_with fail;refine(HCp.o _ _ HV1.o).mono ?_;rintro e w2 ⟨x,rfl,hx,hg2⟩;have HX:=aa hx;have HG2:=aa (aN.o.trans hg2);have pH:=aa (rG.o.lt);have wW:=aa (rG.o.grow hg2);have acd:=wW.o.cell;have ace:=wW.o.lt;have acf:=wW.o.frozen;clear hx hg2 hc2 gf;go_wp2_with fail;refine gK (pG rfl rfl rfl x (vp (c:=x) wW.o)) rfl (tB.yes rfl (HG2.o.mf (fg _) x) (aN.o.size) (UD HX.o.CY pH.o x))
 rw[ai om];have acg:s.toList.isEmpty=false:=by simpa using om
 go_enter func21,ntmps21;go_wp2_with fail;refine CW.o.mono ?_;rintro e w1 ⟨rfl,hg⟩;have aN:=aa (aP.o.trans hg);have je:=aa (aG.o.grow hg);have rG:=aa (au.o.grow hg);have hc2:=je.o.cell;have gf:=rG.o.cell;have HSp:=aa (ab8 s w1 (HM.o.grow hg) HS.o);clear hg;go_wp2_with fail;refine HSp.o.mono ?_;rintro e wS ⟨rfl,CZ⟩;have lK:=aa (show w1.heap.size<wS.heap.size by rw[CZ];simp);have kg:=aa (aN.o.trans (show Grow w1 wS by rw[CZ];exact(ah w1).alloc _));have ach:=aa (je.o.grow (show Grow w1 wS by rw[CZ];exact(ah w1).alloc _));have aci:=aa (rG.o.grow (show Grow w1 wS by rw[CZ];exact(ah w1).alloc _));have jU:=aa (show Blk wS w1.heap.size 9 ((nD s).map Value.string).toArray by rw[CZ];exact aH w1 _ _);have JZ:=aa (rG.o.lt)
 clear hc2 gf CZ;have hnl:(nD s).length≤4294967282:=by
  have:=Lib.countB_le vr (by decide) s.size s (av _);have:=HS.o;rw[UB];omega
 obtain⟨ns,hns⟩:∃ns,nD s=ns:=⟨_,rfl⟩;rw[hns] at jU hnl ⊢;obtain⟨nb,hnb⟩:∃nb,w1.heap.size=nb:=⟨_,rfl⟩;rw[hnb] at jU lK JZ ⊢;have cj:=aa hns;clear hns hnb;go_wp2_with fail;go_loopg [7,8,20] (ns.length+1) (fun gk x y i wr=>∃(j:Nat) (u:V) (cu:Cv),j≤ns.length∧gk+j=ns.length+1∧i=.int .i64 j∧kM v ns=kM u (ns.drop j)∧u.nC∧In w u cu∧Grow w wr ∧
  Blk wr w.heap.size 27 cu.cells∧Blk wr (w.heap.size+1) 27 Cv.zero.cells∧Blk wr nb 9 (ns.map Value.string).toArray)
 exact⟨0,v,c,by omega,by omega,rfl,rfl,HSm.o,HV.o,kg.o,ach.o,aci.o,jU.o⟩;obtain⟨j,u,cu,hj,iB,rfl,hp,UE,hu,hw,h2,h4,hN⟩:=hrel;have HP:=aa hp;have UF:=aa UE;have HU:=aa hu;have HW:=aa hw;have H2:=aa h2;have H4:=aa h4;have HN:=aa hN;have hc2:=h2.cell;have gf:=h4.cell;have hcn:=hN.cell;obtain⟨gk',rfl⟩:=bP gk (by omega);clear hp UE hu hw h2 h4 hN;by_cases hlt:j<ns.length
 ·have dC:=HN.o.lt;go_wp2_with fail;refine(acj u ns[j] cu w wr HW.o HU.o).mono ?_;rintro e w2 ⟨hg2,x,t,u2,rfl,hx,hh⟩;have HX:=aa hx;have HG2:=aa (HW.o.trans hg2);have J0:=aa (H2.o.grow hg2);have FA:=aa (H4.o.grow hg2);have wX:=aa (HN.o.grow hg2);have hcb:=J0.o.cell;have C0:=J0.o.lt;have hzb:=J0.o.frozen;clear hg2 hc2 gf hcn hx;rcases hh with ⟨hy,rfl⟩ | ⟨hn,rfl,-,-⟩
  ·have HY:=aa hy;clear hy;go_wp2_with fail;go_roundg gk';refine⟨j+1,u2,x,by omega,by omega,by go_num,?_,ab9 HY.o UF.o,HX.o,HG2.o.mf (av _) x,vp (c:=x) J0.o,FA.o.Fy (by omega) x,wX.o.Fy (by have:=JZ.o;omega) x⟩;rw[HP.o,yg hlt];show (jd u ns[j]).bind _=_;rw[HY.o];rfl;omega
  have HY:=aa (show kM v (nD s)=none by
   rw[cj.o,HP.o,yg hlt];show (jd u ns[j]).bind _=_;rw[hn];rfl)
  clear hn;have H4b:=aa (FA.o.Fy (vb:=w.heap.size) (by omega) x);have hcd:=FA.o.cell;have alH:=FA.o.lt;have hzd:=FA.o.frozen;go_wp2_with fail;refine gK (pG rfl rfl rfl Cv.zero (CX (c:=Cv.zero) H4b.o)) rfl (tB.no HY.o ((HG2.o.mf (av _) x).mf (fg _) Cv.zero))
 obtain rfl:j=ns.length:=by omega
 go_wp2_with fail;refine(JT u UF.o _ _ (HU.o.grow HW.o)).mono ?_;rintro e w2 ⟨x,rfl,hx,hg2⟩;have HX:=aa hx;have HG2:=aa (HW.o.trans hg2);have pH:=aa (H4.o.lt);have wW:=aa (H4.o.grow hg2);have acd:=wW.o.cell;have ace:=wW.o.lt;have acf:=wW.o.frozen;clear hx hg2 hc2 gf hcn;have HY:=aa (show kM v (nD s)=some u by
  rw[cj.o,HP.o,List.drop_length];rfl)
 go_wp2_with fail;refine gK (pG rfl rfl rfl x (vp (c:=x) wW.o)) rfl (tB.yes HY.o (HG2.o.mf (fg _) x) (HW.o.size) (UD HX.o.CY pH.o x))
theorem ack(v:V)(s:ByteArray)(c:Cv)(w:World)(hT:eo w)(hM:kO w)(eP:v.count≤20000)(hs:s.size<4294967281)(hv:In w v c) :
 Calls prog 21 #[c.agg,.string s] w (tB w (gB v s)):=by
 by_cases hgd:v.good=0
 ·exact acb v s c w hT hM eP hs hv hgd
 exact aca v s c w hT eP hv hgd
end
end Go.Proofs.YtndjopkdbdcmdaaGreatDoor
