/- Part 9 of the proof of pfinds_card. -/
import Derived.Test.YtndjopkdbdcmdaaGreatDoorPfi7
import Derived.Deep.DeepCutAuto
set_option linter.unusedVariables false
set_option linter.unusedSimpArgs false
set_option maxRecDepth 100000
set_option maxHeartbeats 12800000
open Go.Proofs.Tryz
namespace Go.Proofs.YtndjopkdbdcmdaaGreatDoor
section
open Go.RowKit Go.Shelf Go.WideShapes
theorem Qi(S:Nat)(hS:S≤1000000000):∃cur:Array Value,cur.size=S*5∧∀w:World,(Instr.makeSlice 24 (.int .i64 0) (.int .i64 (S:Int))).run prog w=.ok (.slice (some ⟨w.heap.size,0,none⟩) 0 S) (w.alloc (.cells cur 27)):=by
 obtain⟨i0,hi0,hz0,hz1,hz2⟩:=info_parts oO;refine⟨madeCells (Value.agg #[.int .i64 0,.int .u64 0,.slice none 0 0,.slice none 0 0,.slice none 0 0]).cells (S*i0.size),?_,fun w=>?_⟩
 ·rw[hz1];simp[madeCells]
 have h:=run_make (P:=prog) (w:=w) 24 27 i0 _ jv hi0 hz0 .i64 .i64 0 (S:Int) (by omega) (by omega) (by rw[hz2];omega) (by omega);exact h
theorem alx(S:Nat)(hS:S≤1000000000):∃cur:Array Value,cur.size=S*6∧∀w:World,(Instr.makeSlice 25 (.int .i64 0) (.int .i64 (S:Int))).run prog w=.ok (.slice (some ⟨w.heap.size,0,none⟩) 0 S) (w.alloc (.cells cur 82)):=by
 obtain⟨i0,hi0,hz0,hz1,hz2⟩:=info_parts abk;refine⟨madeCells (Value.agg #[.string ⟨#[]⟩,.int .i64 0,.int .u64 0,.slice none 0 0,.slice none 0 0,.slice none 0 0]).cells (S*i0.size),?_,fun w=>?_⟩
 ·rw[hz1];simp[madeCells]
 have h:=run_make (P:=prog) (w:=w) 25 82 i0 _ Bc hi0 hz0 .i64 .i64 0 (S:Int) (by omega) (by omega) (by rw[hz2];omega) (by omega);exact h
theorem aly{W:World}{base n c:Nat}{A:Option Addr}{xs:List UInt8}(h:Row W base (.slice A n c) n xs):n≤c:=by
 rcases h.2 with ⟨hv,h0⟩ | ⟨g,cap',cur,hv,_,_,hc,_⟩
 ·omega
 injection hv with _ _ e;omega
theorem alz{W:World}{base n c:Nat}{A:Option Addr}{xs:List UInt8}(h:Row W base (.slice A n c) n xs):Reads (fun p u=>CF W p u∧base≤p.block∧p.block<W.heap.size) 1 A n (bT xs):=by
 have hl:xs.length=n:=by simpa [bT] using h.1
 refine⟨by rw[FP,rM,hl],fun hn=>?_⟩;obtain⟨g,cap,hv,hb,hlt⟩:=World.ownsRow.form h (by omega);have hA:A=some ⟨g,0,none⟩:=by injection hv
 subst hA;refine⟨g,0,rfl,fun j u hu=>⟨⟨?_,Kf h _⟩,hb,hlt⟩⟩;have:=J8 h (g:=g) rfl j u hu;rwa [add_lit] at this
def gT(W0:World)(b:List UInt8)(nL nF:Nat)(b1 b2 b3 b4 b5:Bool)(x1 x2 x3 x4 x5:Value)(W:World):Prop:=
 ∃g1 g3 g4 g5:Nat,Grow W0 W∧(b2=true→b1=true) ∧
 (b1=true→b2=false→x1=.slice (some ⟨g1,0,none⟩) 0 b.length∧Row W W0.heap.size (.slice (some ⟨g1,0,none⟩) 0 b.length) 0 []) ∧
 (b2=true→∃A c,x2=.slice A b.length c∧Row W W0.heap.size (.slice A b.length c) b.length b∧Value.ownBlock (.slice A b.length c)=some g1) ∧
 (b3=true→x3=.slice (some ⟨g3,0,none⟩) 0 nL∧W.ownsRow W0.heap.size 27 5 (.slice (some ⟨g3,0,none⟩) 0 nL) 0 []) ∧
 (b4=true→x4=.slice (some ⟨g4,0,none⟩) 0 nF∧W.ownsRow W0.heap.size 82 6 (.slice (some ⟨g4,0,none⟩) 0 nF) 0 []) ∧
 (b5=true→x5=.pointer (some ⟨g5,0,none⟩)∧Blk W g5 27 #[.int .i64 0,.int .u64 0,.slice none 0 0,.slice none 0 0,.slice none 0 0]∧W0.heap.size≤g5) ∧
 ((b1=true→g1<W.heap.size)∧(b3=true→g3<W.heap.size)∧(b4=true→g4<W.heap.size)∧(b5=true→g5<W.heap.size)) ∧
 ((b1=true→b3=true→g1≠g3)∧(b1=true→b4=true→g1≠g4)∧(b1=true→b5=true→g1≠g5)∧(b3=true→b4=true→g3≠g4)∧(b3=true→b5=true→g3≠g5)∧(b4=true→b5=true→g4≠g5))
theorem gT.grow{W0 W:World}{b:List UInt8}{nL nF:Nat}{b1 b2 b3 b4 b5:Bool}{x1 x2 x3 x4 x5:Value}(h:gT W0 b nL nF b1 b2 b3 b4 b5 x1 x2 x3 x4 x5 W):Grow W0 W:=by
 obtain⟨g1,g3,g4,g5,hg,_⟩:=h;exact hg
theorem gT.le{W0 W:World}{b:List UInt8}{nL nF:Nat}{b1 b2 b3 b4 b5:Bool}{x1 x2 x3 x4 x5:Value}(h:gT W0 b nL nF b1 b2 b3 b4 b5 x1 x2 x3 x4 x5 W):b2=true→b1=true:=by
 obtain⟨g1,g3,g4,g5,_,h,_⟩:=h;exact h
theorem gT.made{W0 W:World}{b:List UInt8}{nL nF:Nat}{b3 b4 b5:Bool}{x1 x2 x3 x4 x5:Value}(h:gT W0 b nL nF true false b3 b4 b5 x1 x2 x3 x4 x5 W):∃g,x1=.slice (some ⟨g,0,none⟩) 0 b.length∧Row W W0.heap.size (.slice (some ⟨g,0,none⟩) 0 b.length) 0 []:=by
 obtain⟨g1,g3,g4,g5,_,_,h,_⟩:=h;exact⟨g1,h rfl rfl⟩
theorem gT.alloc{W0 W:World}{b:List UInt8}{nL nF:Nat}{b1 b2 b3 b4 b5:Bool}{x1 x2 x3 x4 x5:Value}{g1 g3 g4 g5:Nat}(o:Obj)
 (h1:b1=true→b2=false→x1=.slice (some ⟨g1,0,none⟩) 0 b.length∧Row W W0.heap.size (.slice (some ⟨g1,0,none⟩) 0 b.length) 0 [])
 (h2:b2=true→∃A c,x2=.slice A b.length c∧Row W W0.heap.size (.slice A b.length c) b.length b∧Value.ownBlock (.slice A b.length c)=some g1)
 (h3:b3=true→x3=.slice (some ⟨g3,0,none⟩) 0 nL∧W.ownsRow W0.heap.size 27 5 (.slice (some ⟨g3,0,none⟩) 0 nL) 0 [])
 (h4:b4=true→x4=.slice (some ⟨g4,0,none⟩) 0 nF∧W.ownsRow W0.heap.size 82 6 (.slice (some ⟨g4,0,none⟩) 0 nF) 0 [])
 (h5:b5=true→x5=.pointer (some ⟨g5,0,none⟩)∧Blk W g5 27 #[.int .i64 0,.int .u64 0,.slice none 0 0,.slice none 0 0,.slice none 0 0]∧W0.heap.size≤g5) :
 (b1=true→b2=false→x1=.slice (some ⟨g1,0,none⟩) 0 b.length∧Row (W.alloc o) W0.heap.size (.slice (some ⟨g1,0,none⟩) 0 b.length) 0 []) ∧
 (b2=true→∃A c,x2=.slice A b.length c∧Row (W.alloc o) W0.heap.size (.slice A b.length c) b.length b∧Value.ownBlock (.slice A b.length c)=some g1) ∧
 (b3=true→x3=.slice (some ⟨g3,0,none⟩) 0 nL∧(W.alloc o).ownsRow W0.heap.size 27 5 (.slice (some ⟨g3,0,none⟩) 0 nL) 0 []) ∧
 (b4=true→x4=.slice (some ⟨g4,0,none⟩) 0 nF∧(W.alloc o).ownsRow W0.heap.size 82 6 (.slice (some ⟨g4,0,none⟩) 0 nF) 0 []) ∧
 (b5=true→x5=.pointer (some ⟨g5,0,none⟩)∧Blk (W.alloc o) g5 27 #[.int .i64 0,.int .u64 0,.slice none 0 0,.slice none 0 0,.slice none 0 0]∧W0.heap.size≤g5):=
 ⟨fun e e'=>⟨(h1 e e').1,(h1 e e').2.alloc o⟩,fun e=>(by obtain⟨A,c,r1,r2,r3⟩:=h2 e;exact⟨A,c,r1,r2.alloc o,r3⟩),fun e=>⟨(h3 e).1,(h3 e).2.alloc o⟩,fun e=>⟨(h4 e).1,(h4 e).2.alloc o⟩,fun e=>⟨(h5 e).1,(h5 e).2.1.alloc o,(h5 e).2.2⟩⟩
theorem gT.Ai{W0 W:World}{b:List UInt8}{nL nF:Nat}{b3 b4 b5:Bool}{x1 x2 x3 x4 x5:Value}{cur:Array Value}(h:gT W0 b nL nF false false b3 b4 b5 x1 x2 x3 x4 x5 W)(nk:cur.size=b.length)(hb:b.length≤1000000000) :
 gT W0 b nL nF true false b3 b4 b5 (.slice (some ⟨W.heap.size,0,none⟩) 0 b.length) x2 x3 x4 x5 (W.alloc (.cells cur 5)):=by
 obtain⟨g1,g3,g4,g5,hg,h12,h1,h2,h3,h4,h5,⟨t1,t3,t4,t5⟩,⟨d13,d14,d15,d34,d35,d45⟩⟩:=h;have hA:Row (W.alloc (.cells cur 5)) W0.heap.size (.slice (some ⟨W.heap.size,0,none⟩) 0 b.length) 0 []:=tE W cur b.length hg.size (by simp only[maxLen];omega) (by omega);have hs:(W.alloc (.cells cur 5)).heap.size=W.heap.size+1:=by simp
 obtain⟨k1,k2,k3,k4,k5⟩:=gT.alloc (.cells cur 5) h1 h2 h3 h4 h5;refine⟨W.heap.size,g3,g4,g5,hg.alloc _,fun e=>(by cases e),fun _ _=>⟨rfl,hA⟩,fun e=>(by cases e),k3,k4,k5,⟨fun _=>?_,fun e=>?_,fun e=>?_,fun e=>?_⟩,⟨fun _ e=>?_,fun _ e=>?_,fun _ e=>?_,d34,d35,d45⟩⟩
 ·omega
 ·have:=t3 e;omega
 ·have:=t4 e;omega
 ·have:=t5 e;omega
 ·have:=t3 e;omega
 ·have:=t4 e;omega
 have:=t5 e;omega
theorem gT.Aj{W0 W W':World}{b:List UInt8}{nL nF:Nat}{b3 b4 b5:Bool}{x1 x2 x3 x4 x5:Value}{g:Nat}{A:Option Addr}{c:Nat}(h:gT W0 b nL nF true false b3 b4 b5 x1 x2 x3 x4 x5 W)(hx:x1=.slice (some ⟨g,0,none⟩) 0 b.length)
 (hown:Row W' W0.heap.size (.slice A b.length c) b.length b) (hgr:W.grownBy W' (some g)) (eG:Value.ownBlock (.slice A b.length c)=some g∨Value.ownBlock (.slice A b.length c)=some W.heap.size) :
 gT W0 b nL nF true true b3 b4 b5 x1 (.slice A b.length c) x3 x4 x5 W':=by
 obtain⟨g1,g3,g4,g5,hg,h12,h1,h2,h3,h4,h5,⟨t1,t3,t4,t5⟩,⟨d13,d14,d15,d34,d35,d45⟩⟩:=h;obtain⟨r1,r2⟩:=h1 rfl rfl;rw[hx] at r1;injection r1 with r1;injection r1 with r1;injection r1 with r1;subst r1;have hlt:=bO r2 g rfl;have hz:=hgr.size;have E9:∀{te:TypeId} {z m:Nat} {q:Nat} {n:Nat} {xs:List Value},g≠q→W.ownsRow W0.heap.size te z (.slice (some ⟨q,0,none⟩) m n) m xs→W'.ownsRow W0.heap.size te z (.slice (some ⟨q,0,none⟩) m n) m xs:=fun hne hr =>
  oI hr hgr (.inr (fun e=>hne (mU e).symm))
 obtain⟨g',hg',hl'⟩:∃g',Value.ownBlock (.slice A b.length c)=some g'∧(g'=g∨g'=W.heap.size):=by
  rcases eG with z | z
  ·exact⟨_,z,.inl rfl⟩
  exact⟨_,z,.inr rfl⟩
 have alA:=(bO hown g' hg').2;refine⟨g',g3,g4,g5,hg.grown hgr (fun k e=>by injection e with e;omega),fun _=>rfl,fun _ e=>(by cases e),fun _=>⟨A,c,rfl,hown,hg'⟩,fun e=>⟨(h3 e).1,E9 (d13 rfl e) (h3 e).2⟩,fun e=>⟨(h4 e).1,E9 (d14 rfl e) (h4 e).2⟩,fun e=>⟨(h5 e).1,qp (h5 e).2.1 hgr (fun k e2=>by injection e2 with e2;have:=d15 rfl e;omega),(h5 e).2.2⟩,⟨fun _=>alA,fun e=>?_,fun e=>?_,fun e=>?_⟩,⟨fun _ e=>?_,fun _ e=>?_,fun _ e=>?_,d34,d35,d45⟩⟩
 ·have:=t3 e;omega
 ·have:=t4 e;omega
 ·have:=t5 e;omega
 ·have:=t3 e;have:=d13 rfl e;omega
 ·have:=t4 e;have:=d14 rfl e;omega
 have:=t5 e;have:=d15 rfl e;omega
theorem gT.nM{W0 W:World}{b:List UInt8}{nL nF:Nat}{b1 b2 b4 b5:Bool}{x1 x2 x3 x4 x5:Value}{cur:Array Value}(h:gT W0 b nL nF b1 b2 false b4 b5 x1 x2 x3 x4 x5 W)(nk:cur.size=nL*5)(hn:nL≤1000000000) :
 gT W0 b nL nF b1 b2 true b4 b5 x1 x2 (.slice (some ⟨W.heap.size,0,none⟩) 0 nL) x4 x5 (W.alloc (.cells cur 27)):=by
 obtain⟨g1,g3,g4,g5,hg,h12,h1,h2,h3,h4,h5,⟨t1,t3,t4,t5⟩,⟨d13,d14,d15,d34,d35,d45⟩⟩:=h;have hA:(W.alloc (.cells cur 27)).ownsRow W0.heap.size 27 5 (.slice (some ⟨W.heap.size,0,none⟩) 0 nL) 0 []:=tE W cur nL hg.size (by simp only[maxLen];omega) (by omega);have hs:(W.alloc (.cells cur 27)).heap.size=W.heap.size+1:=by simp
 obtain⟨k1,k2,k3,k4,k5⟩:=gT.alloc (.cells cur 27) h1 h2 h3 h4 h5;refine⟨g1,W.heap.size,g4,g5,hg.alloc _,h12,k1,k2,fun _=>⟨rfl,hA⟩,k4,k5,⟨fun e=>?_,fun _=>?_,fun e=>?_,fun e=>?_⟩,⟨fun e _=>?_,d14,d15,fun _ e=>?_,fun _ e=>?_,d45⟩⟩
 ·have:=t1 e;omega
 ·omega
 ·have:=t4 e;omega
 ·have:=t5 e;omega
 ·have:=t1 e;omega
 ·have:=t4 e;omega
 have:=t5 e;omega
theorem gT.tB{W0 W:World}{b:List UInt8}{nL nF:Nat}{b1 b2 b3 b5:Bool}{x1 x2 x3 x4 x5:Value}{cur:Array Value}(h:gT W0 b nL nF b1 b2 b3 false b5 x1 x2 x3 x4 x5 W)(nk:cur.size=nF*6)(hn:nF≤1000000000) :
 gT W0 b nL nF b1 b2 b3 true b5 x1 x2 x3 (.slice (some ⟨W.heap.size,0,none⟩) 0 nF) x5 (W.alloc (.cells cur 82)):=by
 obtain⟨g1,g3,g4,g5,hg,h12,h1,h2,h3,h4,h5,⟨t1,t3,t4,t5⟩,⟨d13,d14,d15,d34,d35,d45⟩⟩:=h;have hA:(W.alloc (.cells cur 82)).ownsRow W0.heap.size 82 6 (.slice (some ⟨W.heap.size,0,none⟩) 0 nF) 0 []:=tE W cur nF hg.size (by simp only[maxLen];omega) (by omega);have hs:(W.alloc (.cells cur 82)).heap.size=W.heap.size+1:=by simp
 obtain⟨k1,k2,k3,k4,k5⟩:=gT.alloc (.cells cur 82) h1 h2 h3 h4 h5;refine⟨g1,g3,W.heap.size,g5,hg.alloc _,h12,k1,k2,k3,fun _=>⟨rfl,hA⟩,k5,⟨fun e=>?_,fun e=>?_,fun _=>?_,fun e=>?_⟩,⟨d13,fun e _=>?_,d15,fun e _=>?_,d35,fun _ e=>?_⟩⟩
 ·have:=t1 e;omega
 ·have:=t3 e;omega
 ·omega
 ·have:=t5 e;omega
 ·have:=t1 e;omega
 ·have:=t3 e;omega
 have:=t5 e;omega
theorem gT.nN{W0 W:World}{b:List UInt8}{nL nF:Nat}{b1 b2 b3 b4:Bool}{x1 x2 x3 x4 x5:Value}(h:gT W0 b nL nF b1 b2 b3 b4 false x1 x2 x3 x4 x5 W) :
 gT W0 b nL nF b1 b2 b3 b4 true x1 x2 x3 x4 (.pointer (some ⟨W.heap.size,0,none⟩)) (W.alloc (.cells #[.int .i64 0,.int .u64 0,.slice none 0 0,.slice none 0 0,.slice none 0 0] 27)):=by
 obtain⟨g1,g3,g4,g5,hg,h12,h1,h2,h3,h4,h5,⟨t1,t3,t4,t5⟩,⟨d13,d14,d15,d34,d35,d45⟩⟩:=h;have hs:(W.alloc (.cells #[.int .i64 0,.int .u64 0,.slice none 0 0,.slice none 0 0,.slice none 0 0] 27)).heap.size=W.heap.size+1:=by simp
 obtain⟨k1,k2,k3,k4,k5⟩:=gT.alloc (.cells #[.int .i64 0,.int .u64 0,.slice none 0 0,.slice none 0 0,.slice none 0 0] 27) h1 h2 h3 h4 h5;refine⟨g1,g3,g4,W.heap.size,hg.alloc _,h12,k1,k2,k3,k4,fun _=>⟨rfl,aD _ _ _,hg.size⟩,⟨fun e=>?_,fun e=>?_,fun e=>?_,fun _=>?_⟩,⟨d13,d14,fun e _=>?_,d34,fun e _=>?_,fun e _=>?_⟩⟩
 ·have:=t1 e;omega
 ·have:=t3 e;omega
 ·have:=t4 e;omega
 ·omega
 ·have:=t1 e;omega
 ·have:=t3 e;omega
 have:=t4 e;omega
theorem gT.done{W0 W:World}{b:List UInt8}{nL nF:Nat}{b1:Bool}{A:Option Addr}{c:Nat}{x1 x3 x4 x5:Value}(h:gT W0 b nL nF b1 true true true true x1 (.slice A b.length c) x3 x4 x5 W) :
 ∃g1 g3 g4 g5:Nat,x3=.slice (some ⟨g3,0,none⟩) 0 nL∧x4=.slice (some ⟨g4,0,none⟩) 0 nF∧x5=.pointer (some ⟨g5,0,none⟩)∧Grow W0 W∧Row W W0.heap.size (.slice A b.length c) b.length b∧Value.ownBlock (.slice A b.length c)=some g1 ∧
  W.ownsRow W0.heap.size 27 5 (.slice (some ⟨g3,0,none⟩) 0 nL) 0 []∧W.ownsRow W0.heap.size 82 6 (.slice (some ⟨g4,0,none⟩) 0 nF) 0 [] ∧
  Blk W g5 27 #[.int .i64 0,.int .u64 0,.slice none 0 0,.slice none 0 0,.slice none 0 0]∧W0.heap.size≤g5∧(g1≠g3∧g1≠g4∧g1≠g5∧g3≠g4∧g3≠g5∧g4≠g5):=by
 obtain⟨g1,g3,g4,g5,hg,h12,h1,h2,h3,h4,h5,_,⟨d13,d14,d15,d34,d35,d45⟩⟩:=h;have hb1:=h12 rfl;obtain⟨A',c',e,r2,r3⟩:=h2 rfl;injection e with e1 _ e2;subst e1 e2;exact⟨g1,g3,g4,g5,(h3 rfl).1,(h4 rfl).1,(h5 rfl).1,hg,r2,r3,(h3 rfl).2,(h4 rfl).2,(h5 rfl).2.1,(h5 rfl).2.2,d13 hb1 rfl,d14 hb1 rfl,d15 hb1 rfl,d34 rfl rfl,d35 rfl rfl,d45 rfl rfl⟩
def E_(W0:World)(k n:Int)(b:List UInt8)(nL nF:Nat)(p:Value)(wx:World):Prop:=
 ∃(gO g1 g3 g4:Nat) (A:Option Addr) (cB:Nat),p=.pointer (some ⟨gO,0,none⟩)∧Blk wx gO 27 #[.int .i64 k,.int .u64 n,.slice A b.length cB,.slice (some ⟨g3,0,none⟩) 0 nL,.slice (some ⟨g4,0,none⟩) 0 nF] ∧
  Row wx W0.heap.size (.slice A b.length cB) b.length b∧Value.ownBlock (.slice A b.length cB)=some g1 ∧
  wx.ownsRow W0.heap.size 27 5 (.slice (some ⟨g3,0,none⟩) 0 nL) 0 []∧wx.ownsRow W0.heap.size 82 6 (.slice (some ⟨g4,0,none⟩) 0 nF) 0 []∧Grow W0 wx∧W0.heap.size≤gO ∧
  (g1≠g3∧g1≠g4∧g1≠gO∧g3≠g4∧g3≠gO∧g4≠gO)
theorem E_.make{W0 W:World}{k n:Int}{b:List UInt8}{nL nF g1 g3 g4 gO cC:Nat}{A:Option Addr}(hg:Grow W0 W)(hC:Row W W0.heap.size (.slice A b.length cC) b.length b)(yF:Value.ownBlock (.slice A b.length cC)=some g1)
 (h3:W.ownsRow W0.heap.size 27 5 (.slice (some ⟨g3,0,none⟩) 0 nL) 0 []) (h4:W.ownsRow W0.heap.size 82 6 (.slice (some ⟨g4,0,none⟩) 0 nF) 0 [])
 (hO:Blk W gO 27 #[.int .i64 0,.int .u64 0,.slice none 0 0,.slice none 0 0,.slice none 0 0]) (vt:W0.heap.size≤gO) (hd:g1≠g3∧g1≠g4∧g1≠gO∧g3≠g4∧g3≠gO∧g4≠gO) :
 E_ W0 k n b nL nF (.pointer (some ⟨gO,0,none⟩)) (rI W gO ⟨k,n,A,b.length,cC,some ⟨g3,0,none⟩,0,nL,some ⟨g4,0,none⟩,0,nF⟩):=by
 have hs:=abj W gO ⟨k,n,A,b.length,cC,some ⟨g3,0,none⟩,0,nL,some ⟨g4,0,none⟩,0,nF⟩;refine⟨gO,g1,g3,g4,A,cC,rfl,vU hO,oI hC hs (.inr ?_),yF,oI h3 hs (.inr ?_),oI h4 hs (.inr ?_),hg.mD vt _,vt,hd⟩
 ·rw[yF];intro e;injection e with e;exact hd.2.2.1 e
 ·intro e;injection e with e;exact hd.2.2.2.2.1 e
 intro e;injection e with e;exact hd.2.2.2.2.2 e
structure rJ (w:World) (c:Cv) (M:Nat) (b:List UInt8) (gO g1:Nat) (A:Option Addr) (cB:Nat) (sL sF:Value) (jY mi:List VE) (wr:World):Prop where
 grow:Grow w wr
 src:Blk wr w.heap.size 27 c.cells
 res:Blk wr (w.heap.size+1) 27 #[.int .i64 0,.int .u64 0,.slice none 0 0,.slice none 0 0,.slice none 0 0]
 Al:Blk wr gO 27 #[.int .i64 c.k,.int .u64 c.n,.slice A b.length cB,sL,sF]
 row:Row wr (w.heap.size+2) (.slice A b.length cB) b.length b
 own:Value.ownBlock (.slice A b.length cB)=some g1
 list:ik wr 27 JR 5 (w.heap.size+2) M (w.heap.size+2) sL jY
 mO:ik wr 82 vp 6 (w.heap.size+2) M (w.heap.size+2) sF mi
 hO:w.heap.size+2≤gO∧gO≤M
 h1:g1≤M∧g1≠gO
 hM:M<wr.heap.size
 CK:∀k,sL.ownBlock=some k→k≠gO∧k≠g1
 yG:∀k,sF.ownBlock=some k→k≠gO∧k≠g1
 NC:∀k,sL.ownBlock=some k→sF.ownBlock≠some k
 Ul:∀x∈jY,∀k,sF.ownBlock=some k→¬ (x.lo≤k∧k<x.hi)
theorem ik.Um{W:World}{te:TypeId}{hd:ByteArray→List Value}{z lo vb base:Nat}{v:Value}{es:List VE}(h:ik W te hd z lo vb base v es){g:Nat}(hne:∀k,v.ownBlock=some k→k≠g)(hg:g≤vb)(i:Nat)(u:Value):ik (W.setCell ⟨g,i,none⟩ u) te hd z lo vb base v es:=
 h.kept (tz W g i u) (fun k e=>by injection e with e;subst e;exact⟨fun e2=>hne _ e2 rfl,hg⟩)
theorem rJ.alB{w:World}{c:Cv}{M:Nat}{b:List UInt8}{gO g1:Nat}{A:Option Addr}{cB:Nat}{sL vv sF:Value}{jY:List VE}{wr w3 w4:World}{o:Obj}{x:V}{cx:Cv}{m0:Nat}(h:rJ w c M b gO g1 A cB sL sF jY [] wr)(hg:Grow wr w3)(hm0:wr.heap.size≤m0)(bU:m0≤w3.heap.size)
 (hx:pc w3 m0 w3.heap.size x cx) (hown:w4.ownsRow (w.heap.size+2) 27 5 vv (jY.length+1) (cellsOf JR jY++cx.cells.toList)) (hgr:(w3.alloc o).grownBy w4 sL.ownBlock)
 (eG:vv.ownBlock=sL.ownBlock∨vv.ownBlock=some (w3.alloc o).heap.size):rJ w c M b gO g1 A cB vv sF (jY++[⟨⟨#[]⟩,x,cx,m0,w3.heap.size⟩]) [] (w4.setCell ⟨gO,3,none⟩ vv):=by
 have kr:=hg.alloc o;have hz3:(w3.alloc o).heap.size=w3.heap.size+1:=by simp
 have xC:=hgr.size;have hzg:=hg.size;have hM:=h.hM;have hO:=h.hO;have hzs:(w4.setCell ⟨gO,3,none⟩ vv).heap.size=w4.heap.size:=by simp[World.setCell]
 have hown':∀k,vv.ownBlock=some k→sL.ownBlock=some k∨k=w3.heap.size+1:=fun k e=>by
  rcases eG with q | q
  ·exact .inl (q ▸ e)
  rw[q] at e;injection e with e;exact .inr (by omega)
 have hVL:=(ik.add (s:=⟨#[]⟩) (m0:=m0) (h.list.grow hg) (fun k hk=>df (h.list.oF hk).2 hm0) (by omega) (by have:=h.grow.size;omega) (fun y hy=>bn (h.list.part y hy).2.2.2.1 hm0) hx hown hgr eG);refine⟨((h.grow.trans kr).grown hgr (fun k hk=>by have:=(h.list.oF hk).1;omega)).setCell (by show w.heap.size≤gO;omega) _,(qp (h.src.grow kr) hgr (fun k hk=>by have:=(h.list.oF hk).1;omega)).far (by show w.heap.size≠gO;omega) _,(qp (h.res.grow kr) hgr (fun k hk=>by have:=(h.list.oF hk).1;omega)).far (by show w.heap.size+1≠gO;omega) _,
  (qp (h.Al.grow kr) hgr (fun k hk=>(h.CK k hk).1)).bf 3 vv,?_,h.own,hVL.Um (fun k hk=>?_) hO.2 3 vv,?_,hO,h.h1,by omega,fun k hk=>?_,h.yG,fun k hk=>?_,fun y hy k hk=>?_⟩
 ·refine oI (oI (h.row.grow kr) hgr ?_) (tz w4 gO 3 vv) (.inr ?_)
  ·cases hs:sL.ownBlock with
   | none=>rw[h.own];simp
   | some k=>right;rw[h.own];intro e;injection e with e;exact(h.CK k hs).2 e.symm
  rw[h.own];intro e;injection e with e;exact h.h1.2 e
 ·rcases hown' k hk with q | q
  ·exact(h.CK k q).1
  omega
 ·refine⟨oI (oI (h.mO.grow kr).own hgr ?_) (tz w4 gO 3 vv) ?_,fun y hy=>by simp at hy,fun i j hi=>by simp at hi⟩
  ·cases hs:sL.ownBlock with
   | none=>cases sF.ownBlock<;>simp
   | some k=>right;exact fun e=>h.NC k hs e
  right;intro e;exact(h.yG gO e).1 rfl
 ·rcases hown' k hk with q | q
  ·exact h.CK k q
  have:=h.h1.1;omega
 ·rcases hown' k hk with q | q
  ·exact h.NC k q
  intro e;have:=(h.mO.oF e).2;omega
 have hlt:=(h.mO.oF hk).2;rcases tI.1 hy with hy | hy
 ·exact h.Ul y hy k hk
 rw[yK] at hy;subst hy;intro q;have:=q.1;dsimp only at this;omega
theorem rJ.Un{w:World}{c:Cv}{M:Nat}{b:List UInt8}{gO g1:Nat}{A:Option Addr}{cB:Nat}{sL sF vw:Value}{jY mi:List VE}{wr w3 w4:World}{o:Obj}{s:ByteArray}{x:V}{cx:Cv}{m0:Nat}(h:rJ w c M b gO g1 A cB sL sF jY mi wr)(hg:Grow wr w3)(hm0:wr.heap.size≤m0)(bU:m0≤w3.heap.size)
 (hx:pc w3 m0 w3.heap.size x cx) (hown:w4.ownsRow (w.heap.size+2) 82 6 vw (mi.length+1) (cellsOf vp mi++(vp s++cx.cells.toList))) (hgr:(w3.alloc o).grownBy w4 sF.ownBlock)
 (eG:vw.ownBlock=sF.ownBlock∨vw.ownBlock=some (w3.alloc o).heap.size):rJ w c M b gO g1 A cB sL vw jY (mi++[⟨s,x,cx,m0,w3.heap.size⟩]) (w4.setCell ⟨gO,4,none⟩ vw):=by
 have kr:=hg.alloc o;have hz3:(w3.alloc o).heap.size=w3.heap.size+1:=by simp
 have xC:=hgr.size;have hzg:=hg.size;have hM:=h.hM;have hO:=h.hO;have hzs:(w4.setCell ⟨gO,4,none⟩ vw).heap.size=w4.heap.size:=by simp[World.setCell]
 have hown':∀k,vw.ownBlock=some k→sF.ownBlock=some k∨k=w3.heap.size+1:=fun k e=>by
  rcases eG with q | q
  ·exact .inl (q ▸ e)
  rw[q] at e;injection e with e;exact .inr (by omega)
 have hVF:=(ik.add (s:=s) (m0:=m0) (h.mO.grow hg) (fun k hk=>df (h.mO.oF hk).2 hm0) (by omega) (by have:=h.grow.size;omega) (fun y hy=>bn (h.mO.part y hy).2.2.2.1 hm0) hx hown hgr eG);refine⟨((h.grow.trans kr).grown hgr (fun k hk=>by have:=(h.mO.oF hk).1;omega)).setCell (by show w.heap.size≤gO;omega) _,(qp (h.src.grow kr) hgr (fun k hk=>by have:=(h.mO.oF hk).1;omega)).far (by show w.heap.size≠gO;omega) _,(qp (h.res.grow kr) hgr (fun k hk=>by have:=(h.mO.oF hk).1;omega)).far (by show w.heap.size+1≠gO;omega) _,
  (qp (h.Al.grow kr) hgr (fun k hk=>(h.yG k hk).1)).bf 4 vw,?_,h.own,?_,hVF.Um (fun k hk=>?_) hO.2 4 vw,hO,h.h1,by omega,h.CK,fun k hk=>?_,fun k hk e=>?_,fun y hy k hk=>?_⟩
 ·refine oI (oI (h.row.grow kr) hgr ?_) (tz w4 gO 4 vw) (.inr ?_)
  ·cases hs:sF.ownBlock with
   | none=>rw[h.own];simp
   | some k=>right;rw[h.own];intro e;injection e with e;exact(h.yG k hs).2 e.symm
  rw[h.own];intro e;injection e with e;exact h.h1.2 e
 ·have ot:=h.list.grow kr;have hl4:ik w4 27 JR 5 (w.heap.size+2) M (w.heap.size+2) sL jY:=by
   refine⟨oI ot.own hgr ?_,fun y hy=>?_,ot.apart⟩
   ·cases hs:sF.ownBlock with
    | none=>cases sL.ownBlock<;>simp
    | some k=>right;exact fun e=>h.NC k e hs
   obtain⟨p1,p2,p3,p4⟩:=ot.part y hy;exact⟨p1,p2,p3,p4.blocks hgr.size (fun k hk hk'=>hgr.block k (df hk' p4.1) (fun e=>h.Ul y hy k e.symm ⟨hk,hk'⟩))⟩
  exact hl4.Um (fun k hk=>(h.CK k hk).1) hO.2 4 vw
 ·rcases hown' k hk with q | q
  ·exact(h.yG k q).1
  omega
 ·rcases hown' k hk with q | q
  ·exact h.yG k q
  have:=h.h1.1;omega
 ·rcases hown' k e with q | q
  ·exact h.NC k hk q
  have:=(h.list.oF hk).2;omega
 rcases hown' k hk with q | q
 ·exact h.Ul y hy k q
 have:=(h.list.part y hy).2.2.2.1;intro e;omega
theorem rJ.start{w W0 wx:World}{c:Cv}{b:List UInt8}{nL nF:Nat}{p:Value}(hw:Grow w W0)(hz:W0.heap.size=w.heap.size+2)(hs:Blk W0 w.heap.size 27 c.cells)(hr:Blk W0 (w.heap.size+1) 27 #[.int .i64 0,.int .u64 0,.slice none 0 0,.slice none 0 0,.slice none 0 0])
 (h:E_ W0 c.k c.n b nL nF p wx):∃gO g1 g3 g4 A cB,p=.pointer (some ⟨gO,0,none⟩)∧rJ w c (wx.heap.size-1) b gO g1 A cB (.slice (some ⟨g3,0,none⟩) 0 nL) (.slice (some ⟨g4,0,none⟩) 0 nF) [] [] wx:=by
 obtain⟨gO,g1,g3,g4,A,cB,rfl,hO,hC,yF,h3,h4,hg,vt,d13,d14,d1O,d34,d3O,d4O⟩:=h;rw[hz] at hC h3 h4 vt;have hOl:=hO.lt;have h1l:=(bO hC g1 yF).2;refine⟨gO,g1,g3,g4,A,cB,rfl,hw.trans hg,hs.grow hg,hr.grow hg,hO,hC,yF,⟨h3,fun x hx=>by simp at hx,fun i j hi=>by simp at hi⟩,⟨h4,fun x hx=>by simp at hx,fun i j hi=>by simp at hi⟩,⟨vt,by omega⟩,⟨by omega,d1O⟩,by omega,fun k hk=>?_,fun k hk=>?_,fun k hk e=>?_,fun x hx=>by simp at hx⟩
 ·have e:g3=k:=mU hk;subst e;exact⟨d3O,fun e=>d13 e.symm⟩
 ·have e:g4=k:=mU hk;subst e;exact⟨d4O,fun e=>d14 e.symm⟩
 have e1:g3=k:=mU hk;have e2:g4=k:=mU e;omega
theorem rJ.done{w:World}{k:Int}{n:Nat}{aB aL aF:Option Addr}{nB cB0 nL0 cL0 nF0 cF0:Nat}{M:Nat}{b:List UInt8}{gO g1:Nat}{A AL AF:Option Addr}{cB pD oG:Nat}{jY mi:List VE}{wr:World}(h:rJ w ⟨k,n,aB,nB,cB0,aL,nL0,cL0,aF,nF0,cF0⟩ M b gO g1 A cB (.slice AL jY.length pD) (.slice AF mi.length oG) jY mi wr)
 (hs:∀x∈mi,x.s.size≤140737488355328) (h1:-9223372036854775808≤k) (h2:k≤9223372036854775807) (hn:n<18446744073709551616) (hb:b.length≤140737488355328) (hl:jY.length≤140737488355328) (hf:mi.length≤140737488355328) {e:Ending}
 (he:e=.returned (Cv.agg ⟨k,n,A,b.length,cB,AL,jY.length,pD,AF,mi.length,oG⟩)) :
 abn w (.mk k n b (jY.map VE.v) (mi.map fun x=>(x.s,x.v))) e (rI wr (w.heap.size+1) ⟨k,n,A,b.length,cB,AL,jY.length,pD,AF,mi.length,oG⟩):=by
 subst he;have bP:=abj wr (w.heap.size+1) ⟨k,n,A,b.length,cB,AL,jY.length,pD,AF,mi.length,oG⟩;have uv:=akC wr (w.heap.size+1) ⟨k,n,A,b.length,cB,AL,jY.length,pD,AF,mi.length,oG⟩;have hO:=h.hO;have hL:=((h.list.lower (NB:=w.heap.size+1) (by omega)).kept bP (fun q e=>by injection e with e;exact⟨fun e2=>by have:=(h.list.oF e2).1;omega,by omega⟩)).akH rfl (ay _) (by omega) hl;have hF:=((h.mO.lower (NB:=w.heap.size+1) (by omega)).kept bP (fun q e=>by injection e with e;exact⟨fun e2=>by have:=(h.mO.oF e2).1;omega,by omega⟩)).akI hs rfl (ay _) (by omega) hf;have hR:Row (rI wr (w.heap.size+1) ⟨k,n,A,b.length,cB,AL,jY.length,pD,AF,mi.length,oG⟩) (w.heap.size+2) (.slice A b.length cB) b.length b:=oI h.row bP (.inr (by
  rw[h.own];intro e;injection e with e;have:=(bO h.row g1 h.own).1;omega))
 have hcapB:=aly hR;have hRd:=alz hR;generalize rI wr (w.heap.size+1) ⟨k,n,A,b.length,cB,AL,jY.length,pD,AF,mi.length,oG⟩=W at *;refine⟨⟨k,n,A,b.length,cB,AL,jY.length,pD,AF,mi.length,oG⟩,rfl,⟨ay _,?_⟩,h.grow.grown bP (fun q e=>by injection e with e;omega)⟩;rw[lu] at hL hF ⊢;obtain⟨_,_,_,l4,_,_,_,_,_,_,l11,l12,_,_,_,⟨T,FW,qG⟩,_⟩:=hL;obtain⟨_,_,_,_,f5,_,_,_,_,_,_,_,f13,f14,_,_,⟨U,hU1,hU2⟩⟩:=hF;refine⟨rfl,rfl,rfl,l4,f5,h1,h2,hn,hcapB,hb,l11,l12,f13,f14,eX (fun p u q=>⟨q.1,by have:=q.2.1;omega,q.2.2⟩) hRd,⟨T,fun i hi=>?_,qG⟩,⟨U,fun i hi=>?_,hU2⟩⟩
 ·obtain⟨bk,o,x,r1,r2,r3,r4,r5,r6⟩:=FW i hi;exact⟨bk,o,x,r1,⟨by have:=r2.1;omega,r2.2⟩,r3,fun q hq=>⟨by have:=(r4 q hq).1;omega,(r4 q hq).2⟩,kE.mono (fun _ _ z=>z.1) r5,lu.mono _ _ _ _ (fun _ _ z _=>z.1) (fun _ z=>z) r6⟩
 obtain⟨bk,o,x,r1,r2,r3,r4,r5,r6,r7,r8⟩:=hU1 i hi;exact⟨bk,o,x,r1,⟨by have:=r2.1;omega,r2.2⟩,r3,fun q hq=>⟨by have:=(r4 q hq).1;omega,(r4 q hq).2⟩,r5.1,r6,kE.mono (fun _ _ z=>z.1) r7,lu.mono _ _ _ _ (fun _ _ z _=>z.1) (fun _ z=>z) r8⟩
end
section
open Go.RowKit Go.Shelf Go.WideShapes
theorem alC{P:Program}{md:Region.Mode}{ops:Array Oper}{Q:Exit→Act→World→Prop}{S:World→Prop}(L:Bool→Bool→Bool→Bool→Bool→Array Bool)(A:Value→Value→Value→Value→Value→Act)
 (I:Bool→Bool→Bool→Bool→Bool→Value→Value→Value→Value→Value→World→Prop) {l:Array Bool} {a:Act} {W:World} {n:Nat} (hn:n=7)
 (hl:l=L false false false false false) (ha:a=A undef undef undef undef undef) (h0:I false false false false false undef undef undef undef undef W)
 (h:∀(f:Nat) b1 b2 b3 b4 b5 x1 x2 x3 x4 x5 W,f=(!b1).toNat+(!b2).toNat+(!b3).toNat+(!b4).toNat+(!b5).toNat+1→I b1 b2 b3 b4 b5 x1 x2 x3 x4 x5 W →
  (∀c1 c2 c3 c4 c5 y1 y2 y3 y4 y5 W',f=(!c1).toNat+(!c2).toNat+(!c3).toNat+(!c4).toNat+(!c5).toNat+2→I c1 c2 c3 c4 c5 y1 y2 y3 y4 y5 W'→wpAnyH P md ops Q S f (L c1 c2 c3 c4 c5) (A y1 y2 y3 y4 y5) W') →
  wpAnyH P md ops Q S (f+1) (L b1 b2 b3 b4 b5) (A x1 x2 x3 x4 x5) W):wpAnyH P md ops Q S n l a W:=by
 have key:∀(f:Nat) b1 b2 b3 b4 b5 x1 x2 x3 x4 x5 W,f=(!b1).toNat+(!b2).toNat+(!b3).toNat+(!b4).toNat+(!b5).toNat+2→I b1 b2 b3 b4 b5 x1 x2 x3 x4 x5 W→wpAnyH P md ops Q S f (L b1 b2 b3 b4 b5) (A x1 x2 x3 x4 x5) W:=by
  intro f
  induction f with
  | zero=>intro b1 b2 b3 b4 b5 x1 x2 x3 x4 x5 W e;omega
  | succ f ih =>
   intro b1 b2 b3 b4 b5 x1 x2 x3 x4 x5 W e hI;exact h f b1 b2 b3 b4 b5 x1 x2 x3 x4 x5 W (by omega) hI (fun c1 c2 c3 c4 c5 y1 y2 y3 y4 y5 W' e' h'=>ih c1 c2 c3 c4 c5 y1 y2 y3 y4 y5 W' e' h')
 subst hl ha hn;exact key 7 _ _ _ _ _ _ _ _ _ _ _ rfl h0
theorem gT.forms{W0 W:World}{b:List UInt8}{nL nF:Nat}{b1 b5:Bool}{x1 x2 x3 x4 x5:Value}(h:gT W0 b nL nF b1 true true true b5 x1 x2 x3 x4 x5 W):∃A c g3 g4,x2=.slice A b.length c∧x3=.slice (some ⟨g3,0,none⟩) 0 nL∧x4=.slice (some ⟨g4,0,none⟩) 0 nF:=by
 obtain⟨g1,g3,g4,g5,hg,h12,h1,h2,h3,h4,h5,_⟩:=h;obtain⟨A,c,e,_,_⟩:=h2 rfl;exact⟨A,c,g3,g4,e,(h3 rfl).1,(h4 rfl).1⟩
theorem alD{l:List V}{es:List VE}{j:Nat}(h:j<l.length)(e:es.map VE.v=l.take j){x:VE}(hx:x.v=l[j]):(es++[x]).map VE.v=l.take (j+1):=by
 rw[nR,e,FC,cJ h];simp[hx]
theorem Uo{f:List (ByteArray×V)}{es:List VE}{j:Nat}(h:j<f.length)(e:es.map (fun x=>(x.s,x.v))=f.take j){x:VE}(hx:(x.s,x.v)=f[j]):(es++[x]).map (fun x=>(x.s,x.v))=f.take (j+1):=by
 rw[nR,e,FC,cJ h];simp[hx]
theorem Src.Qk{w:World}{W:World}(c:Cv)(e:TypeId){g:Nat}(hg:g=w.heap.size):Src prog 5 24 (.slice (some ⟨g,0,none⟩) 1 1) 1 c.cells.toList (w.alloc (.cells c.cells e)):=by
 subst hg;exact Src.abl c e
theorem zI(v:V):v.nD→∀(w:World) (c:Cv),In w v c→Calls prog 42 #[c.agg] w (abn w v):=by
 induction v using V.ind with
 | h k n b l f hl hf =>
  intro hsm w c hv;rw[V.T_] at hsm;obtain⟨hbl,hll,hfl,hsl,hsf⟩:=hsm;have HV:=aa hv;have Hl:=aa (fun j (h:j<l.length)=>hl l[j] (aW h) (hsl l[j] (aW h)));have Hf:=aa (fun j (h:j<f.length)=>hf f[j] (aW h) (hsf f[j] (aW h)));obtain⟨aB,aL,aF,cB,cL,cF,rfl,h1,h2,h3,h4,h5,h6,h7,h8,h9,hR⟩:=hv.open;obtain⟨cur,nk,hmk⟩:=VV b.length (by omega);obtain⟨amW,rK,alE⟩:=Qi l.length hll;obtain⟨amX,rL,alF⟩:=alx f.length hfl;have hc0:=((aD w 27 (Cv.cells ⟨k,n,aB,b.length,cB,aL,l.length,cL,aF,f.length,cF⟩)).alloc (.cells Cv.zero.cells 27));have Ba:=aa hc0;have hcell:=hc0.cell
  have HS:=aa (show ∀w',Grow (((w.alloc (.cells (Cv.cells ⟨k,n,aB,b.length,cB,aL,l.length,cL,aF,f.length,cF⟩) 27)).alloc (.cells #[.int .i64 0,.int .u64 0,.slice none 0 0,.slice none 0 0,.slice none 0 0] 27)).drew) w'→∀i,w'.cell? ⟨w.heap.size,i,none⟩=(Cv.cells ⟨k,n,aB,b.length,cB,aL,l.length,cL,aF,f.length,cF⟩)[i]? from fun w' h=>(hc0.drew.grow h).cell);have jk:=aa (show ∀w',Grow w w'→Src prog 1 23 (.slice aB b.length cB) b.length (bT b) w' from fun w' h=>fe eH (bA.grow hR h) (i6 _));obtain⟨i0,hi0,hz0',hz1,hz2⟩:=info_parts FR;have gU:=aa hi0;have gV:=aa hz0';have gW:=aa hz1;have gX:=aa hz2;clear hi0 hz0' hz1 hz2 hl hf hsl hsf hv;clear hR h4 h5 h6 h7 h8 h9 hc0;go_enter func42,ntmps42;go_upto_region 1 with fail
  go_cut [3] (fun p wx=>E_ (((w.alloc (.cells (Cv.cells ⟨k,n,aB,b.length,cB,aL,l.length,cL,aF,f.length,cF⟩) 27)).alloc (.cells #[.int .i64 0,.int .u64 0,.slice none 0 0,.slice none 0 0,.slice none 0 0] 27)).drew) k n b l.length f.length p wx)
  case first =>
   refine dN ?_;refine dO (S:=fun w'=>∀i,w'.cell? ⟨w.heap.size,i,none⟩=(Cv.cells ⟨k,n,aB,b.length,cB,aL,l.length,cL,aF,f.length,cF⟩)[i]?) (by kernel_rfl) (hcell) (fun hHeld=>?_);refine aj 0 ?_;refine aj 1 ?_;refine aj 2 ?_;refine aj 3 ?_;refine aj 4 ?_;refine aj 5 ?_;refine aj 6 ?_;refine aj 8 ?_;refine aj 9 ?_;refine aj 11 ?_;refine aj 12 ?_;refine aj 13 ?_;refine aj 15 ?_;refine aj 16 ?_;refine aj 17 ?_;have rD:=aa ((((ah w).alloc (.cells (Cv.cells ⟨k,n,aB,b.length,cB,aL,l.length,cL,aF,f.length,cF⟩) 27)).alloc (.cells #[.int .i64 0,.int .u64 0,.slice none 0 0,.slice none 0 0,.slice none 0 0] 27)).drew);clear hcell hHeld Ba HV Hl Hf
   generalize hWW:((w.alloc (.cells (Cv.cells ⟨k,n,aB,b.length,cB,aL,l.length,cL,aF,f.length,cF⟩) 27)).alloc (.cells #[.int .i64 0,.int .u64 0,.slice none 0 0,.slice none 0 0,.slice none 0 0] 27)).drew=W0 at HS rD ⊢;have HWW:=aa hWW;clear hWW
   refine alC (fun b1 b2 b3 b4 b5=>#[true,true,true,true,true,true,true,b1,true,true,b2,true,true,true,b3,true,true,true,b4,false,b5,false]) (fun x1 x2 x3 x4 x5=>{ tmps:=#[(Cv.agg ⟨k,n,aB,b.length,cB,aL,l.length,cL,aF,f.length,cF⟩),.pointer (some ⟨w.heap.size,0,none⟩),.pointer (some ⟨w.heap.size+1,0,none⟩),x5,undef,undef,undef,undef,.pointer (some ⟨w.heap.size,0,none⟩),.int .i64 k,.pointer (some ⟨w.heap.size,1,none⟩),.int .u64 n,.pointer (some ⟨w.heap.size,2,none⟩),.slice aB b.length cB,.int .i64 b.length,x1,.pointer (some ⟨w.heap.size,2,none⟩),.slice aB b.length cB,x2,.pointer (some ⟨w.heap.size,3,none⟩),.slice aL l.length cL,.int .i64 l.length,x3,.pointer (some ⟨w.heap.size,4,none⟩),.slice aF f.length cF,.int .i64 f.length,x4,undef,undef,undef,undef,undef,undef,undef,undef,undef,undef,undef,undef,undef,undef,undef,undef,undef,undef,undef,undef,undef,undef,undef,undef,undef,undef,undef,undef,undef,undef,undef,undef,undef,undef,undef,undef],defers:=[] }) (gT W0 b l.length f.length) rfl (by kernel_rfl) rfl ?_ ?_
   ·exact⟨0,0,0,0,ah _,fun e=>(by cases e),fun e=>(by cases e),fun e=>(by cases e),fun e=>(by cases e),fun e=>(by cases e),fun e=>(by cases e),⟨fun e=>(by cases e),fun e=>(by cases e),fun e=>(by cases e),fun e=>(by cases e)⟩,⟨fun e=>(by cases e),fun e=>(by cases e),fun e=>(by cases e),fun e=>(by cases e),fun e=>(by cases e),fun e=>(by cases e)⟩⟩
   intro fu b1 b2 b3 b4 b5 x1 x2 x3 x4 x5 W iL hI IH;dsimp only at IH ⊢
   cases b1<;>cases b2<;>cases b3<;>cases b4<;>cases b5
   ·obtain rfl:fu=6:=iL;refine bZ [7,14,18,20] ?_;refine bC rfl (fun K hK=>?_) ?_
    ·go_simp;have aI:=hI.Ai nk hbl;refine hK.out _ _ (HS.o _ aI.grow) (fun hHeld=>?_);clear hK K;simp only[ak];exact IH true false false false false _ _ _ _ _ _ rfl aI
    refine bC rfl (fun K hK=>?_) ?_
    ·go_simp;have aI:=hI.nM rK hll;refine hK.out _ _ (HS.o _ aI.grow) (fun hHeld=>?_);clear hK K;simp only[ak];exact IH false false true false false _ _ _ _ _ _ rfl aI
    refine bC rfl (fun K hK=>?_) ?_
    ·go_simp;have aI:=hI.tB rL hfl;refine hK.out _ _ (HS.o _ aI.grow) (fun hHeld=>?_);clear hK K;simp only[ak];exact IH false false false true false _ _ _ _ _ _ rfl aI
    refine bC rfl (fun K hK=>?_) bY;go_simp;have aI:=hI.nN;refine hK.out _ _ (HS.o _ aI.grow) (fun hHeld=>?_);clear hK K;simp only[ak];exact IH false false false false true _ _ _ _ _ _ rfl aI
   ·obtain rfl:fu=5:=iL;refine bZ [7,14,18] ?_;refine bC rfl (fun K hK=>?_) ?_
    ·go_simp;have aI:=hI.Ai nk hbl;refine hK.out _ _ (HS.o _ aI.grow) (fun hHeld=>?_);clear hK K;simp only[ak];exact IH true false false false true _ _ _ _ _ _ rfl aI
    refine bC rfl (fun K hK=>?_) ?_
    ·go_simp;have aI:=hI.nM rK hll;refine hK.out _ _ (HS.o _ aI.grow) (fun hHeld=>?_);clear hK K;simp only[ak];exact IH false false true false true _ _ _ _ _ _ rfl aI
    refine bC rfl (fun K hK=>?_) bY;go_simp;have aI:=hI.tB rL hfl;refine hK.out _ _ (HS.o _ aI.grow) (fun hHeld=>?_);clear hK K;simp only[ak];exact IH false false false true true _ _ _ _ _ _ rfl aI
   ·obtain rfl:fu=5:=iL;refine bZ [7,14,20] ?_;refine bC rfl (fun K hK=>?_) ?_
    ·go_simp;have aI:=hI.Ai nk hbl;refine hK.out _ _ (HS.o _ aI.grow) (fun hHeld=>?_);clear hK K;simp only[ak];exact IH true false false true false _ _ _ _ _ _ rfl aI
    refine bC rfl (fun K hK=>?_) ?_
    ·go_simp;have aI:=hI.nM rK hll;refine hK.out _ _ (HS.o _ aI.grow) (fun hHeld=>?_);clear hK K;simp only[ak];exact IH false false true true false _ _ _ _ _ _ rfl aI
    refine bC rfl (fun K hK=>?_) bY;go_simp;have aI:=hI.nN;refine hK.out _ _ (HS.o _ aI.grow) (fun hHeld=>?_);clear hK K;simp only[ak];exact IH false false false true true _ _ _ _ _ _ rfl aI
   ·obtain rfl:fu=4:=iL;refine bZ [7,14] ?_;refine bC rfl (fun K hK=>?_) ?_
    ·go_simp;have aI:=hI.Ai nk hbl;refine hK.out _ _ (HS.o _ aI.grow) (fun hHeld=>?_);clear hK K;simp only[ak];exact IH true false false true true _ _ _ _ _ _ rfl aI
    refine bC rfl (fun K hK=>?_) bY;go_simp;have aI:=hI.nM rK hll;refine hK.out _ _ (HS.o _ aI.grow) (fun hHeld=>?_);clear hK K;simp only[ak];exact IH false false true true true _ _ _ _ _ _ rfl aI
   ·obtain rfl:fu=5:=iL;refine bZ [7,18,20] ?_;refine bC rfl (fun K hK=>?_) ?_
    ·go_simp;have aI:=hI.Ai nk hbl;refine hK.out _ _ (HS.o _ aI.grow) (fun hHeld=>?_);clear hK K;simp only[ak];exact IH true false true false false _ _ _ _ _ _ rfl aI
    refine bC rfl (fun K hK=>?_) ?_
    ·go_simp;have aI:=hI.tB rL hfl;refine hK.out _ _ (HS.o _ aI.grow) (fun hHeld=>?_);clear hK K;simp only[ak];exact IH false false true true false _ _ _ _ _ _ rfl aI
    refine bC rfl (fun K hK=>?_) bY;go_simp;have aI:=hI.nN;refine hK.out _ _ (HS.o _ aI.grow) (fun hHeld=>?_);clear hK K;simp only[ak];exact IH false false true false true _ _ _ _ _ _ rfl aI
   ·obtain rfl:fu=4:=iL;refine bZ [7,18] ?_;refine bC rfl (fun K hK=>?_) ?_
    ·go_simp;have aI:=hI.Ai nk hbl;refine hK.out _ _ (HS.o _ aI.grow) (fun hHeld=>?_);clear hK K;simp only[ak];exact IH true false true false true _ _ _ _ _ _ rfl aI
    refine bC rfl (fun K hK=>?_) bY;go_simp;have aI:=hI.tB rL hfl;refine hK.out _ _ (HS.o _ aI.grow) (fun hHeld=>?_);clear hK K;simp only[ak];exact IH false false true true true _ _ _ _ _ _ rfl aI
   ·obtain rfl:fu=4:=iL;refine bZ [7,20] ?_;refine bC rfl (fun K hK=>?_) ?_
    ·go_simp;have aI:=hI.Ai nk hbl;refine hK.out _ _ (HS.o _ aI.grow) (fun hHeld=>?_);clear hK K;simp only[ak];exact IH true false true true false _ _ _ _ _ _ rfl aI
    refine bC rfl (fun K hK=>?_) bY;go_simp;have aI:=hI.nN;refine hK.out _ _ (HS.o _ aI.grow) (fun hHeld=>?_);clear hK K;simp only[ak];exact IH false false true true true _ _ _ _ _ _ rfl aI
   ·obtain rfl:fu=3:=iL;refine bZ [7] ?_;refine bC rfl (fun K hK=>?_) bY;go_simp;have aI:=hI.Ai nk hbl;refine hK.out _ _ (HS.o _ aI.grow) (fun hHeld=>?_);clear hK K;simp only[ak];exact IH true false true true true _ _ _ _ _ _ rfl aI
   ·exact absurd (hI.le rfl) (by decide)
   ·exact absurd (hI.le rfl) (by decide)
   ·exact absurd (hI.le rfl) (by decide)
   ·exact absurd (hI.le rfl) (by decide)
   ·exact absurd (hI.le rfl) (by decide)
   ·exact absurd (hI.le rfl) (by decide)
   ·exact absurd (hI.le rfl) (by decide)
   ·exact absurd (hI.le rfl) (by decide)
   ·obtain rfl:fu=5:=iL;refine bZ [10,14,18,20] ?_;refine bC rfl (fun K hK=>?_) ?_
    ·obtain⟨g,rfl,hA⟩:=hI.made;refine jg (by rfl) (.tmp 15) (.tmp 17) 23 23 (by rfl) W0.heap.size 5 i0 _ 1 1 eH gU.o gV.o gW.o gX.o (by rfl) (.slice (some ⟨g,0,none⟩) 0 b.length) 0 (bT []) (by rfl) hA (.slice aB b.length cB) b.length (bT b) (by rfl) (jk.o _ (rD.o.trans hI.grow)) (by omega) (by simp only[maxLen];omega) hI.grow.size ?_;intro A cC W2 hown hgr eG;simp only[dY] at hown eG ⊢;have aI:=hI.Aj rfl hown hgr eG;refine hK.out _ _ (HS.o _ aI.grow) (fun hHeld=>?_);clear hK K;simp only[ak];exact IH true true false false false _ _ _ _ _ _ rfl aI
    refine bC rfl (fun K hK=>?_) ?_
    ·go_simp;have aI:=hI.nM rK hll;refine hK.out _ _ (HS.o _ aI.grow) (fun hHeld=>?_);clear hK K;simp only[ak];exact IH true false true false false _ _ _ _ _ _ rfl aI
    refine bC rfl (fun K hK=>?_) ?_
    ·go_simp;have aI:=hI.tB rL hfl;refine hK.out _ _ (HS.o _ aI.grow) (fun hHeld=>?_);clear hK K;simp only[ak];exact IH true false false true false _ _ _ _ _ _ rfl aI
    refine bC rfl (fun K hK=>?_) bY;go_simp;have aI:=hI.nN;refine hK.out _ _ (HS.o _ aI.grow) (fun hHeld=>?_);clear hK K;simp only[ak];exact IH true false false false true _ _ _ _ _ _ rfl aI
   ·obtain rfl:fu=4:=iL;refine bZ [10,14,18] ?_;refine bC rfl (fun K hK=>?_) ?_
    ·obtain⟨g,rfl,hA⟩:=hI.made;refine jg (by rfl) (.tmp 15) (.tmp 17) 23 23 (by rfl) W0.heap.size 5 i0 _ 1 1 eH gU.o gV.o gW.o gX.o (by rfl) (.slice (some ⟨g,0,none⟩) 0 b.length) 0 (bT []) (by rfl) hA (.slice aB b.length cB) b.length (bT b) (by rfl) (jk.o _ (rD.o.trans hI.grow)) (by omega) (by simp only[maxLen];omega) hI.grow.size ?_;intro A cC W2 hown hgr eG;simp only[dY] at hown eG ⊢;have aI:=hI.Aj rfl hown hgr eG;refine hK.out _ _ (HS.o _ aI.grow) (fun hHeld=>?_);clear hK K;simp only[ak];exact IH true true false false true _ _ _ _ _ _ rfl aI
    refine bC rfl (fun K hK=>?_) ?_
    ·go_simp;have aI:=hI.nM rK hll;refine hK.out _ _ (HS.o _ aI.grow) (fun hHeld=>?_);clear hK K;simp only[ak];exact IH true false true false true _ _ _ _ _ _ rfl aI
    refine bC rfl (fun K hK=>?_) bY;go_simp;have aI:=hI.tB rL hfl;refine hK.out _ _ (HS.o _ aI.grow) (fun hHeld=>?_);clear hK K;simp only[ak];exact IH true false false true true _ _ _ _ _ _ rfl aI
   ·obtain rfl:fu=4:=iL;refine bZ [10,14,20] ?_;refine bC rfl (fun K hK=>?_) ?_
    ·obtain⟨g,rfl,hA⟩:=hI.made;refine jg (by rfl) (.tmp 15) (.tmp 17) 23 23 (by rfl) W0.heap.size 5 i0 _ 1 1 eH gU.o gV.o gW.o gX.o (by rfl) (.slice (some ⟨g,0,none⟩) 0 b.length) 0 (bT []) (by rfl) hA (.slice aB b.length cB) b.length (bT b) (by rfl) (jk.o _ (rD.o.trans hI.grow)) (by omega) (by simp only[maxLen];omega) hI.grow.size ?_;intro A cC W2 hown hgr eG;simp only[dY] at hown eG ⊢;have aI:=hI.Aj rfl hown hgr eG;refine hK.out _ _ (HS.o _ aI.grow) (fun hHeld=>?_);clear hK K;simp only[ak];exact IH true true false true false _ _ _ _ _ _ rfl aI
    refine bC rfl (fun K hK=>?_) ?_
    ·go_simp;have aI:=hI.nM rK hll;refine hK.out _ _ (HS.o _ aI.grow) (fun hHeld=>?_);clear hK K;simp only[ak];exact IH true false true true false _ _ _ _ _ _ rfl aI
    refine bC rfl (fun K hK=>?_) bY;go_simp;have aI:=hI.nN;refine hK.out _ _ (HS.o _ aI.grow) (fun hHeld=>?_);clear hK K;simp only[ak];exact IH true false false true true _ _ _ _ _ _ rfl aI
   ·obtain rfl:fu=3:=iL;refine bZ [10,14] ?_;refine bC rfl (fun K hK=>?_) ?_
    ·obtain⟨g,rfl,hA⟩:=hI.made;refine jg (by rfl) (.tmp 15) (.tmp 17) 23 23 (by rfl) W0.heap.size 5 i0 _ 1 1 eH gU.o gV.o gW.o gX.o (by rfl) (.slice (some ⟨g,0,none⟩) 0 b.length) 0 (bT []) (by rfl) hA (.slice aB b.length cB) b.length (bT b) (by rfl) (jk.o _ (rD.o.trans hI.grow)) (by omega) (by simp only[maxLen];omega) hI.grow.size ?_;intro A cC W2 hown hgr eG;simp only[dY] at hown eG ⊢;have aI:=hI.Aj rfl hown hgr eG;refine hK.out _ _ (HS.o _ aI.grow) (fun hHeld=>?_);clear hK K;simp only[ak];exact IH true true false true true _ _ _ _ _ _ rfl aI
    refine bC rfl (fun K hK=>?_) bY;go_simp;have aI:=hI.nM rK hll;refine hK.out _ _ (HS.o _ aI.grow) (fun hHeld=>?_);clear hK K;simp only[ak];exact IH true false true true true _ _ _ _ _ _ rfl aI
   ·obtain rfl:fu=4:=iL;refine bZ [10,18,20] ?_;refine bC rfl (fun K hK=>?_) ?_
    ·obtain⟨g,rfl,hA⟩:=hI.made;refine jg (by rfl) (.tmp 15) (.tmp 17) 23 23 (by rfl) W0.heap.size 5 i0 _ 1 1 eH gU.o gV.o gW.o gX.o (by rfl) (.slice (some ⟨g,0,none⟩) 0 b.length) 0 (bT []) (by rfl) hA (.slice aB b.length cB) b.length (bT b) (by rfl) (jk.o _ (rD.o.trans hI.grow)) (by omega) (by simp only[maxLen];omega) hI.grow.size ?_;intro A cC W2 hown hgr eG;simp only[dY] at hown eG ⊢;have aI:=hI.Aj rfl hown hgr eG;refine hK.out _ _ (HS.o _ aI.grow) (fun hHeld=>?_);clear hK K;simp only[ak];exact IH true true true false false _ _ _ _ _ _ rfl aI
    refine bC rfl (fun K hK=>?_) ?_
    ·go_simp;have aI:=hI.tB rL hfl;refine hK.out _ _ (HS.o _ aI.grow) (fun hHeld=>?_);clear hK K;simp only[ak];exact IH true false true true false _ _ _ _ _ _ rfl aI
    refine bC rfl (fun K hK=>?_) bY;go_simp;have aI:=hI.nN;refine hK.out _ _ (HS.o _ aI.grow) (fun hHeld=>?_);clear hK K;simp only[ak];exact IH true false true false true _ _ _ _ _ _ rfl aI
   ·obtain rfl:fu=3:=iL;refine bZ [10,18] ?_;refine bC rfl (fun K hK=>?_) ?_
    ·obtain⟨g,rfl,hA⟩:=hI.made;refine jg (by rfl) (.tmp 15) (.tmp 17) 23 23 (by rfl) W0.heap.size 5 i0 _ 1 1 eH gU.o gV.o gW.o gX.o (by rfl) (.slice (some ⟨g,0,none⟩) 0 b.length) 0 (bT []) (by rfl) hA (.slice aB b.length cB) b.length (bT b) (by rfl) (jk.o _ (rD.o.trans hI.grow)) (by omega) (by simp only[maxLen];omega) hI.grow.size ?_;intro A cC W2 hown hgr eG;simp only[dY] at hown eG ⊢;have aI:=hI.Aj rfl hown hgr eG;refine hK.out _ _ (HS.o _ aI.grow) (fun hHeld=>?_);clear hK K;simp only[ak];exact IH true true true false true _ _ _ _ _ _ rfl aI
    refine bC rfl (fun K hK=>?_) bY;go_simp;have aI:=hI.tB rL hfl;refine hK.out _ _ (HS.o _ aI.grow) (fun hHeld=>?_);clear hK K;simp only[ak];exact IH true false true true true _ _ _ _ _ _ rfl aI
   ·obtain rfl:fu=3:=iL;refine bZ [10,20] ?_;refine bC rfl (fun K hK=>?_) ?_
    ·obtain⟨g,rfl,hA⟩:=hI.made;refine jg (by rfl) (.tmp 15) (.tmp 17) 23 23 (by rfl) W0.heap.size 5 i0 _ 1 1 eH gU.o gV.o gW.o gX.o (by rfl) (.slice (some ⟨g,0,none⟩) 0 b.length) 0 (bT []) (by rfl) hA (.slice aB b.length cB) b.length (bT b) (by rfl) (jk.o _ (rD.o.trans hI.grow)) (by omega) (by simp only[maxLen];omega) hI.grow.size ?_;intro A cC W2 hown hgr eG;simp only[dY] at hown eG ⊢;have aI:=hI.Aj rfl hown hgr eG;refine hK.out _ _ (HS.o _ aI.grow) (fun hHeld=>?_);clear hK K;simp only[ak];exact IH true true true true false _ _ _ _ _ _ rfl aI
    refine bC rfl (fun K hK=>?_) bY;go_simp;have aI:=hI.nN;refine hK.out _ _ (HS.o _ aI.grow) (fun hHeld=>?_);clear hK K;simp only[ak];exact IH true false true true true _ _ _ _ _ _ rfl aI
   ·obtain rfl:fu=2:=iL;refine bZ [10] ?_;refine bC rfl (fun K hK=>?_) bY;obtain⟨g,rfl,hA⟩:=hI.made;refine jg (by rfl) (.tmp 15) (.tmp 17) 23 23 (by rfl) W0.heap.size 5 i0 _ 1 1 eH gU.o gV.o gW.o gX.o (by rfl) (.slice (some ⟨g,0,none⟩) 0 b.length) 0 (bT []) (by rfl) hA (.slice aB b.length cB) b.length (bT b) (by rfl) (jk.o _ (rD.o.trans hI.grow)) (by omega) (by simp only[maxLen];omega) hI.grow.size ?_;intro A cC W2 hown hgr eG;simp only[dY] at hown eG ⊢;have aI:=hI.Aj rfl hown hgr eG;refine hK.out _ _ (HS.o _ aI.grow) (fun hHeld=>?_);clear hK K;simp only[ak];exact IH true true true true true _ _ _ _ _ _ rfl aI
   ·obtain rfl:fu=4:=iL;refine bZ [14,18,20] ?_;refine bC rfl (fun K hK=>?_) ?_
    ·go_simp;have aI:=hI.nM rK hll;refine hK.out _ _ (HS.o _ aI.grow) (fun hHeld=>?_);clear hK K;simp only[ak];exact IH true true true false false _ _ _ _ _ _ rfl aI
    refine bC rfl (fun K hK=>?_) ?_
    ·go_simp;have aI:=hI.tB rL hfl;refine hK.out _ _ (HS.o _ aI.grow) (fun hHeld=>?_);clear hK K;simp only[ak];exact IH true true false true false _ _ _ _ _ _ rfl aI
    refine bC rfl (fun K hK=>?_) bY;go_simp;have aI:=hI.nN;refine hK.out _ _ (HS.o _ aI.grow) (fun hHeld=>?_);clear hK K;simp only[ak];exact IH true true false false true _ _ _ _ _ _ rfl aI
   ·obtain rfl:fu=3:=iL;refine bZ [14,18] ?_;refine bC rfl (fun K hK=>?_) ?_
    ·go_simp;have aI:=hI.nM rK hll;refine hK.out _ _ (HS.o _ aI.grow) (fun hHeld=>?_);clear hK K;simp only[ak];exact IH true true true false true _ _ _ _ _ _ rfl aI
    refine bC rfl (fun K hK=>?_) bY;go_simp;have aI:=hI.tB rL hfl;refine hK.out _ _ (HS.o _ aI.grow) (fun hHeld=>?_);clear hK K;simp only[ak];exact IH true true false true true _ _ _ _ _ _ rfl aI
   ·obtain rfl:fu=3:=iL;refine bZ [14,20] ?_;refine bC rfl (fun K hK=>?_) ?_
    ·go_simp;have aI:=hI.nM rK hll;refine hK.out _ _ (HS.o _ aI.grow) (fun hHeld=>?_);clear hK K;simp only[ak];exact IH true true true true false _ _ _ _ _ _ rfl aI
    refine bC rfl (fun K hK=>?_) bY;go_simp;have aI:=hI.nN;refine hK.out _ _ (HS.o _ aI.grow) (fun hHeld=>?_);clear hK K;simp only[ak];exact IH true true false true true _ _ _ _ _ _ rfl aI
   ·obtain rfl:fu=2:=iL;refine bZ [14] ?_;refine bC rfl (fun K hK=>?_) bY;go_simp;have aI:=hI.nM rK hll;refine hK.out _ _ (HS.o _ aI.grow) (fun hHeld=>?_);clear hK K;simp only[ak];exact IH true true true true true _ _ _ _ _ _ rfl aI
   ·obtain rfl:fu=3:=iL;refine bZ [18,20] ?_;refine bC rfl (fun K hK=>?_) ?_
    ·go_simp;have aI:=hI.tB rL hfl;refine hK.out _ _ (HS.o _ aI.grow) (fun hHeld=>?_);clear hK K;simp only[ak];exact IH true true true true false _ _ _ _ _ _ rfl aI
    refine bC rfl (fun K hK=>?_) bY;go_simp;have aI:=hI.nN;refine hK.out _ _ (HS.o _ aI.grow) (fun hHeld=>?_);clear hK K;simp only[ak];exact IH true true true false true _ _ _ _ _ _ rfl aI
   ·obtain rfl:fu=2:=iL;refine bZ [18] ?_;refine bC rfl (fun K hK=>?_) bY;go_simp;have aI:=hI.tB rL hfl;refine hK.out _ _ (HS.o _ aI.grow) (fun hHeld=>?_);clear hK K;simp only[ak];exact IH true true true true true _ _ _ _ _ _ rfl aI
   ·obtain rfl:fu=2:=iL;clear IH;obtain⟨A,cC,g3,g4,rfl,rfl,rfl⟩:=hI.forms;have hHeld:=HS.o _ hI.grow;refine aj 19 ?_;refine bZ [20] ?_;refine bC rfl (fun K hK=>?_) bY;go_simp;have JX:=hI.nN;refine hK.out _ _ (HS.o _ JX.grow) (fun hHeld=>?_);clear hK K hI hHeld;simp only[ak];generalize W.alloc (.cells #[.int .i64 0,.int .u64 0,.slice none 0 0,.slice none 0 0,.slice none 0 0] 27)=W5 at JX ⊢;generalize Value.pointer (some ⟨W.heap.size,0,none⟩)=x5 at JX ⊢;have hI:=JX;clear JX;obtain⟨g1,g3',g4',gO,e3,e4,rfl,hg,hC,yF,Uq,Ur,hO,vt,hd⟩:=hI.done;injection e3 with e3;injection e3 with e3;injection e3 with e3;injection e4 with e4;injection e4 with e4;injection e4 with e4;subst e3 e4;have hOc:=hO.cell;have La:=hO.frozen;clear hI;refine bZ [21] ?_
    refine bC rfl (fun K hK=>?_) bY;go_simp;refine hK.out _ _ (HS.o _ (hg.mD vt ⟨k,n,A,b.length,cC,some ⟨g3,0,none⟩,0,l.length,some ⟨g4,0,none⟩,0,f.length⟩)) (fun hHeld=>?_);clear hK K;refine cz ?_;go_wp2_with fail;go_meet;rw[HWW.o];exact E_.make hg hC yF Uq Ur hO vt hd
   obtain rfl:fu=1:=iL;clear IH;obtain⟨A,cC,g3,g4,rfl,rfl,rfl⟩:=hI.forms;have hHeld:=HS.o _ hI.grow;refine aj 19 ?_;obtain⟨g1,g3',g4',gO,e3,e4,rfl,hg,hC,yF,Uq,Ur,hO,vt,hd⟩:=hI.done;injection e3 with e3;injection e3 with e3;injection e3 with e3;injection e4 with e4;injection e4 with e4;injection e4 with e4;subst e3 e4;have hOc:=hO.cell;have La:=hO.frozen;clear hI;refine bZ [21] ?_;refine bC rfl (fun K hK=>?_) bY;go_simp;refine hK.out _ _ (HS.o _ (hg.mD vt ⟨k,n,A,b.length,cC,some ⟨g3,0,none⟩,0,l.length,some ⟨g4,0,none⟩,0,f.length⟩)) (fun hHeld=>?_);clear hK K;refine cz ?_;go_wp2_with fail;go_meet;rw[HWW.o];exact E_.make hg hC yF Uq Ur hO vt hd
  have hw0:=Ba.o.drew;have rW:=((aD (w.alloc (.cells (Cv.cells ⟨k,n,aB,b.length,cB,aL,l.length,cL,aF,f.length,cF⟩) 27)) 27 #[.int .i64 0,.int .u64 0,.slice none 0 0,.slice none 0 0,.slice none 0 0]).drew);rw[show (w.alloc (.cells (Cv.cells ⟨k,n,aB,b.length,cB,aL,l.length,cL,aF,f.length,cF⟩) 27)).heap.size=w.heap.size+1 by simp] at rW;obtain⟨gO,g1,g3,g4,A,cC,rfl,hR⟩:=rJ.start (w:=w) (c:=⟨k,n,aB,b.length,cB,aL,l.length,cL,aF,f.length,cF⟩) ((((ah w).alloc _).alloc _).drew) (by simp) hw0 rW hcut;rename World=>wx;have xL:=hR.src.cell;have Us:=aa hR;obtain⟨M,hM⟩:∃M,M=wx.heap.size-1:=⟨_,rfl⟩;rw[← hM] at Us;clear hM hw0 rW hcut HS Ba hcell jk gU gV gW gX nk hmk rK alE rL alF hR;obtain⟨i0,hi0,hz0',hz1,hz2⟩:=info_parts oO;have gU:=aa hi0;have gV:=aa hz0'
  have gW:=aa hz1;have gX:=aa hz2;clear hi0 hz0' hz1 hz2;obtain⟨j0,Na,abu,hy1,hy2⟩:=info_parts abk;have Ut:=aa Na;have Uu:=aa abu;have Uv:=aa hy1;have Uw:=aa hy2;clear Na abu hy1 hy2;go_wp2_with fail;go_loopg [31] (l.length+1) (fun gk i wr=>∃(j:Nat) (es:List VE) (AL:Option Addr) (pD:Nat),j≤l.length∧gk+j=l.length+1∧i=.int .i64 j∧es.length=j∧es.map VE.v=l.take j∧rJ w ⟨k,n,aB,b.length,cB,aL,l.length,cL,aF,f.length,cF⟩ M b gO g1 A cC (.slice AL es.length pD) (.slice (some ⟨g4,0,none⟩) 0 f.length) es [] wr);exact⟨0,[],_,_,ba _,by omega,rfl,rfl,by simp,Us.o⟩;obtain⟨j,es,AL,pD,hj,kW,rfl,Ux,hes,hR⟩:=hrel;obtain⟨gk',rfl⟩:=bS gk (by omega);have HR:=aa hR;have qP:=aa hes;have HEJ:=aa Ux;have hel:es.length≤1000000000:=by omega
  clear hR hes xL Us;by_cases hlt:j<l.length
  ·obtain⟨bk,o,cx,ha,hbk,e0,e1,e2,e3,e4,hx⟩:=(HV.o.grow HR.o.grow).fO j hlt;dsimp only at ha;subst ha;have HX:=aa hx;clear hx Ux;have ru:=(HR.o.Al.alloc (.cells cx.cells 27)).cell;have uX:=(aD wr 27 cx.cells).cell;have HC:=aa (Hl.o j hlt ((wr.alloc (.cells cx.cells 27)).drew) cx (HX.o.grow (((ah wr).alloc _).drew)));have aZ:=aa (((ah wr).alloc (.cells cx.cells 27)).drew);go_wp2_with fail
   go_region_law ((first | (refine jg (by rfl) (.tmp 36) (.tmp 39) 24 24 (by rfl) (w.heap.size+2) 27 i0 _ 5 88 jv gU.o gV.o gW.o gX.o (by rfl) (.slice AL es.length pD) es.length (cellsOf JR es) (by rfl) ((Fh gP _)) _ 1 cy.cells.toList (by rfl) (Src.abl cy _) (by omega) (by simp only[maxLen];omega) (by have:=hz3;simp;omega) ?_;intro A4 c4 w4 vz mS vA;have hB4:=qp (iA.o.alloc _) mS (fun k hk=>(HR.o.CK k hk).1);have gz:=hB4.cell;have iz:=hB4.frozen) | (go_simp;go_at_call 42;refine HC.o.mono ?_;rintro e w3 ⟨cy,rfl,wW,hg3⟩;have mj:=aZ.o.trans hg3;have iA:=aa (HR.o.Al.grow mj);have hc3:=iA.o.cell;have Fa:=(iA.o.alloc (.cells cy.cells 27)).cell;have gP:=(HR.o.list.grow mj).own;have hz3:w.heap.size+2≤w3.heap.size:=(by have:=mj.size;have:=HR.o.hM;have:=HR.o.hO;omega))))
   all_goals
    have dP:=aa (HR.o.alB mj (m0:=wr.heap.size+1) (by omega) (by have:=hg3.size;simpa using this) (by simpa using wW) vz mS vA)
    clear hB4 hc3 Fa gz iz wW hg3 gP vz mS vA mj iA ru uX e0 e1 e2 e3 e4
    go_wp2_with fail
    go_roundg gk'
    have hn:(es++[(⟨⟨#[]⟩,l[j],cy,wr.heap.size+1,w3.heap.size⟩:VE)]).length=es.length+1:=by simp
    exact⟨j+1,es++[⟨⟨#[]⟩,l[j],cy,wr.heap.size+1,w3.heap.size⟩],A4,c4,by omega,by omega,by go_num,by rw[hn,HEJ.o],alD hlt qP.o rfl,by rw[hn];exact dP.o⟩
    omega
  obtain rfl:j=l.length:=by omega
  have Ql:es.map VE.v=l:=by rw[qP.o,fS]
  have alG:=aa Ql;have xL:=HR.o.src.cell;clear Ql Ux;go_wp2_with fail;go_loopg [46] (f.length+1) (fun sJ i2 wr2=>∃(j:Nat) (fs:List VE) (AF:Option Addr) (oG:Nat),j≤f.length∧sJ+j=f.length+1∧i2=.int .i64 j∧fs.length=j∧fs.map (fun x=>(x.s,x.v))=f.take j∧(∀x∈fs,x.s.size≤140737488355328)∧rJ w ⟨k,n,aB,b.length,cB,aL,l.length,cL,aF,f.length,cF⟩ M b gO g1 A cC (.slice AL es.length pD) (.slice AF fs.length oG) es fs wr2);exact⟨0,[],_,_,ba _,by omega,rfl,rfl,by simp,fun x hx=>by simp at hx,HR.o⟩;obtain⟨j,fs,AF,oG,G9,aiW,rfl,D_,nV,hss,xZ⟩:=hrel;obtain⟨Uy,rfl⟩:∃g,gk=g+1:=⟨gk-1,by omega⟩;have cE:=aa xZ;have ND:=aa nV;have uy:=aa hss;have Uz:=aa D_;have O6:fs.length≤1000000000:=by omega
  clear xZ nV hss xL;by_cases eO:j<f.length
  ·obtain⟨bk,o,cx,ha,hbk,kM,im,e0,e1,e2,e3,e4,hx⟩:=(HV.o.grow cE.o.grow).iF j eO;dsimp only at ha;subst ha;obtain⟨s,hs⟩:∃s,f[j].1=s:=⟨_,rfl⟩;rw[hs] at kM im;have EG:=aa hs;have HX:=aa hx;clear hx D_ hs;have ru:=(cE.o.Al.alloc (.cells (cx.lQ s) 82)).cell;have JY:=aa (aD wr 82 (cx.lQ s));have uX:=JY.o.cell;have aZ:=aa (((ah wr).alloc (.cells (cx.lQ s) 82)).drew);have HC:=aa (Hf.o j eO ((wr.alloc (.cells (cx.lQ s) 82)).drew) cx (HX.o.grow aZ.o));go_upto_region 10 with fail;have qV:=aa (show ∀w',Grow (wr.alloc (.cells (cx.lQ s) 82)) w'→∀i,w'.cell? ⟨wr.heap.size,i,none⟩=(cx.lQ s)[i]? from fun w' h=>(JY.o.grow h).cell);refine dN ?_
   refine dO (S:=fun w'=>∀i,w'.cell? ⟨wr.heap.size,i,none⟩=(cx.lQ s)[i]?) (by kernel_rfl) ((qV.o _ (ah _).drew)) (fun hHeld=>?_);refine aj 0 ?_;refine aj 2 ?_;refine aj 3 ?_;refine aj 4 ?_;refine aj 5 ?_;refine bZ [1,6] ?_;refine bC rfl (fun K hK=>?_) ?_
   ·go_simp;refine aU hK (qV.o _ (ah _).drew) (fun hHeld=>?_);clear hK K;refine bZ [6] ?_;refine bC rfl (fun K hK=>?_) bY;go_simp;refine HC.o.mono ?_;rintro e w3 ⟨cy,rfl,wW,hg3⟩;have mj:=aZ.o.trans hg3;have iA:=aa (cE.o.Al.grow mj);have hc3:=iA.o.cell;have Fa:=(iA.o.alloc (.cells (cy.lQ s) 82)).cell;have gP:=(cE.o.mO.grow mj).own;have hz3:w.heap.size+2≤w3.heap.size:=(by have:=mj.size;have:=cE.o.hM;have:=cE.o.hO;omega);have hgx:Grow (wr.alloc (.cells (cx.lQ s) 82)) w3:=(ah _).drew.trans hg3
    try go_simp
    refine aU hK (qV.o _ hgx) (fun hHeld=>?_);clear hK K;refine aj 7 ?_;refine bZ [8] ?_;refine bC rfl (fun K hK=>?_) bY;go_simp;refine aU hK (qV.o _ (hgx.alloc _)) (fun hHeld=>?_);clear hK K;refine bZ [9] ?_;refine bC rfl (fun K hK=>?_) bY;refine jg (by rfl) (.tmp 51) (.tmp 58) 25 25 (by rfl) (w.heap.size+2) 82 j0 _ 6 104 Bc Ut.o Uu.o Uv.o Uw.o (by rfl) (.slice AF fs.length oG) fs.length (cellsOf vp fs) (by rfl) (Fh gP _) _ 1 (vp s++cy.cells.toList) (by rfl) (Src.T9 s cy _) (by omega) (by simp only[maxLen];omega) (by simp;omega) ?_;intro A4 c4 w4 vz mS vA;have hB4:=qp (iA.o.alloc _) mS (fun k hk=>(cE.o.yG k hk).1);have gz:=hB4.cell;have iz:=hB4.frozen
    have vB:=aa (qp ((JY.o.grow hgx).alloc _) mS (fun k hk=>by have:=(cE.o.mO.oF hk).2;omega));refine aU hK (vB.o.cell) (fun hHeld=>?_);clear hK K;refine aj 10 ?_;refine bZ [11] ?_;refine bC rfl (fun K hK=>?_) bY;go_simp;refine aU hK (Blk.cell (vB.o.far (by show wr.heap.size≠gO;have:=cE.o.hM;have:=cE.o.hO;omega) _)) (fun hHeld=>?_);clear hK K;have dP:=aa (cE.o.Un (s:=s) mj (m0:=wr.heap.size+1) (by omega) (by have:=hg3.size;simpa using this) (by simpa using wW) vz mS vA);refine cz ?_;clear hB4 hc3 Fa gz iz wW hg3 gP vz mS vA mj iA ru uX e0 e1 e2 e3 e4 kM vB hgx hHeld;go_wp2_with fail;go_roundg Uy;have hn:(fs++[(⟨s,f[j].2,cy,wr.heap.size+1,w3.heap.size⟩:VE)]).length=fs.length+1:=by simp
    exact⟨j+1,fs++[⟨s,f[j].2,cy,wr.heap.size+1,w3.heap.size⟩],A4,c4,by omega,by omega,by go_num,by rw[hn,Uz.o],Uo eO ND.o (by rw[← EG.o]),fun x hx=>by
     rcases tI.1 hx with hx | hx
     ·exact uy.o x hx
     rw[yK] at hx;subst hx;exact im,by rw[hn];exact dP.o⟩
    omega
   refine bC rfl (fun K hK=>?_) bY;go_simp;refine HC.o.mono ?_;rintro e w3 ⟨cy,rfl,wW,hg3⟩;have mj:=aZ.o.trans hg3;have iA:=aa (cE.o.Al.grow mj);have hc3:=iA.o.cell;have Fa:=(iA.o.alloc (.cells (cy.lQ s) 82)).cell;have gP:=(cE.o.mO.grow mj).own;have hz3:w.heap.size+2≤w3.heap.size:=(by have:=mj.size;have:=cE.o.hM;have:=cE.o.hO;omega);have hgx:Grow (wr.alloc (.cells (cx.lQ s) 82)) w3:=(ah _).drew.trans hg3
   try go_simp
   refine aU hK (qV.o _ hgx) (fun hHeld=>?_);clear hK K;refine aj 7 ?_;refine bZ [1,8] ?_;refine bC rfl (fun K hK=>?_) ?_
   ·go_simp;refine aU hK (qV.o _ hgx) (fun hHeld=>?_);clear hK K;refine bZ [8] ?_;refine bC rfl (fun K hK=>?_) bY;go_simp;refine aU hK (qV.o _ (hgx.alloc _)) (fun hHeld=>?_);clear hK K;refine bZ [9] ?_;refine bC rfl (fun K hK=>?_) bY;refine jg (by rfl) (.tmp 51) (.tmp 58) 25 25 (by rfl) (w.heap.size+2) 82 j0 _ 6 104 Bc Ut.o Uu.o Uv.o Uw.o (by rfl) (.slice AF fs.length oG) fs.length (cellsOf vp fs) (by rfl) (Fh gP _) _ 1 (vp s++cy.cells.toList) (by rfl) (Src.T9 s cy _) (by omega) (by simp only[maxLen];omega) (by simp;omega) ?_;intro A4 c4 w4 vz mS vA;have hB4:=qp (iA.o.alloc _) mS (fun k hk=>(cE.o.yG k hk).1);have gz:=hB4.cell;have iz:=hB4.frozen
    have vB:=aa (qp ((JY.o.grow hgx).alloc _) mS (fun k hk=>by have:=(cE.o.mO.oF hk).2;omega));refine aU hK (vB.o.cell) (fun hHeld=>?_);clear hK K;refine aj 10 ?_;refine bZ [11] ?_;refine bC rfl (fun K hK=>?_) bY;go_simp;refine aU hK (Blk.cell (vB.o.far (by show wr.heap.size≠gO;have:=cE.o.hM;have:=cE.o.hO;omega) _)) (fun hHeld=>?_);clear hK K;have dP:=aa (cE.o.Un (s:=s) mj (m0:=wr.heap.size+1) (by omega) (by have:=hg3.size;simpa using this) (by simpa using wW) vz mS vA);refine cz ?_;clear hB4 hc3 Fa gz iz wW hg3 gP vz mS vA mj iA ru uX e0 e1 e2 e3 e4 kM vB hgx hHeld;go_wp2_with fail;go_roundg Uy;have hn:(fs++[(⟨s,f[j].2,cy,wr.heap.size+1,w3.heap.size⟩:VE)]).length=fs.length+1:=by simp
    exact⟨j+1,fs++[⟨s,f[j].2,cy,wr.heap.size+1,w3.heap.size⟩],A4,c4,by omega,by omega,by go_num,by rw[hn,Uz.o],Uo eO ND.o (by rw[← EG.o]),fun x hx=>by
     rcases tI.1 hx with hx | hx
     ·exact uy.o x hx
     rw[yK] at hx;subst hx;exact im,by rw[hn];exact dP.o⟩
    omega
   refine bC rfl (fun K hK=>?_) bY;go_simp;refine aU hK (qV.o _ (hgx.alloc _)) (fun hHeld=>?_);clear hK K;refine bZ [1] ?_;refine bC rfl (fun K hK=>?_) bY;go_simp;refine aU hK (qV.o _ (hgx.alloc _)) (fun hHeld=>?_);clear hK K;refine bZ [9] ?_;refine bC rfl (fun K hK=>?_) bY;refine jg (by rfl) (.tmp 51) (.tmp 58) 25 25 (by rfl) (w.heap.size+2) 82 j0 _ 6 104 Bc Ut.o Uu.o Uv.o Uw.o (by rfl) (.slice AF fs.length oG) fs.length (cellsOf vp fs) (by rfl) (Fh gP _) _ 1 (vp s++cy.cells.toList) (by rfl) (Src.T9 s cy _) (by omega) (by simp only[maxLen];omega) (by simp;omega) ?_;intro A4 c4 w4 vz mS vA;have hB4:=qp (iA.o.alloc _) mS (fun k hk=>(cE.o.yG k hk).1);have gz:=hB4.cell;have iz:=hB4.frozen
   have vB:=aa (qp ((JY.o.grow hgx).alloc _) mS (fun k hk=>by have:=(cE.o.mO.oF hk).2;omega));refine aU hK (vB.o.cell) (fun hHeld=>?_);clear hK K;refine aj 10 ?_;refine bZ [11] ?_;refine bC rfl (fun K hK=>?_) bY;go_simp;refine aU hK (Blk.cell (vB.o.far (by show wr.heap.size≠gO;have:=cE.o.hM;have:=cE.o.hO;omega) _)) (fun hHeld=>?_);clear hK K;have dP:=aa (cE.o.Un (s:=s) mj (m0:=wr.heap.size+1) (by omega) (by have:=hg3.size;simpa using this) (by simpa using wW) vz mS vA);refine cz ?_;clear hB4 hc3 Fa gz iz wW hg3 gP vz mS vA mj iA ru uX e0 e1 e2 e3 e4 kM vB hgx hHeld;go_wp2_with fail;go_roundg Uy;have hn:(fs++[(⟨s,f[j].2,cy,wr.heap.size+1,w3.heap.size⟩:VE)]).length=fs.length+1:=by simp
   exact⟨j+1,fs++[⟨s,f[j].2,cy,wr.heap.size+1,w3.heap.size⟩],A4,c4,by omega,by omega,by go_num,by rw[hn,Uz.o],Uo eO ND.o (by rw[← EG.o]),fun x hx=>by
    rcases tI.1 hx with hx | hx
    ·exact uy.o x hx
    rw[yK] at hx;subst hx;exact im,by rw[hn];exact dP.o⟩
   omega
  obtain rfl:j=f.length:=by omega
  have abv:fs.map (fun x=>(x.s,x.v))=f:=by rw[ND.o,fS]
  have ru:=cE.o.Al.cell;have hrc:=cE.o.res.cell;have hrf:=cE.o.res.frozen;have HE:=aa (cE.o.done uy.o h1 h2 h3 (by omega) (by omega) (by omega) rfl);rw[alG.o,abv] at HE;have HRS:=aa cE.o.res;clear abv D_;go_wp2_with fail;refine iE (akG (F:=f42) (vb:=w.heap.size+1) rfl rfl ⟨k,n,A,b.length,cC,AL,es.length,pD,AF,fs.length,oG⟩ (vU (c:=⟨k,n,A,b.length,cC,AL,es.length,pD,AF,fs.length,oG⟩) HRS.o)) rfl ?_;exact HE.o
end
section
open Go.RowKit Go.Shelf
def lf:V→List ByteArray→Option V
 | v,[]=>some v
 | v,s::r=>(jl v s).bind fun u=>lf u r
def wj:ByteArray:=⟨#[46]⟩
def n_(s:ByteArray):List ByteArray:=Lib.splitB wj 0 (Lib.countB s wj) s
def g_(v:V)(s:ByteArray):Option V:=if v.good=0 then (if s.toList=[] then some v else lf v (n_ s)) else none
def mJ(w:World):Prop:=∃m,w.cell? ⟨2,0,none⟩=some (.int .i64 m)∧2<w.heap.size
theorem mJ.grow{w w':World}(h:mJ w)(hg:Grow w w'):mJ w':=by
 obtain⟨m,h1,h2⟩:=h;exact⟨m,(hg.below.cell h2).trans h1,df h2 hg.size⟩
theorem abw(s:ByteArray):(n_ s).length=Lib.countB s wj+1:=Lib.splitB_all wj (by decide) 0 _ s rfl
theorem alH(s:ByteArray)(w:World)(hM:mJ w)(hs:s.size<4294967281):Calls prog 47 #[.string s,.string wj] w fun e w' =>
 e=.returned (.slice (some ⟨w.heap.size,0,none⟩) (n_ s).length (n_ s).length)∧w'=w.alloc (.cells ((n_ s).map Value.string).toArray 9):=by
 obtain⟨m,h1,h2⟩:=hM;rw[abw];exact Any.strings_Split (P:=prog) { Pz with } Pz.i9 s wj m w hs h1 (by decide)
theorem alI{v u:V}{s:ByteArray}(h:jl v s=some u)(hs:v.nD):u.nD:=by
 obtain⟨k,n,b,l,f⟩:=v;rw[V.T_] at hs;obtain⟨-,-,-,hl,hf⟩:=hs;by_cases hk:k=7
 ·subst hk;rw[zl] at h;split at h
  ·exact hl _ (yO h)
  cases h
 rw[vY hk] at h;obtain⟨x,hx,rfl⟩:=CZ.1 h;exact hf _ (C0 hx)
theorem Blk.Ia{W:World}{b vb:Nat}{t:TypeId}{cs:Array Value}(h:Blk W b t cs)(hne:b≠vb)(c:Cv):Blk (rI W vb c) b t cs:=
 ((((h.far (p:=⟨vb,0,none⟩) hne _).far (p:=⟨vb,1,none⟩) hne _).far (p:=⟨vb,2,none⟩) hne _).far (p:=⟨vb,3,none⟩) hne _).far (p:=⟨vb,4,none⟩) hne _
theorem UA{α:Type}(g:α→List UInt8):∀(l:List α) (x:α),x∈l→(g x).length≤((l.map g).flatten).length
 | y::r,x,h=>by
  rw[fH,mo,bG];rcases je.1 h with h | h
  ·rw[h];omega
  have:=UA g r x h;omega
theorem alJ(v:V):v.formed=true→v.bytes.length≤1000000000→v.nD:=by
 refine V.ind (p:=fun v=>v.formed=true→v.bytes.length≤1000000000→v.nD) (fun k n b l f ihl ihf hf hb=>?_) v;have hc:=count_le (V.mk k n b l f) hf;rw[tP] at hc;have h1:l.length≤(l.map V.count).sum:=by
  clear ihl hf hb hc
  induction l with
  | nil=>simp
  | cons x r ih=>have:=AQ x;simp only[fH,pG,aT];omega
 have h2:f.length≤(f.map fun x=>x.2.count).sum:=by
  clear ihf hf hb hc
  induction f with
  | nil=>simp
  | cons x r ih=>have:=AQ x.2;simp only[fH,pG,aT];omega
 rw[rT] at hf;simp only[il,nS,iC] at hf;have ho:=hf.1.1.1;unfold V.own at ho;simp only[il,iC] at ho;rw[i7] at hb hc;rw[V.T_];refine⟨?_,by omega,by omega,fun x hx=>ihl x hx (hf.1.1.2 x hx) ?_,fun x hx=>ihf x hx (hf.1.2 x hx).2 ?_⟩
 ·by_cases hk:k=5∨k=6
  ·rw[ai (by omega),ai (by omega),aw hk] at hb;simp only[aT,bG] at hb;omega
  omega
 ·have h7:k=7:=by
   rcases ho.1.2 with h | h
   ·exact h
   rw[Ay.1 h] at hx;simp at hx
  subst h7;have hm:=UA V.bytes l x hx;simp at hb;have hb2:(l.map V.bytes).flatten.length≤1000000000:=by simp only[Fk,lG];omega
  omega
 have h8:k=8:=by
  rcases ho.2 with h | h
  ·exact h
  rw[Ay.1 h] at hx;simp at hx
 subst h8;have hm:=UA (fun x:ByteArray×V=>V.item x.1 x.2.bytes) f x hx;have hi:(V.item x.1 x.2.bytes).length=x.1.size+x.2.bytes.length+1:=by rw[V.item];simp
 have hb2:(f.map fun x:ByteArray×V=>V.item x.1 x.2.bytes).flatten.length≤1000000000:=by
  rw[ai (by decide),ai (by decide),ai (by decide),ai (by decide),aw rfl] at hb;simp only[aT] at hb;omega
 omega
theorem I0{v:V}(h:v.good=0):v.nD:=alJ v (lR h).1 (by have:=(lR h).2;omega)
theorem alK(v:V)(s:ByteArray)(c:Cv)(w:World)(hT:eP w)(gB:v.count≤20000)(hv:In w v c)(hgd:v.good≠0) :
 Calls prog 21 #[c.agg,.string s] w (vq w (g_ v s)):=by
 have hg0:=((ah w).alloc (.cells c.cells 27)).alloc (.cells Cv.zero.cells 27);have aM:=aa hg0;have av:=aa (cX (w:=w.alloc (.cells c.cells 27)) (g:=w.heap.size+1) (by simp) 27 Cv.zero.cells);have Fb:=aa (zj v _ c gB (hT.grow hg0) (hv.grow hg0));clear hg0 hT gB hv;rw[g_];rw[ai hgd];obtain⟨g,hg⟩:∃g,v.good=g:=⟨_,rfl⟩;rw[hg] at hgd Fb;have hgz:(g==0)=false:=by simpa using hgd
 clear hgd hg;go_enter func21,ntmps21;go_wp2_with fail;refine Fb.o.mono ?_;rintro e w1 ⟨rfl,hg⟩;have aO:=aa (aM.o.trans hg);have tC:=aa (av.o.grow hg);have gz:=tC.o.cell;have Ib:=tC.o.lt;have xC:=tC.o.frozen;clear hg;go_wp2_with fail;refine iE (pZ rfl rfl rfl Cv.zero (Dl (c:=Cv.zero) tC.o)) rfl (vq.no rfl (aO.o.mD (fD _) Cv.zero))
theorem alL(v:V)(s:ByteArray)(c:Cv)(w:World)(hT:eP w)(hM:mJ w)(gB:v.count≤20000)(hs:s.size<4294967281)(hv:In w v c)(hgd:v.good=0) :
 Calls prog 21 #[c.agg,.string s] w (vq w (g_ v s)):=by
 have hg0:=((ah w).alloc (.cells c.cells 27)).alloc (.cells Cv.zero.cells 27);have aM:=aa hg0;have aG:=aa ((aD w 27 c.cells).alloc (.cells Cv.zero.cells 27));have av:=aa (cX (w:=w.alloc (.cells c.cells 27)) (g:=w.heap.size+1) (by simp) 27 Cv.zero.cells);have Fb:=aa (zj v _ c gB (hT.grow hg0) (hv.grow hg0));have HCp:=aa (zI v (I0 hgd));have HSm:=aa (I0 hgd);have HM:=aa (hM.grow hg0);have HV:=aa hv;have HS:=aa hs;clear hg0 hv hT hM gB hs;rw[g_];rw[aw hgd];rw[hgd] at Fb;clear hgd;by_cases o_:s.toList=[]
 ·rw[aw o_];go_enter func21,ntmps21;go_wp2_with fail;refine Fb.o.mono ?_;rintro e w1 ⟨rfl,hg⟩;have aO:=aa (aM.o.trans hg);have jq:=aa (aG.o.grow hg);have tC:=aa (av.o.grow hg);have hc2:=jq.o.cell;have gz:=tC.o.cell;have HV1:=aa (HV.o.grow aO.o);clear hg;go_wp2_with fail;refine(HCp.o _ _ HV1.o).mono ?_;rintro e w2 ⟨x,rfl,hx,hg2⟩;have HX:=aa hx;have HG2:=aa (aO.o.trans hg2);have qg:=aa (tC.o.lt);have yH:=aa (tC.o.grow hg2);have alM:=yH.o.cell;have alN:=yH.o.lt;have alO:=yH.o.frozen;clear hx hg2 hc2 gz;go_wp2_with fail;refine iE (pZ rfl rfl rfl x (vU (c:=x) yH.o)) rfl (vq.yes rfl (HG2.o.mD (fD _) x) (aO.o.size) (abm HX.o.Be qg.o x))
 rw[ai o_];have afm:s.toList.isEmpty=false:=by simpa using o_
 go_enter func21,ntmps21;go_wp2_with fail;refine Fb.o.mono ?_;rintro e w1 ⟨rfl,hg⟩;have aO:=aa (aM.o.trans hg);have jq:=aa (aG.o.grow hg);have tC:=aa (av.o.grow hg);have hc2:=jq.o.cell;have gz:=tC.o.cell;have HSp:=aa (alH s w1 (HM.o.grow hg) HS.o);clear hg;go_wp2_with fail;refine HSp.o.mono ?_;rintro e wS ⟨rfl,Fe⟩;have fV:=aa (show w1.heap.size<wS.heap.size by rw[Fe];simp);have eZ:=aa (aO.o.trans (show Grow w1 wS by rw[Fe];exact(ah w1).alloc _));have alP:=aa (jq.o.grow (show Grow w1 wS by rw[Fe];exact(ah w1).alloc _));have alQ:=aa (tC.o.grow (show Grow w1 wS by rw[Fe];exact(ah w1).alloc _));have kA:=aa (show Blk wS w1.heap.size 9 ((n_ s).map Value.string).toArray by rw[Fe];exact aD w1 _ _);have Qu:=aa (tC.o.lt)
 clear hc2 gz Fe;have hnl:(n_ s).length≤4294967282:=by
  have:=Lib.countB_le wj (by decide) s.size s (ay _);have:=HS.o;rw[abw];omega
 obtain⟨ns,hns⟩:∃ns,n_ s=ns:=⟨_,rfl⟩;rw[hns] at kA hnl ⊢;obtain⟨nb,hnb⟩:∃nb,w1.heap.size=nb:=⟨_,rfl⟩;rw[hnb] at kA fV Qu ⊢;have cM:=aa hns;clear hns hnb;go_wp2_with fail;go_loopg [7,8,20] (ns.length+1) (fun gk x y i wr=>∃(j:Nat) (u:V) (cu:Cv),j≤ns.length∧gk+j=ns.length+1∧i=.int .i64 j∧lf v ns=lf u (ns.drop j)∧u.nD∧In w u cu∧Grow w wr ∧
  Blk wr w.heap.size 27 cu.cells∧Blk wr (w.heap.size+1) 27 Cv.zero.cells∧Blk wr nb 9 (ns.map Value.string).toArray)
 exact⟨0,v,c,by omega,by omega,rfl,rfl,HSm.o,HV.o,eZ.o,alP.o,alQ.o,kA.o⟩;obtain⟨j,u,cu,hj,kW,rfl,hp,hus,hu,hw,h2,h4,hN⟩:=hrel;have HP:=aa hp;have HUS:=aa hus;have HU:=aa hu;have HW:=aa hw;have H2:=aa h2;have H4:=aa h4;have HN:=aa hN;have hc2:=h2.cell;have gz:=h4.cell;have hcn:=hN.cell;obtain⟨gk',rfl⟩:=bS gk (by omega);clear hp hus hu hw h2 h4 hN;by_cases hlt:j<ns.length
 ·have eO:=HN.o.lt;go_wp2_with fail;refine(akM u ns[j] cu w wr HW.o HU.o).mono ?_;rintro e w2 ⟨hg2,x,t,u2,rfl,hx,hh⟩;have HX:=aa hx;have HG2:=aa (HW.o.trans hg2);have NF:=aa (H2.o.grow hg2);have JZ:=aa (H4.o.grow hg2);have ya:=aa (HN.o.grow hg2);have hcb:=NF.o.cell;have Vr:=NF.o.lt;have hzb:=NF.o.frozen;clear hg2 hc2 gz hcn hx;rcases hh with ⟨hy,rfl⟩ | ⟨hn,rfl,-,-⟩
  ·have HY:=aa hy;clear hy;go_wp2_with fail;go_roundg gk';refine⟨j+1,u2,x,by omega,by omega,by go_num,?_,alI HY.o HUS.o,HX.o,HG2.o.mD (ay _) x,vU (c:=x) NF.o,JZ.o.Ia (by omega) x,ya.o.Ia (by have:=Qu.o;omega) x⟩;rw[HP.o,Aw hlt];show (jl u ns[j]).bind _=_;rw[HY.o];rfl;omega
  have HY:=aa (show lf v (n_ s)=none by
   rw[cM.o,HP.o,Aw hlt];show (jl u ns[j]).bind _=_;rw[hn];rfl)
  clear hn;have H4b:=aa (JZ.o.Ia (vb:=w.heap.size) (by omega) x);have hcd:=JZ.o.cell;have amY:=JZ.o.lt;have hzd:=JZ.o.frozen;go_wp2_with fail;refine iE (pZ rfl rfl rfl Cv.zero (Dl (c:=Cv.zero) H4b.o)) rfl (vq.no HY.o ((HG2.o.mD (ay _) x).mD (fD _) Cv.zero))
 obtain rfl:j=ns.length:=by omega
 go_wp2_with fail;refine(zI u HUS.o _ _ (HU.o.grow HW.o)).mono ?_;rintro e w2 ⟨x,rfl,hx,hg2⟩;have HX:=aa hx;have HG2:=aa (HW.o.trans hg2);have qg:=aa (H4.o.lt);have yH:=aa (H4.o.grow hg2);have alM:=yH.o.cell;have alN:=yH.o.lt;have alO:=yH.o.frozen;clear hx hg2 hc2 gz hcn;have HY:=aa (show lf v (n_ s)=some u by
  rw[cM.o,HP.o,List.drop_length];rfl)
 go_wp2_with fail;refine iE (pZ rfl rfl rfl x (vU (c:=x) yH.o)) rfl (vq.yes HY.o (HG2.o.mD (fD _) x) (HW.o.size) (abm HX.o.Be qg.o x))
theorem aiX(v:V)(s:ByteArray)(c:Cv)(w:World)(hT:eP w)(hM:mJ w)(gB:v.count≤20000)(hs:s.size<4294967281)(hv:In w v c) :
 Calls prog 21 #[c.agg,.string s] w (vq w (g_ v s)):=by
 by_cases hgd:v.good=0
 ·exact alL v s c w hT hM gB hs hv hgd
 exact alK v s c w hT gB hv hgd
end
end Go.Proofs.YtndjopkdbdcmdaaGreatDoor
