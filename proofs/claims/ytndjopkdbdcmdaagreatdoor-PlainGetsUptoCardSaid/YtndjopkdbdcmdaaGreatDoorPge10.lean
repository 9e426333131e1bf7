/- Part 10 of the proof of pgets_card. -/
import Derived.Test.YtndjopkdbdcmdaaGreatDoorPge7
import Derived.Deep.DeepCutAuto
set_option linter.unusedVariables false
set_option linter.unusedSimpArgs false
set_option maxRecDepth 100000
set_option maxHeartbeats 12800000
open Go.Proofs.Tryz
namespace Go.Proofs.YtndjopkdbdcmdaaGreatDoor
variable {A:Option Addr}{M base c g g1 g4 gO j lo nF nL vb z:Nat}{P:Program}{Q:Exit→Act→World→Prop}{W W' W0 w w3 w4 wr:World}{a:Act}{b1 b2 b3 b4 b5:Bool}{cur:Array Value}{cx:Cv}{md:Region.Mode}{ops:Array Oper}{s:ByteArray}{te:TypeId}{v x1 x2 x3 x4 x5:Value}
section
open Go.RowKit Go.Shelf Go.WideShapes
theorem OC(S:Nat)(hS:S≤1000000000):∃cur:Array Value,cur.size=S*5∧∀w:World,(Instr.makeSlice 24 (.int .i64 0) (.int .i64 (S:Int))).run prog w=.ok (.slice (some ⟨w.heap.size,0,none⟩) 0 S) (w.alloc (.cells cur 27)):=by
 obtain⟨i0,hi0,hz0,hz1,hz2⟩:=info_parts qB;refine⟨madeCells (Value.agg #[.int .i64 0,.int .u64 0,.slice none 0 0,.slice none 0 0,.slice none 0 0]).cells (S*i0.size),?_,fun w=>?_⟩
 ·rw[hz1];simp[madeCells]
 have h:=run_make (P:=prog) (w:=w) 24 27 i0 _ km hi0 hz0 .i64 .i64 0 (S:Int) (by omega) (by omega) (by rw[hz2];omega) (by omega);exact h
theorem acD(S:Nat)(hS:S≤1000000000):∃cur:Array Value,cur.size=S*6∧∀w:World,(Instr.makeSlice 25 (.int .i64 0) (.int .i64 (S:Int))).run prog w=.ok (.slice (some ⟨w.heap.size,0,none⟩) 0 S) (w.alloc (.cells cur 82)):=by
 obtain⟨i0,hi0,hz0,hz1,hz2⟩:=info_parts VN;refine⟨madeCells (Value.agg #[.string ⟨#[]⟩,.int .i64 0,.int .u64 0,.slice none 0 0,.slice none 0 0,.slice none 0 0]).cells (S*i0.size),?_,fun w=>?_⟩
 ·rw[hz1];simp[madeCells]
 have h:=run_make (P:=prog) (w:=w) 25 82 i0 _ Bu hi0 hz0 .i64 .i64 0 (S:Int) (by omega) (by omega) (by rw[hz2];omega) (by omega);exact h
theorem acE{n:Nat}{xs:List UInt8}(h:Row W base (.slice A n c) n xs):n≤c:=by
 rcases h.2 with ⟨hv,h0⟩ | ⟨g,cap',cur,hv,_,_,hc,_⟩
 ·omega
 injection hv with _ _ e;omega
theorem acF{n:Nat}{xs:List UInt8}(h:Row W base (.slice A n c) n xs):Reads (fun p u=>CF W p u∧base≤p.block∧p.block<W.heap.size) 1 A n (b_ xs):=by
 have hl:xs.length=n:=by simpa [b_] using h.1
 refine⟨by rw[Ds,sP,hl],fun hn=>?_⟩;obtain⟨g,cap,hv,hb,hlt⟩:=World.ownsRow.form h (by omega);have hA:A=some ⟨g,0,none⟩:=by injection hv
 subst hA;refine⟨g,0,rfl,fun j u hu=>⟨⟨?_,FL h _⟩,hb,hlt⟩⟩;have:=FE h (g:=g) rfl j u hu;rwa [add_lit] at this
def gG(W0:World)(b:List UInt8)(nL nF:Nat)(b1 b2 b3 b4 b5:Bool)(x1 x2 x3 x4 x5:Value)(W:World):Prop:=
 ∃g1 g3 g4 g5:Nat,Grow W0 W∧(b2=true→b1=true) ∧
 (b1=true→b2=false→x1=.slice (some ⟨g1,0,none⟩) 0 b.length∧Row W W0.heap.size (.slice (some ⟨g1,0,none⟩) 0 b.length) 0 []) ∧
 (b2=true→∃A c,x2=.slice A b.length c∧Row W W0.heap.size (.slice A b.length c) b.length b∧Value.ownBlock (.slice A b.length c)=some g1) ∧
 (b3=true→x3=.slice (some ⟨g3,0,none⟩) 0 nL∧W.ownsRow W0.heap.size 27 5 (.slice (some ⟨g3,0,none⟩) 0 nL) 0 []) ∧
 (b4=true→x4=.slice (some ⟨g4,0,none⟩) 0 nF∧W.ownsRow W0.heap.size 82 6 (.slice (some ⟨g4,0,none⟩) 0 nF) 0 []) ∧
 (b5=true→x5=.pointer (some ⟨g5,0,none⟩)∧Blk W g5 27 #[.int .i64 0,.int .u64 0,.slice none 0 0,.slice none 0 0,.slice none 0 0]∧W0.heap.size≤g5) ∧
 ((b1=true→g1<W.heap.size)∧(b3=true→g3<W.heap.size)∧(b4=true→g4<W.heap.size)∧(b5=true→g5<W.heap.size)) ∧
 ((b1=true→b3=true→g1≠g3)∧(b1=true→b4=true→g1≠g4)∧(b1=true→b5=true→g1≠g5)∧(b3=true→b4=true→g3≠g4)∧(b3=true→b5=true→g3≠g5)∧(b4=true→b5=true→g4≠g5))
theorem gG.grow{b:List UInt8}(h:gG W0 b nL nF b1 b2 b3 b4 b5 x1 x2 x3 x4 x5 W):Grow W0 W:=by
 obtain⟨g1,g3,g4,g5,hg,_⟩:=h;exact hg
theorem gG.le{b:List UInt8}(h:gG W0 b nL nF b1 b2 b3 b4 b5 x1 x2 x3 x4 x5 W):b2=true→b1=true:=by
 obtain⟨g1,g3,g4,g5,_,h,_⟩:=h;exact h
theorem gG.made{b:List UInt8}(h:gG W0 b nL nF true false b3 b4 b5 x1 x2 x3 x4 x5 W):∃g,x1=.slice (some ⟨g,0,none⟩) 0 b.length∧Row W W0.heap.size (.slice (some ⟨g,0,none⟩) 0 b.length) 0 []:=by
 obtain⟨g1,g3,g4,g5,_,_,h,_⟩:=h;exact⟨g1,h rfl rfl⟩
theorem gG.alloc{b:List UInt8}{g3 g5:Nat}(o:Obj)
 (h1:b1=true→b2=false→x1=.slice (some ⟨g1,0,none⟩) 0 b.length∧Row W W0.heap.size (.slice (some ⟨g1,0,none⟩) 0 b.length) 0 [])
 (h2:b2=true→∃A c,x2=.slice A b.length c∧Row W W0.heap.size (.slice A b.length c) b.length b∧Value.ownBlock (.slice A b.length c)=some g1)
 (h3:b3=true→x3=.slice (some ⟨g3,0,none⟩) 0 nL∧W.ownsRow W0.heap.size 27 5 (.slice (some ⟨g3,0,none⟩) 0 nL) 0 [])
 (h4:b4=true→x4=.slice (some ⟨g4,0,none⟩) 0 nF∧W.ownsRow W0.heap.size 82 6 (.slice (some ⟨g4,0,none⟩) 0 nF) 0 [])
 (h5:b5=true→x5=.pointer (some ⟨g5,0,none⟩)∧Blk W g5 27 #[.int .i64 0,.int .u64 0,.slice none 0 0,.slice none 0 0,.slice none 0 0]∧W0.heap.size≤g5) :
 (b1=true→b2=false→x1=.slice (some ⟨g1,0,none⟩) 0 b.length∧Row (W.alloc o) W0.heap.size (.slice (some ⟨g1,0,none⟩) 0 b.length) 0 []) ∧
 (b2=true→∃A c,x2=.slice A b.length c∧Row (W.alloc o) W0.heap.size (.slice A b.length c) b.length b∧Value.ownBlock (.slice A b.length c)=some g1) ∧
 (b3=true→x3=.slice (some ⟨g3,0,none⟩) 0 nL∧(W.alloc o).ownsRow W0.heap.size 27 5 (.slice (some ⟨g3,0,none⟩) 0 nL) 0 []) ∧
 (b4=true→x4=.slice (some ⟨g4,0,none⟩) 0 nF∧(W.alloc o).ownsRow W0.heap.size 82 6 (.slice (some ⟨g4,0,none⟩) 0 nF) 0 []) ∧
 (b5=true→x5=.pointer (some ⟨g5,0,none⟩)∧Blk (W.alloc o) g5 27 #[.int .i64 0,.int .u64 0,.slice none 0 0,.slice none 0 0,.slice none 0 0]∧W0.heap.size≤g5):=
 ⟨fun e e'=>⟨(h1 e e').1,(h1 e e').2.alloc o⟩,fun e=>(by obtain⟨A,c,r1,r2,r3⟩:=h2 e;exact⟨A,c,r1,r2.alloc o,r3⟩),fun e=>⟨(h3 e).1,(h3 e).2.alloc o⟩,fun e=>⟨(h4 e).1,(h4 e).2.alloc o⟩,fun e=>⟨(h5 e).1,(h5 e).2.1.alloc o,(h5 e).2.2⟩⟩
theorem gG.mk1{b:List UInt8}(h:gG W0 b nL nF false false b3 b4 b5 x1 x2 x3 x4 x5 W)(tB:cur.size=b.length)(hb:b.length≤1000000000) :
 gG W0 b nL nF true false b3 b4 b5 (.slice (some ⟨W.heap.size,0,none⟩) 0 b.length) x2 x3 x4 x5 (W.alloc (.cells cur 5)):=by
 obtain⟨g1,g3,g4,g5,hg,h12,h1,h2,h3,h4,h5,⟨t1,t3,t4,t5⟩,⟨d13,d14,d15,d34,d35,d45⟩⟩:=h;have hA:Row (W.alloc (.cells cur 5)) W0.heap.size (.slice (some ⟨W.heap.size,0,none⟩) 0 b.length) 0 []:=xK W cur b.length hg.size (by simp only[maxLen];omega) (by omega);have hs:(W.alloc (.cells cur 5)).heap.size=W.heap.size+1:=by simp
 obtain⟨k1,k2,k3,k4,k5⟩:=gG.alloc (.cells cur 5) h1 h2 h3 h4 h5;refine⟨W.heap.size,g3,g4,g5,hg.alloc _,fun e=>(by cases e),fun _ _=>⟨rfl,hA⟩,fun e=>(by cases e),k3,k4,k5,⟨fun _=>?_,fun e=>?_,fun e=>?_,fun e=>?_⟩,⟨fun _ e=>?_,fun _ e=>?_,fun _ e=>?_,d34,d35,d45⟩⟩
 ·omega
 ·have:=t3 e;omega
 ·have:=t4 e;omega
 ·have:=t5 e;omega
 ·have:=t3 e;omega
 ·have:=t4 e;omega
 have:=t5 e;omega
theorem gG.mk2{b:List UInt8}(h:gG W0 b nL nF true false b3 b4 b5 x1 x2 x3 x4 x5 W)(hx:x1=.slice (some ⟨g,0,none⟩) 0 b.length)
 (hown:Row W' W0.heap.size (.slice A b.length c) b.length b) (hgr:W.grownBy W' (some g)) (iQ:Value.ownBlock (.slice A b.length c)=some g∨Value.ownBlock (.slice A b.length c)=some W.heap.size) :
 gG W0 b nL nF true true b3 b4 b5 x1 (.slice A b.length c) x3 x4 x5 W':=by
 obtain⟨g1,g3,g4,g5,hg,h12,h1,h2,h3,h4,h5,⟨t1,t3,t4,t5⟩,⟨d13,d14,d15,d34,d35,d45⟩⟩:=h;obtain⟨r1,r2⟩:=h1 rfl rfl;rw[hx] at r1;injection r1 with r1;injection r1 with r1;injection r1 with r1;subst r1;have hlt:=bJ r2 g rfl;have hz:=hgr.size;have KC:∀{te:TypeId} {z m:Nat} {q:Nat} {n:Nat} {xs:List Value},g≠q→W.ownsRow W0.heap.size te z (.slice (some ⟨q,0,none⟩) m n) m xs→W'.ownsRow W0.heap.size te z (.slice (some ⟨q,0,none⟩) m n) m xs:=fun hne hr =>
  o_ hr hgr (.inr (fun e=>hne (nZ e).symm))
 obtain⟨g',hg',hl'⟩:∃g',Value.ownBlock (.slice A b.length c)=some g'∧(g'=g∨g'=W.heap.size):=by
  rcases iQ with z | z
  ·exact⟨_,z,.inl rfl⟩
  exact⟨_,z,.inr rfl⟩
 have acG:=(bJ hown g' hg').2;refine⟨g',g3,g4,g5,hg.grown hgr (fun k e=>by injection e with e;omega),fun _=>rfl,fun _ e=>(by cases e),fun _=>⟨A,c,rfl,hown,hg'⟩,fun e=>⟨(h3 e).1,KC (d13 rfl e) (h3 e).2⟩,fun e=>⟨(h4 e).1,KC (d14 rfl e) (h4 e).2⟩,fun e=>⟨(h5 e).1,qC (h5 e).2.1 hgr (fun k e2=>by injection e2 with e2;have:=d15 rfl e;omega),(h5 e).2.2⟩,⟨fun _=>acG,fun e=>?_,fun e=>?_,fun e=>?_⟩,⟨fun _ e=>?_,fun _ e=>?_,fun _ e=>?_,d34,d35,d45⟩⟩
 ·have:=t3 e;omega
 ·have:=t4 e;omega
 ·have:=t5 e;omega
 ·have:=t3 e;have:=d13 rfl e;omega
 ·have:=t4 e;have:=d14 rfl e;omega
 have:=t5 e;have:=d15 rfl e;omega
theorem gG.OD{b:List UInt8}(h:gG W0 b nL nF b1 b2 false b4 b5 x1 x2 x3 x4 x5 W)(tB:cur.size=nL*5)(hn:nL≤1000000000) :
 gG W0 b nL nF b1 b2 true b4 b5 x1 x2 (.slice (some ⟨W.heap.size,0,none⟩) 0 nL) x4 x5 (W.alloc (.cells cur 27)):=by
 obtain⟨g1,g3,g4,g5,hg,h12,h1,h2,h3,h4,h5,⟨t1,t3,t4,t5⟩,⟨d13,d14,d15,d34,d35,d45⟩⟩:=h;have hA:(W.alloc (.cells cur 27)).ownsRow W0.heap.size 27 5 (.slice (some ⟨W.heap.size,0,none⟩) 0 nL) 0 []:=xK W cur nL hg.size (by simp only[maxLen];omega) (by omega);have hs:(W.alloc (.cells cur 27)).heap.size=W.heap.size+1:=by simp
 obtain⟨k1,k2,k3,k4,k5⟩:=gG.alloc (.cells cur 27) h1 h2 h3 h4 h5;refine⟨g1,W.heap.size,g4,g5,hg.alloc _,h12,k1,k2,fun _=>⟨rfl,hA⟩,k4,k5,⟨fun e=>?_,fun _=>?_,fun e=>?_,fun e=>?_⟩,⟨fun e _=>?_,d14,d15,fun _ e=>?_,fun _ e=>?_,d45⟩⟩
 ·have:=t1 e;omega
 ·omega
 ·have:=t4 e;omega
 ·have:=t5 e;omega
 ·have:=t1 e;omega
 ·have:=t4 e;omega
 have:=t5 e;omega
theorem gG.mk4{b:List UInt8}(h:gG W0 b nL nF b1 b2 b3 false b5 x1 x2 x3 x4 x5 W)(tB:cur.size=nF*6)(hn:nF≤1000000000) :
 gG W0 b nL nF b1 b2 b3 true b5 x1 x2 x3 (.slice (some ⟨W.heap.size,0,none⟩) 0 nF) x5 (W.alloc (.cells cur 82)):=by
 obtain⟨g1,g3,g4,g5,hg,h12,h1,h2,h3,h4,h5,⟨t1,t3,t4,t5⟩,⟨d13,d14,d15,d34,d35,d45⟩⟩:=h;have hA:(W.alloc (.cells cur 82)).ownsRow W0.heap.size 82 6 (.slice (some ⟨W.heap.size,0,none⟩) 0 nF) 0 []:=xK W cur nF hg.size (by simp only[maxLen];omega) (by omega);have hs:(W.alloc (.cells cur 82)).heap.size=W.heap.size+1:=by simp
 obtain⟨k1,k2,k3,k4,k5⟩:=gG.alloc (.cells cur 82) h1 h2 h3 h4 h5;refine⟨g1,g3,W.heap.size,g5,hg.alloc _,h12,k1,k2,k3,fun _=>⟨rfl,hA⟩,k5,⟨fun e=>?_,fun e=>?_,fun _=>?_,fun e=>?_⟩,⟨d13,fun e _=>?_,d15,fun e _=>?_,d35,fun _ e=>?_⟩⟩
 ·have:=t1 e;omega
 ·have:=t3 e;omega
 ·omega
 ·have:=t5 e;omega
 ·have:=t1 e;omega
 ·have:=t3 e;omega
 have:=t5 e;omega
theorem gG.KD{b:List UInt8}(h:gG W0 b nL nF b1 b2 b3 b4 false x1 x2 x3 x4 x5 W) :
 gG W0 b nL nF b1 b2 b3 b4 true x1 x2 x3 x4 (.pointer (some ⟨W.heap.size,0,none⟩)) (W.alloc (.cells #[.int .i64 0,.int .u64 0,.slice none 0 0,.slice none 0 0,.slice none 0 0] 27)):=by
 obtain⟨g1,g3,g4,g5,hg,h12,h1,h2,h3,h4,h5,⟨t1,t3,t4,t5⟩,⟨d13,d14,d15,d34,d35,d45⟩⟩:=h;have hs:(W.alloc (.cells #[.int .i64 0,.int .u64 0,.slice none 0 0,.slice none 0 0,.slice none 0 0] 27)).heap.size=W.heap.size+1:=by simp
 obtain⟨k1,k2,k3,k4,k5⟩:=gG.alloc (.cells #[.int .i64 0,.int .u64 0,.slice none 0 0,.slice none 0 0,.slice none 0 0] 27) h1 h2 h3 h4 h5;refine⟨g1,g3,g4,W.heap.size,hg.alloc _,h12,k1,k2,k3,k4,fun _=>⟨rfl,az _ _ _,hg.size⟩,⟨fun e=>?_,fun e=>?_,fun e=>?_,fun _=>?_⟩,⟨d13,d14,fun e _=>?_,d34,fun e _=>?_,fun e _=>?_⟩⟩
 ·have:=t1 e;omega
 ·have:=t3 e;omega
 ·have:=t4 e;omega
 ·omega
 ·have:=t1 e;omega
 ·have:=t3 e;omega
 have:=t4 e;omega
theorem gG.done{b:List UInt8}(h:gG W0 b nL nF b1 true true true true x1 (.slice A b.length c) x3 x4 x5 W) :
 ∃g1 g3 g4 g5:Nat,x3=.slice (some ⟨g3,0,none⟩) 0 nL∧x4=.slice (some ⟨g4,0,none⟩) 0 nF∧x5=.pointer (some ⟨g5,0,none⟩)∧Grow W0 W∧Row W W0.heap.size (.slice A b.length c) b.length b∧Value.ownBlock (.slice A b.length c)=some g1 ∧
  W.ownsRow W0.heap.size 27 5 (.slice (some ⟨g3,0,none⟩) 0 nL) 0 []∧W.ownsRow W0.heap.size 82 6 (.slice (some ⟨g4,0,none⟩) 0 nF) 0 [] ∧
  Blk W g5 27 #[.int .i64 0,.int .u64 0,.slice none 0 0,.slice none 0 0,.slice none 0 0]∧W0.heap.size≤g5∧(g1≠g3∧g1≠g4∧g1≠g5∧g3≠g4∧g3≠g5∧g4≠g5):=by
 obtain⟨g1,g3,g4,g5,hg,h12,h1,h2,h3,h4,h5,_,⟨d13,d14,d15,d34,d35,d45⟩⟩:=h;have hb1:=h12 rfl;obtain⟨A',c',e,r2,r3⟩:=h2 rfl;injection e with e1 _ e2;subst e1 e2;exact⟨g1,g3,g4,g5,(h3 rfl).1,(h4 rfl).1,(h5 rfl).1,hg,r2,r3,(h3 rfl).2,(h4 rfl).2,(h5 rfl).2.1,(h5 rfl).2.2,d13 hb1 rfl,d14 hb1 rfl,d15 hb1 rfl,d34 rfl rfl,d35 rfl rfl,d45 rfl rfl⟩
def DT(W0:World)(k n:Int)(b:List UInt8)(nL nF:Nat)(p:Value)(wx:World):Prop:=
 ∃(gO g1 g3 g4:Nat) (A:Option Addr) (cB:Nat),p=.pointer (some ⟨gO,0,none⟩)∧Blk wx gO 27 #[.int .i64 k,.int .u64 n,.slice A b.length cB,.slice (some ⟨g3,0,none⟩) 0 nL,.slice (some ⟨g4,0,none⟩) 0 nF] ∧
  Row wx W0.heap.size (.slice A b.length cB) b.length b∧Value.ownBlock (.slice A b.length cB)=some g1 ∧
  wx.ownsRow W0.heap.size 27 5 (.slice (some ⟨g3,0,none⟩) 0 nL) 0 []∧wx.ownsRow W0.heap.size 82 6 (.slice (some ⟨g4,0,none⟩) 0 nF) 0 []∧Grow W0 wx∧W0.heap.size≤gO ∧
  (g1≠g3∧g1≠g4∧g1≠gO∧g3≠g4∧g3≠gO∧g4≠gO)
theorem DT.make{k n:Int}{b:List UInt8}{g3 cC:Nat}(hg:Grow W0 W)(hC:Row W W0.heap.size (.slice A b.length cC) b.length b)(xV:Value.ownBlock (.slice A b.length cC)=some g1)
 (h3:W.ownsRow W0.heap.size 27 5 (.slice (some ⟨g3,0,none⟩) 0 nL) 0 []) (h4:W.ownsRow W0.heap.size 82 6 (.slice (some ⟨g4,0,none⟩) 0 nF) 0 [])
 (hO:Blk W gO 27 #[.int .i64 0,.int .u64 0,.slice none 0 0,.slice none 0 0,.slice none 0 0]) (uI:W0.heap.size≤gO) (hd:g1≠g3∧g1≠g4∧g1≠gO∧g3≠g4∧g3≠gO∧g4≠gO) :
 DT W0 k n b nL nF (.pointer (some ⟨gO,0,none⟩)) (rL W gO ⟨k,n,A,b.length,cC,some ⟨g3,0,none⟩,0,nL,some ⟨g4,0,none⟩,0,nF⟩):=by
 have hs:=VO W gO ⟨k,n,A,b.length,cC,some ⟨g3,0,none⟩,0,nL,some ⟨g4,0,none⟩,0,nF⟩;refine⟨gO,g1,g3,g4,A,cC,rfl,wI hO,o_ hC hs (.inr ?_),xV,o_ h3 hs (.inr ?_),o_ h4 hs (.inr ?_),hg.mK uI _,uI,hd⟩
 ·rw[xV];intro e;injection e with e;exact hd.2.2.1 e
 ·intro e;injection e with e;exact hd.2.2.2.2.1 e
 intro e;injection e with e;exact hd.2.2.2.2.2 e
structure rM (w:World) (c:Cv) (M:Nat) (b:List UInt8) (gO g1:Nat) (A:Option Addr) (cB:Nat) (sL sF:Value) (jL mh:List VE) (wr:World):Prop where
 grow:Grow w wr
 src:Blk wr w.heap.size 27 c.cells
 res:Blk wr (w.heap.size+1) 27 #[.int .i64 0,.int .u64 0,.slice none 0 0,.slice none 0 0,.slice none 0 0]
 zo:Blk wr gO 27 #[.int .i64 c.k,.int .u64 c.n,.slice A b.length cB,sL,sF]
 row:Row wr (w.heap.size+2) (.slice A b.length cB) b.length b
 own:Value.ownBlock (.slice A b.length cB)=some g1
 list:gY wr 27 Gb 5 (w.heap.size+2) M (w.heap.size+2) sL jL
 mL:gY wr 82 uJ 6 (w.heap.size+2) M (w.heap.size+2) sF mh
 hO:w.heap.size+2≤gO∧gO≤M
 h1:g1≤M∧g1≠gO
 hM:M<wr.heap.size
 Bv:∀k,sL.ownBlock=some k→k≠gO∧k≠g1
 xW:∀k,sF.ownBlock=some k→k≠gO∧k≠g1
 KE:∀k,sL.ownBlock=some k→sF.ownBlock≠some k
 OE:∀x∈jL,∀k,sF.ownBlock=some k→¬ (x.lo≤k∧k<x.hi)
theorem gY.OG{hd:ByteArray→List Value}{es:List VE}(h:gY W te hd z lo vb base v es)(hne:∀k,v.ownBlock=some k→k≠g)(hg:g≤vb)(i:Nat)(u:Value):gY (W.setCell ⟨g,i,none⟩ u) te hd z lo vb base v es:=
 h.kept (rN W g i u) (fun k e=>by injection e with e;subst e;exact⟨fun e2=>hne _ e2 rfl,hg⟩)
theorem rM.acH{c:Cv}{b:List UInt8}{cB:Nat}{sL uK sF:Value}{jL:List VE}{o:Obj}{x:V}{m0:Nat}(h:rM w c M b gO g1 A cB sL sF jL [] wr)(hg:Grow wr w3)(hm0:wr.heap.size≤m0)(fU:m0≤w3.heap.size)
 (hx:pE w3 m0 w3.heap.size x cx) (hown:w4.ownsRow (w.heap.size+2) 27 5 uK (jL.length+1) (cellsOf Gb jL++cx.cells.toList)) (hgr:(w3.alloc o).grownBy w4 sL.ownBlock)
 (iQ:uK.ownBlock=sL.ownBlock∨uK.ownBlock=some (w3.alloc o).heap.size):rM w c M b gO g1 A cB uK sF (jL++[⟨⟨#[]⟩,x,cx,m0,w3.heap.size⟩]) [] (w4.setCell ⟨gO,3,none⟩ uK):=by
 have ko:=hg.alloc o;have hz3:(w3.alloc o).heap.size=w3.heap.size+1:=by simp
 have zq:=hgr.size;have hzg:=hg.size;have hM:=h.hM;have hO:=h.hO;have hzs:(w4.setCell ⟨gO,3,none⟩ uK).heap.size=w4.heap.size:=by simp[World.setCell]
 have hown':∀k,uK.ownBlock=some k→sL.ownBlock=some k∨k=w3.heap.size+1:=fun k e=>by
  rcases iQ with q | q
  ·exact .inl (q ▸ e)
  rw[q] at e;injection e with e;exact .inr (by omega)
 have hVL:=(gY.add (s:=⟨#[]⟩) (m0:=m0) (h.list.grow hg) (fun k hk=>bG (h.list.ot hk).2 hm0) (by omega) (by have:=h.grow.size;omega) (fun y hy=>aV (h.list.part y hy).2.2.2.1 hm0) hx hown hgr iQ);refine⟨((h.grow.trans ko).grown hgr (fun k hk=>by have:=(h.list.ot hk).1;omega)).setCell (by show w.heap.size≤gO;omega) _,(qC (h.src.grow ko) hgr (fun k hk=>by have:=(h.list.ot hk).1;omega)).far (by show w.heap.size≠gO;omega) _,(qC (h.res.grow ko) hgr (fun k hk=>by have:=(h.list.ot hk).1;omega)).far (by show w.heap.size+1≠gO;omega) _,
  (qC (h.zo.grow ko) hgr (fun k hk=>(h.Bv k hk).1)).aY 3 uK,?_,h.own,hVL.OG (fun k hk=>?_) hO.2 3 uK,?_,hO,h.h1,by omega,fun k hk=>?_,h.xW,fun k hk=>?_,fun y hy k hk=>?_⟩
 ·refine o_ (o_ (h.row.grow ko) hgr ?_) (rN w4 gO 3 uK) (.inr ?_)
  ·cases hs:sL.ownBlock with
   | none=>rw[h.own];simp
   | some k=>right;rw[h.own];intro e;injection e with e;exact(h.Bv k hs).2 e.symm
  rw[h.own];intro e;injection e with e;exact h.h1.2 e
 ·rcases hown' k hk with q | q
  ·exact(h.Bv k q).1
  omega
 ·refine⟨o_ (o_ (h.mL.grow ko).own hgr ?_) (rN w4 gO 3 uK) ?_,fun y hy=>by simp at hy,fun i j hi=>by simp at hi⟩
  ·cases hs:sL.ownBlock with
   | none=>cases sF.ownBlock<;>simp
   | some k=>right;exact fun e=>h.KE k hs e
  right;intro e;exact(h.xW gO e).1 rfl
 ·rcases hown' k hk with q | q
  ·exact h.Bv k q
  have:=h.h1.1;omega
 ·rcases hown' k hk with q | q
  ·exact h.KE k q
  intro e;have:=(h.mL.ot e).2;omega
 have hlt:=(h.mL.ot hk).2;rcases qo.1 hy with hy | hy
 ·exact h.OE y hy k hk
 rw[rz] at hy;subst hy;intro q;have:=q.1;dsimp only at this;omega
theorem rM.OH{c:Cv}{b:List UInt8}{cB:Nat}{sL sF uL:Value}{jL mh:List VE}{o:Obj}{x:V}{m0:Nat}(h:rM w c M b gO g1 A cB sL sF jL mh wr)(hg:Grow wr w3)(hm0:wr.heap.size≤m0)(fU:m0≤w3.heap.size)
 (hx:pE w3 m0 w3.heap.size x cx) (hown:w4.ownsRow (w.heap.size+2) 82 6 uL (mh.length+1) (cellsOf uJ mh++(uJ s++cx.cells.toList))) (hgr:(w3.alloc o).grownBy w4 sF.ownBlock)
 (iQ:uL.ownBlock=sF.ownBlock∨uL.ownBlock=some (w3.alloc o).heap.size):rM w c M b gO g1 A cB sL uL jL (mh++[⟨s,x,cx,m0,w3.heap.size⟩]) (w4.setCell ⟨gO,4,none⟩ uL):=by
 have ko:=hg.alloc o;have hz3:(w3.alloc o).heap.size=w3.heap.size+1:=by simp
 have zq:=hgr.size;have hzg:=hg.size;have hM:=h.hM;have hO:=h.hO;have hzs:(w4.setCell ⟨gO,4,none⟩ uL).heap.size=w4.heap.size:=by simp[World.setCell]
 have hown':∀k,uL.ownBlock=some k→sF.ownBlock=some k∨k=w3.heap.size+1:=fun k e=>by
  rcases iQ with q | q
  ·exact .inl (q ▸ e)
  rw[q] at e;injection e with e;exact .inr (by omega)
 have hVF:=(gY.add (s:=s) (m0:=m0) (h.mL.grow hg) (fun k hk=>bG (h.mL.ot hk).2 hm0) (by omega) (by have:=h.grow.size;omega) (fun y hy=>aV (h.mL.part y hy).2.2.2.1 hm0) hx hown hgr iQ);refine⟨((h.grow.trans ko).grown hgr (fun k hk=>by have:=(h.mL.ot hk).1;omega)).setCell (by show w.heap.size≤gO;omega) _,(qC (h.src.grow ko) hgr (fun k hk=>by have:=(h.mL.ot hk).1;omega)).far (by show w.heap.size≠gO;omega) _,(qC (h.res.grow ko) hgr (fun k hk=>by have:=(h.mL.ot hk).1;omega)).far (by show w.heap.size+1≠gO;omega) _,
  (qC (h.zo.grow ko) hgr (fun k hk=>(h.xW k hk).1)).aY 4 uL,?_,h.own,?_,hVF.OG (fun k hk=>?_) hO.2 4 uL,hO,h.h1,by omega,h.Bv,fun k hk=>?_,fun k hk e=>?_,fun y hy k hk=>?_⟩
 ·refine o_ (o_ (h.row.grow ko) hgr ?_) (rN w4 gO 4 uL) (.inr ?_)
  ·cases hs:sF.ownBlock with
   | none=>rw[h.own];simp
   | some k=>right;rw[h.own];intro e;injection e with e;exact(h.xW k hs).2 e.symm
  rw[h.own];intro e;injection e with e;exact h.h1.2 e
 ·have Gc:=h.list.grow ko;have hl4:gY w4 27 Gb 5 (w.heap.size+2) M (w.heap.size+2) sL jL:=by
   refine⟨o_ Gc.own hgr ?_,fun y hy=>?_,Gc.apart⟩
   ·cases hs:sF.ownBlock with
    | none=>cases sL.ownBlock<;>simp
    | some k=>right;exact fun e=>h.KE k e hs
   obtain⟨p1,p2,p3,p4⟩:=Gc.part y hy;exact⟨p1,p2,p3,p4.blocks hgr.size (fun k hk hk'=>hgr.block k (bG hk' p4.1) (fun e=>h.OE y hy k e.symm ⟨hk,hk'⟩))⟩
  exact hl4.OG (fun k hk=>(h.Bv k hk).1) hO.2 4 uL
 ·rcases hown' k hk with q | q
  ·exact(h.xW k q).1
  omega
 ·rcases hown' k hk with q | q
  ·exact h.xW k q
  have:=h.h1.1;omega
 ·rcases hown' k e with q | q
  ·exact h.KE k hk q
  have:=(h.list.ot hk).2;omega
 rcases hown' k hk with q | q
 ·exact h.OE y hy k q
 have:=(h.list.part y hy).2.2.2.1;intro e;omega
theorem rM.start{wx:World}{c:Cv}{b:List UInt8}{p:Value}(hw:Grow w W0)(hz:W0.heap.size=w.heap.size+2)(hs:Blk W0 w.heap.size 27 c.cells)(hr:Blk W0 (w.heap.size+1) 27 #[.int .i64 0,.int .u64 0,.slice none 0 0,.slice none 0 0,.slice none 0 0])
 (h:DT W0 c.k c.n b nL nF p wx):∃gO g1 g3 g4 A cB,p=.pointer (some ⟨gO,0,none⟩)∧rM w c (wx.heap.size-1) b gO g1 A cB (.slice (some ⟨g3,0,none⟩) 0 nL) (.slice (some ⟨g4,0,none⟩) 0 nF) [] [] wx:=by
 obtain⟨gO,g1,g3,g4,A,cB,rfl,hO,hC,xV,h3,h4,hg,uI,d13,d14,d1O,d34,d3O,d4O⟩:=h;rw[hz] at hC h3 h4 uI;have hOl:=hO.lt;have h1l:=(bJ hC g1 xV).2;refine⟨gO,g1,g3,g4,A,cB,rfl,hw.trans hg,hs.grow hg,hr.grow hg,hO,hC,xV,⟨h3,fun x hx=>by simp at hx,fun i j hi=>by simp at hi⟩,⟨h4,fun x hx=>by simp at hx,fun i j hi=>by simp at hi⟩,⟨uI,by omega⟩,⟨by omega,d1O⟩,by omega,fun k hk=>?_,fun k hk=>?_,fun k hk e=>?_,fun x hx=>by simp at hx⟩
 ·have e:g3=k:=nZ hk;subst e;exact⟨d3O,fun e=>d13 e.symm⟩
 ·have e:g4=k:=nZ hk;subst e;exact⟨d4O,fun e=>d14 e.symm⟩
 have e1:g3=k:=nZ hk;have e2:g4=k:=nZ e;omega
theorem rM.done{k:Int}{n:Nat}{aB aL aF:Option Addr}{nB cB0 nL0 cL0 nF0 cF0:Nat}{b:List UInt8}{AL AF:Option Addr}{cB pF ov:Nat}{jL mh:List VE}(h:rM w ⟨k,n,aB,nB,cB0,aL,nL0,cL0,aF,nF0,cF0⟩ M b gO g1 A cB (.slice AL jL.length pF) (.slice AF mh.length ov) jL mh wr)
 (hs:∀x∈mh,x.s.size≤140737488355328) (h1:-9223372036854775808≤k) (h2:k≤9223372036854775807) (hn:n<18446744073709551616) (hb:b.length≤140737488355328) (hl:jL.length≤140737488355328) (hf:mh.length≤140737488355328) {e:Ending}
 (he:e=.returned (Cv.agg ⟨k,n,A,b.length,cB,AL,jL.length,pF,AF,mh.length,ov⟩)) :
 VP w (.mk k n b (jL.map VE.v) (mh.map fun x=>(x.s,x.v))) e (rL wr (w.heap.size+1) ⟨k,n,A,b.length,cB,AL,jL.length,pF,AF,mh.length,ov⟩):=by
 subst he;have bK:=VO wr (w.heap.size+1) ⟨k,n,A,b.length,cB,AL,jL.length,pF,AF,mh.length,ov⟩;have xX:=acI wr (w.heap.size+1) ⟨k,n,A,b.length,cB,AL,jL.length,pF,AF,mh.length,ov⟩;have hO:=h.hO;have hL:=((h.list.lower (KF:=w.heap.size+1) (by omega)).kept bK (fun q e=>by injection e with e;exact⟨fun e2=>by have:=(h.list.ot e2).1;omega,by omega⟩)).acJ rfl (au _) (by omega) hl;have hF:=((h.mL.lower (KF:=w.heap.size+1) (by omega)).kept bK (fun q e=>by injection e with e;exact⟨fun e2=>by have:=(h.mL.ot e2).1;omega,by omega⟩)).acK hs rfl (au _) (by omega) hf;have hR:Row (rL wr (w.heap.size+1) ⟨k,n,A,b.length,cB,AL,jL.length,pF,AF,mh.length,ov⟩) (w.heap.size+2) (.slice A b.length cB) b.length b:=o_ h.row bK (.inr (by
  rw[h.own];intro e;injection e with e;have:=(bJ h.row g1 h.own).1;omega))
 have hcapB:=acE hR;have hRd:=acF hR;generalize rL wr (w.heap.size+1) ⟨k,n,A,b.length,cB,AL,jL.length,pF,AF,mh.length,ov⟩=W at *;refine⟨⟨k,n,A,b.length,cB,AL,jL.length,pF,AF,mh.length,ov⟩,rfl,⟨au _,?_⟩,h.grow.grown bK (fun q e=>by injection e with e;omega)⟩;rw[lG] at hL hF ⊢;obtain⟨_,_,_,l4,_,_,_,_,_,_,l11,l12,_,_,_,⟨T,F8,rJ⟩,_⟩:=hL;obtain⟨_,_,_,_,f5,_,_,_,_,_,_,_,f13,f14,_,_,⟨U,hU1,hU2⟩⟩:=hF;refine⟨rfl,rfl,rfl,l4,f5,h1,h2,hn,hcapB,hb,l11,l12,f13,f14,eV (fun p u q=>⟨q.1,by have:=q.2.1;omega,q.2.2⟩) hRd,⟨T,fun i hi=>?_,rJ⟩,⟨U,fun i hi=>?_,hU2⟩⟩
 ·obtain⟨bk,o,x,r1,r2,r3,r4,r5,r6⟩:=F8 i hi;exact⟨bk,o,x,r1,⟨by have:=r2.1;omega,r2.2⟩,r3,fun q hq=>⟨by have:=(r4 q hq).1;omega,(r4 q hq).2⟩,kV.mono (fun _ _ z=>z.1) r5,lG.mono _ _ _ _ (fun _ _ z _=>z.1) (fun _ z=>z) r6⟩
 obtain⟨bk,o,x,r1,r2,r3,r4,r5,r6,r7,r8⟩:=hU1 i hi;exact⟨bk,o,x,r1,⟨by have:=r2.1;omega,r2.2⟩,r3,fun q hq=>⟨by have:=(r4 q hq).1;omega,(r4 q hq).2⟩,r5.1,r6,kV.mono (fun _ _ z=>z.1) r7,lG.mono _ _ _ _ (fun _ _ z _=>z.1) (fun _ z=>z) r8⟩
end
section
open Go.RowKit Go.Shelf Go.WideShapes
theorem acL{S:World→Prop}(L:Bool→Bool→Bool→Bool→Bool→Array Bool)(A:Value→Value→Value→Value→Value→Act)
 (I:Bool→Bool→Bool→Bool→Bool→Value→Value→Value→Value→Value→World→Prop) {l:Array Bool}  {n:Nat} (hn:n=7)
 (hl:l=L false false false false false) (ha:a=A undef undef undef undef undef) (h0:I false false false false false undef undef undef undef undef W)
 (h:∀(f:Nat) b1 b2 b3 b4 b5 x1 x2 x3 x4 x5 W,f=(!b1).toNat+(!b2).toNat+(!b3).toNat+(!b4).toNat+(!b5).toNat+1→I b1 b2 b3 b4 b5 x1 x2 x3 x4 x5 W →
  (∀c1 c2 c3 c4 c5 y1 y2 y3 y4 y5 W',f=(!c1).toNat+(!c2).toNat+(!c3).toNat+(!c4).toNat+(!c5).toNat+2→I c1 c2 c3 c4 c5 y1 y2 y3 y4 y5 W'→wpAnyH P md ops Q S f (L c1 c2 c3 c4 c5) (A y1 y2 y3 y4 y5) W') →
  wpAnyH P md ops Q S (f+1) (L b1 b2 b3 b4 b5) (A x1 x2 x3 x4 x5) W):wpAnyH P md ops Q S n l a W:=by
 have key:∀(f:Nat) b1 b2 b3 b4 b5 x1 x2 x3 x4 x5 W,f=(!b1).toNat+(!b2).toNat+(!b3).toNat+(!b4).toNat+(!b5).toNat+2→I b1 b2 b3 b4 b5 x1 x2 x3 x4 x5 W→wpAnyH P md ops Q S f (L b1 b2 b3 b4 b5) (A x1 x2 x3 x4 x5) W:=by
  intro f
  induction f with
  | zero=>intro b1 b2 b3 b4 b5 x1 x2 x3 x4 x5 W e;omega
  | succ f ih =>
   intro b1 b2 b3 b4 b5 x1 x2 x3 x4 x5 W e hI;exact h f b1 b2 b3 b4 b5 x1 x2 x3 x4 x5 W (by omega) hI (fun c1 c2 c3 c4 c5 y1 y2 y3 y4 y5 W' e' h'=>ih c1 c2 c3 c4 c5 y1 y2 y3 y4 y5 W' e' h')
 subst hl ha hn;exact key 7 _ _ _ _ _ _ _ _ _ _ _ rfl h0
theorem gG.forms{b:List UInt8}(h:gG W0 b nL nF b1 true true true b5 x1 x2 x3 x4 x5 W):∃A c g3 g4,x2=.slice A b.length c∧x3=.slice (some ⟨g3,0,none⟩) 0 nL∧x4=.slice (some ⟨g4,0,none⟩) 0 nF:=by
 obtain⟨g1,g3,g4,g5,hg,h12,h1,h2,h3,h4,h5,_⟩:=h;obtain⟨A,c,e,_,_⟩:=h2 rfl;exact⟨A,c,g3,g4,e,(h3 rfl).1,(h4 rfl).1⟩
theorem acM{l:List V}{es:List VE}(h:j<l.length)(e:es.map VE.v=l.take j){x:VE}(hx:x.v=l[j]):(es++[x]).map VE.v=l.take (j+1):=by
 rw[l7,e,N5,bH h];simp[hx]
theorem OI{f:List (ByteArray×V)}{es:List VE}(h:j<f.length)(e:es.map (fun x=>(x.s,x.v))=f.take j){x:VE}(hx:(x.s,x.v)=f[j]):(es++[x]).map (fun x=>(x.s,x.v))=f.take (j+1):=by
 rw[l7,e,N5,bH h];simp[hx]
theorem Src.VQ{W:World}(c:Cv)(e:TypeId)(hg:g=w.heap.size):Src prog 5 24 (.slice (some ⟨g,0,none⟩) 1 1) 1 c.cells.toList (w.alloc (.cells c.cells e)):=by
 subst hg;exact Src.OJ c e
theorem DU(v:V):v.nE→∀(w:World) (c:Cv),In w v c→Calls prog 42 #[c.agg] w (VP w v):=by
 induction v using V.ind with
 | h k n b l f hl hf =>
  intro hsm w c hv;rw[V.OL] at hsm;obtain⟨hbl,hll,hfl,hsl,VS⟩:=hsm;have HV:=aa hv;have Hl:=aa (fun j (h:j<l.length)=>hl l[j] (aS h) (hsl l[j] (aS h)));have Hf:=aa (fun j (h:j<f.length)=>hf f[j] (aS h) (VS f[j] (aS h)));obtain⟨aB,aL,aF,cB,cL,cF,rfl,h1,h2,h3,h4,h5,h6,h7,h8,h9,hR⟩:=hv.open;obtain⟨cur,tB,hmk⟩:=OM b.length (by omega);obtain⟨am2,VT,acN⟩:=OC l.length hll;obtain⟨am3,VV,acO⟩:=acD f.length hfl;have hc0:=((az w 27 (Cv.cells ⟨k,n,aB,b.length,cB,aL,l.length,cL,aF,f.length,cF⟩)).alloc (.cells Cv.zero.cells 27));have uM:=aa hc0;have hcell:=hc0.cell
  have HS:=aa (show ∀w',Grow (((w.alloc (.cells (Cv.cells ⟨k,n,aB,b.length,cB,aL,l.length,cL,aF,f.length,cF⟩) 27)).alloc (.cells #[.int .i64 0,.int .u64 0,.slice none 0 0,.slice none 0 0,.slice none 0 0] 27)).drew) w'→∀i,w'.cell? ⟨w.heap.size,i,none⟩=(Cv.cells ⟨k,n,aB,b.length,cB,aL,l.length,cL,aF,f.length,cF⟩)[i]? from fun w' h=>(hc0.drew.grow h).cell);have kp:=aa (show ∀w',Grow w w'→Src prog 1 23 (.slice aB b.length cB) b.length (b_ b) w' from fun w' h=>eW fk (bh.grow hR h) (iI _));obtain⟨i0,hi0,hz0',hz1,hz2⟩:=info_parts F6;have qs:=aa hi0;have qu:=aa hz0';have qw:=aa hz1;have qx:=aa hz2;clear hi0 hz0' hz1 hz2 hl hf hsl VS hv;clear hR h4 h5 h6 h7 h8 h9 hc0;go_enter func42,ntmps42;go_upto_region 1 with fail
  go_cut [3] (fun p wx=>DT (((w.alloc (.cells (Cv.cells ⟨k,n,aB,b.length,cB,aL,l.length,cL,aF,f.length,cF⟩) 27)).alloc (.cells #[.int .i64 0,.int .u64 0,.slice none 0 0,.slice none 0 0,.slice none 0 0] 27)).drew) k n b l.length f.length p wx)
  case first =>
   refine dg ?_;refine cW (S:=fun w'=>∀i,w'.cell? ⟨w.heap.size,i,none⟩=(Cv.cells ⟨k,n,aB,b.length,cB,aL,l.length,cL,aF,f.length,cF⟩)[i]?) (by kernel_rfl) (hcell) (fun hHeld=>?_);refine ai 0 ?_;refine ai 1 ?_;refine ai 2 ?_;refine ai 3 ?_;refine ai 4 ?_;refine ai 5 ?_;refine ai 6 ?_;refine ai 8 ?_;refine ai 9 ?_;refine ai 11 ?_;refine ai 12 ?_;refine ai 13 ?_;refine ai 15 ?_;refine ai 16 ?_;refine ai 17 ?_;have DV:=aa ((((ah w).alloc (.cells (Cv.cells ⟨k,n,aB,b.length,cB,aL,l.length,cL,aF,f.length,cF⟩) 27)).alloc (.cells #[.int .i64 0,.int .u64 0,.slice none 0 0,.slice none 0 0,.slice none 0 0] 27)).drew);clear hcell hHeld uM HV Hl Hf
   generalize VW:((w.alloc (.cells (Cv.cells ⟨k,n,aB,b.length,cB,aL,l.length,cL,aF,f.length,cF⟩) 27)).alloc (.cells #[.int .i64 0,.int .u64 0,.slice none 0 0,.slice none 0 0,.slice none 0 0] 27)).drew=W0 at HS DV ⊢;have VX:=aa VW;clear VW
   refine acL (fun b1 b2 b3 b4 b5=>#[true,true,true,true,true,true,true,b1,true,true,b2,true,true,true,b3,true,true,true,b4,false,b5,false]) (fun x1 x2 x3 x4 x5=>{ tmps:=#[(Cv.agg ⟨k,n,aB,b.length,cB,aL,l.length,cL,aF,f.length,cF⟩),.pointer (some ⟨w.heap.size,0,none⟩),.pointer (some ⟨w.heap.size+1,0,none⟩),x5,undef,undef,undef,undef,.pointer (some ⟨w.heap.size,0,none⟩),.int .i64 k,.pointer (some ⟨w.heap.size,1,none⟩),.int .u64 n,.pointer (some ⟨w.heap.size,2,none⟩),.slice aB b.length cB,.int .i64 b.length,x1,.pointer (some ⟨w.heap.size,2,none⟩),.slice aB b.length cB,x2,.pointer (some ⟨w.heap.size,3,none⟩),.slice aL l.length cL,.int .i64 l.length,x3,.pointer (some ⟨w.heap.size,4,none⟩),.slice aF f.length cF,.int .i64 f.length,x4,undef,undef,undef,undef,undef,undef,undef,undef,undef,undef,undef,undef,undef,undef,undef,undef,undef,undef,undef,undef,undef,undef,undef,undef,undef,undef,undef,undef,undef,undef,undef,undef,undef,undef,undef,undef],defers:=[] }) (gG W0 b l.length f.length) rfl (by kernel_rfl) rfl ?_ ?_
   ·exact⟨0,0,0,0,ah _,fun e=>(by cases e),fun e=>(by cases e),fun e=>(by cases e),fun e=>(by cases e),fun e=>(by cases e),fun e=>(by cases e),⟨fun e=>(by cases e),fun e=>(by cases e),fun e=>(by cases e),fun e=>(by cases e)⟩,⟨fun e=>(by cases e),fun e=>(by cases e),fun e=>(by cases e),fun e=>(by cases e),fun e=>(by cases e),fun e=>(by cases e)⟩⟩
   intro fu b1 b2 b3 b4 b5 x1 x2 x3 x4 x5 W uN hI IH;dsimp only at IH ⊢
   cases e1:b1<;>cases e2:b2<;>cases e3:b3<;>cases e4:b4<;>cases e5:b5<;>first | exact absurd ((hI.le e2).symm.trans e1) (by decide) | skip
   rotate_right
   ·subst e1 e2 e3 e4 e5;obtain rfl:fu=1:=uN;clear IH;obtain⟨A,cC,g3,g4,rfl,rfl,rfl⟩:=hI.forms;have hHeld:=HS.o _ hI.grow;refine ai 19 ?_;obtain⟨g1,g3',g4',gO,e3,e4,rfl,hg,hC,xV,OO,OP,hO,uI,hd⟩:=hI.done;injection e3 with e3;injection e3 with e3;injection e3 with e3;injection e4 with e4;injection e4 with e4;injection e4 with e4;subst e3 e4;have hOc:=hO.cell;have KG:=hO.frozen;clear hI;refine bC [21] ?_;refine fg rfl (fun K hK=>?_) dM;go_simp;refine hK.out _ _ (HS.o _ (hg.mK uI ⟨k,n,A,b.length,cC,some ⟨g3,0,none⟩,0,l.length,some ⟨g4,0,none⟩,0,f.length⟩)) (fun hHeld=>?_);refine cG ?_;go_wp2_with fail;go_meet;rw[VX.o];exact DT.make hg hC xV OO OP hO uI hd
   rotate_right
   ·subst e1 e2 e3 e4 e5;obtain rfl:fu=2:=uN;clear IH;obtain⟨A,cC,g3,g4,rfl,rfl,rfl⟩:=hI.forms;have hHeld:=HS.o _ hI.grow;refine ai 19 ?_;refine bC [20] ?_;refine fg rfl (fun K hK=>?_) dM;go_simp;have Gd:=hI.KD;refine hK.out _ _ (HS.o _ Gd.grow) (fun hHeld=>?_);clear hI hHeld;simp only[aH];generalize W.alloc (.cells #[.int .i64 0,.int .u64 0,.slice none 0 0,.slice none 0 0,.slice none 0 0] 27)=W5 at Gd ⊢;generalize Value.pointer (some ⟨W.heap.size,0,none⟩)=x5 at Gd ⊢;have hI:=Gd;clear Gd;obtain⟨g1,g3',g4',gO,e3,e4,rfl,hg,hC,xV,OO,OP,hO,uI,hd⟩:=hI.done;injection e3 with e3;injection e3 with e3;injection e3 with e3;injection e4 with e4;injection e4 with e4;injection e4 with e4;subst e3 e4;have hOc:=hO.cell;have KG:=hO.frozen;clear hI;refine bC [21] ?_
    refine fg rfl (fun K hK=>?_) dM;go_simp;refine hK.out _ _ (HS.o _ (hg.mK uI ⟨k,n,A,b.length,cC,some ⟨g3,0,none⟩,0,l.length,some ⟨g4,0,none⟩,0,f.length⟩)) (fun hHeld=>?_);refine cG ?_;go_wp2_with fail;go_meet;rw[VX.o];exact DT.make hg hC xV OO OP hO uI hd
   all_goals
    first
    | (have:=(⟨e1,e3,e4,e5⟩:b1=false∧b3=false∧b4=false∧b5=false);refine bC [7,14,18,20] ?_)
    | (have:=(⟨e1,e3,e4,e5⟩:b1=false∧b3=false∧b4=false∧b5=true);refine bC [7,14,18] ?_)
    | (have:=(⟨e1,e3,e4,e5⟩:b1=false∧b3=false∧b4=true∧b5=false);refine bC [7,14,20] ?_)
    | (have:=(⟨e1,e3,e4,e5⟩:b1=false∧b3=false∧b4=true∧b5=true);refine bC [7,14] ?_)
    | (have:=(⟨e1,e3,e4,e5⟩:b1=false∧b3=true∧b4=false∧b5=false);refine bC [7,18,20] ?_)
    | (have:=(⟨e1,e3,e4,e5⟩:b1=false∧b3=true∧b4=false∧b5=true);refine bC [7,18] ?_)
    | (have:=(⟨e1,e3,e4,e5⟩:b1=false∧b3=true∧b4=true∧b5=false);refine bC [7,20] ?_)
    | (have:=(⟨e1,e3,e4,e5⟩:b1=false∧b3=true∧b4=true∧b5=true);refine bC [7] ?_)
    | (have:=(⟨e1,e2,e3,e4,e5⟩:b1=true∧b2=false∧b3=false∧b4=false∧b5=false);refine bC [10,14,18,20] ?_)
    | (have:=(⟨e1,e2,e3,e4,e5⟩:b1=true∧b2=false∧b3=false∧b4=false∧b5=true);refine bC [10,14,18] ?_)
    | (have:=(⟨e1,e2,e3,e4,e5⟩:b1=true∧b2=false∧b3=false∧b4=true∧b5=false);refine bC [10,14,20] ?_)
    | (have:=(⟨e1,e2,e3,e4,e5⟩:b1=true∧b2=false∧b3=false∧b4=true∧b5=true);refine bC [10,14] ?_)
    | (have:=(⟨e1,e2,e3,e4,e5⟩:b1=true∧b2=false∧b3=true∧b4=false∧b5=false);refine bC [10,18,20] ?_)
    | (have:=(⟨e1,e2,e3,e4,e5⟩:b1=true∧b2=false∧b3=true∧b4=false∧b5=true);refine bC [10,18] ?_)
    | (have:=(⟨e1,e2,e3,e4,e5⟩:b1=true∧b2=false∧b3=true∧b4=true∧b5=false);refine bC [10,20] ?_)
    | (have:=(⟨e1,e2,e3,e4,e5⟩:b1=true∧b2=false∧b3=true∧b4=true∧b5=true);refine bC [10] ?_)
    | (have:=(⟨e2,e3,e4,e5⟩:b2=true∧b3=false∧b4=false∧b5=false);refine bC [14,18,20] ?_)
    | (have:=(⟨e2,e3,e4,e5⟩:b2=true∧b3=false∧b4=false∧b5=true);refine bC [14,18] ?_)
    | (have:=(⟨e2,e3,e4,e5⟩:b2=true∧b3=false∧b4=true∧b5=false);refine bC [14,20] ?_)
    | (have:=(⟨e2,e3,e4,e5⟩:b2=true∧b3=false∧b4=true∧b5=true);refine bC [14] ?_)
    | (have:=(⟨e2,e3,e4,e5⟩:b2=true∧b3=true∧b4=false∧b5=false);refine bC [18,20] ?_)
    | (have:=(⟨e2,e3,e4,e5⟩:b2=true∧b3=true∧b4=false∧b5=true);refine bC [18] ?_)
    have I1:=IH true b2 b3 b4 b5
    have I2:=IH b1 true b3 b4 b5
    have I3:=IH b1 b2 true b4 b5
    have I4:=IH b1 b2 b3 true b5
    have I5:=IH b1 b2 b3 b4 true
    clear IH
    subst e1 e2 e3 e4 e5
    first | obtain rfl:fu=6:=uN | obtain rfl:fu=5:=uN | obtain rfl:fu=4:=uN | obtain rfl:fu=3:=uN | obtain rfl:fu=2:=uN
    try
     refine fg (i:=7) rfl (fun K hK=>?_) ?_
     go_simp
     have iR:=hI.mk1 tB hbl
     refine hK.out _ _ (HS.o _ iR.grow) (fun hHeld=>?_)
     simp only[aH]
     exact I1 _ _ _ _ _ _ rfl iR
    try
     refine fg (i:=10) rfl (fun K hK=>?_) ?_
     obtain⟨g,rfl,hA⟩:=hI.made
     refine oa (by rfl) (.tmp 15) (.tmp 17) 23 23 (by rfl) W0.heap.size 5 i0 _ 1 1 fk qs.o qu.o qw.o qx.o (by rfl) (.slice (some ⟨g,0,none⟩) 0 b.length) 0 (b_ []) (by rfl) hA (.slice aB b.length cB) b.length (b_ b) (by rfl) (kp.o _ (DV.o.trans hI.grow)) (by omega) (by simp only[maxLen];omega) hI.grow.size ?_
     intro A cC W2 hown hgr iQ
     simp only[eo] at hown iQ ⊢
     have iR:=hI.mk2 rfl hown hgr iQ
     refine hK.out _ _ (HS.o _ iR.grow) (fun hHeld=>?_)
     simp only[aH]
     exact I2 _ _ _ _ _ _ rfl iR
    try
     refine fg (i:=14) rfl (fun K hK=>?_) ?_
     go_simp
     have iR:=hI.OD VT hll
     refine hK.out _ _ (HS.o _ iR.grow) (fun hHeld=>?_)
     simp only[aH]
     exact I3 _ _ _ _ _ _ rfl iR
    try
     refine fg (i:=18) rfl (fun K hK=>?_) ?_
     go_simp
     have iR:=hI.mk4 VV hfl
     refine hK.out _ _ (HS.o _ iR.grow) (fun hHeld=>?_)
     simp only[aH]
     exact I4 _ _ _ _ _ _ rfl iR
    try
     refine fg (i:=20) rfl (fun K hK=>?_) ?_
     go_simp
     have iR:=hI.KD
     refine hK.out _ _ (HS.o _ iR.grow) (fun hHeld=>?_)
     simp only[aH]
     exact I5 _ _ _ _ _ _ rfl iR
    exact dM
  have hw0:=uM.o.drew;have zr:=((az (w.alloc (.cells (Cv.cells ⟨k,n,aB,b.length,cB,aL,l.length,cL,aF,f.length,cF⟩) 27)) 27 #[.int .i64 0,.int .u64 0,.slice none 0 0,.slice none 0 0,.slice none 0 0]).drew);rw[show (w.alloc (.cells (Cv.cells ⟨k,n,aB,b.length,cB,aL,l.length,cL,aF,f.length,cF⟩) 27)).heap.size=w.heap.size+1 by simp] at zr;obtain⟨gO,g1,g3,g4,A,cC,rfl,hR⟩:=rM.start (w:=w) (c:=⟨k,n,aB,b.length,cB,aL,l.length,cL,aF,f.length,cF⟩) ((((ah w).alloc _).alloc _).drew) (by simp) hw0 zr hcut;rename World=>wx;have tC:=hR.src.cell;have OQ:=aa hR;obtain⟨M,hM⟩:∃M,M=wx.heap.size-1:=⟨_,rfl⟩;rw[← hM] at OQ;clear hM hw0 zr hcut HS uM hcell kp qs qu qw qx tB hmk VT acN VV acO hR;obtain⟨i0,hi0,hz0',hz1,hz2⟩:=info_parts qB;have qs:=aa hi0;have qu:=aa hz0'
  have qw:=aa hz1;have qx:=aa hz2;clear hi0 hz0' hz1 hz2;obtain⟨j0,KH,VY,hy1,hy2⟩:=info_parts VN;have OS:=aa KH;have OT:=aa VY;have OU:=aa hy1;have OV:=aa hy2;clear KH VY hy1 hy2;go_wp2_with fail;go_loopg [31] (l.length+1) (fun gk i wr=>∃(j:Nat) (es:List VE) (AL:Option Addr) (pF:Nat),j≤l.length∧gk+j=l.length+1∧i=.int .i64 j∧es.length=j∧es.map VE.v=l.take j∧rM w ⟨k,n,aB,b.length,cB,aL,l.length,cL,aF,f.length,cF⟩ M b gO g1 A cC (.slice AL es.length pF) (.slice (some ⟨g4,0,none⟩) 0 f.length) es [] wr);exact⟨0,[],_,_,aR _,by omega,rfl,rfl,by simp,OQ.o⟩;obtain⟨j,es,AL,pF,hj,ji,rfl,OW,hes,hR⟩:=hrel;obtain⟨gk',rfl⟩:=bz gk (by omega);have HR:=aa hR;have tD:=aa hes;have HEJ:=aa OW;have hel:es.length≤1000000000:=by omega
  clear hR hes tC OQ;by_cases hlt:j<l.length
  ·obtain⟨bk,o,cx,ha,hbk,e0,e1,e2,e3,e4,hx⟩:=(HV.o.grow HR.o.grow).fh j hlt;dsimp only at ha;subst ha;have HX:=aa hx;clear hx OW;have qD:=(HR.o.zo.alloc (.cells cx.cells 27)).cell;have lH:=(az wr 27 cx.cells).cell;have HC:=aa (Hl.o j hlt ((wr.alloc (.cells cx.cells 27)).drew) cx (HX.o.grow (((ah wr).alloc _).drew)));have bt:=aa (((ah wr).alloc (.cells cx.cells 27)).drew);go_wp2_with fail
   go_region_law ((first | (refine oa (by rfl) (.tmp 36) (.tmp 39) 24 24 (by rfl) (w.heap.size+2) 27 i0 _ 5 88 km qs.o qu.o qw.o qx.o (by rfl) (.slice AL es.length pF) es.length (cellsOf Gb es) (by rfl) ((FC lI _)) _ 1 cy.cells.toList (by rfl) (Src.OJ cy _) (by omega) (by simp only[maxLen];omega) (by have:=hz3;simp;omega) ?_;intro A4 c4 w4 uO mM uP;have hB4:=qC (jM.o.alloc _) mM (fun k hk=>(HR.o.Bv k hk).1);have iz:=hB4.cell;have im:=hB4.frozen) | (go_simp;go_at_call 42;refine HC.o.mono ?_;rintro e w3 ⟨cy,rfl,wJ,hg3⟩;have mi:=bt.o.trans hg3;have jM:=aa (HR.o.zo.grow mi);have hc3:=jM.o.cell;have DW:=(jM.o.alloc (.cells cy.cells 27)).cell;have lI:=(HR.o.list.grow mi).own;have hz3:w.heap.size+2≤w3.heap.size:=(by have:=mi.size;have:=HR.o.hM;have:=HR.o.hO;omega))))
   all_goals
    have bY:=aa (HR.o.acH mi (m0:=wr.heap.size+1) (by omega) (by have:=hg3.size;simpa using this) (by simpa using wJ) uO mM uP)
    clear hB4 hc3 DW iz im wJ hg3 lI uO mM uP mi jM qD lH e0 e1 e2 e3 e4
    go_wp2_with fail
    go_roundg gk'
    have hn:(es++[(⟨⟨#[]⟩,l[j],cy,wr.heap.size+1,w3.heap.size⟩:VE)]).length=es.length+1:=by simp
    exact⟨j+1,es++[⟨⟨#[]⟩,l[j],cy,wr.heap.size+1,w3.heap.size⟩],A4,c4,by omega,by omega,by go_num,by rw[hn,HEJ.o],acM hlt tD.o rfl,by rw[hn];exact bY.o⟩
    omega
  obtain rfl:j=l.length:=by omega
  have OX:es.map VE.v=l:=by rw[tD.o,fT]
  have acP:=aa OX;have tC:=HR.o.src.cell;clear OX OW;go_wp2_with fail;go_loopg [46] (f.length+1) (fun wK i2 wr2=>∃(j:Nat) (fs:List VE) (AF:Option Addr) (ov:Nat),j≤f.length∧wK+j=f.length+1∧i2=.int .i64 j∧fs.length=j∧fs.map (fun x=>(x.s,x.v))=f.take j∧(∀x∈fs,x.s.size≤140737488355328)∧rM w ⟨k,n,aB,b.length,cB,aL,l.length,cL,aF,f.length,cF⟩ M b gO g1 A cC (.slice AL es.length pF) (.slice AF fs.length ov) es fs wr2);exact⟨0,[],_,_,aR _,by omega,rfl,rfl,by simp,fun x hx=>by simp at hx,HR.o⟩;obtain⟨j,fs,AF,ov,zt,OY,rfl,DX,ow,VZ,tE⟩:=hrel;obtain⟨OZ,rfl⟩:∃g,gk=g+1:=⟨gk-1,by omega⟩;have bM:=aa tE;have KI:=aa ow;have uQ:=aa VZ;have O0:=aa DX;have KJ:fs.length≤1000000000:=by omega
  clear tE ow VZ tC;by_cases dO:j<f.length
  ·obtain⟨bk,o,cx,ha,hbk,kq,ik,e0,e1,e2,e3,e4,hx⟩:=(HV.o.grow bM.o.grow).gX j dO;dsimp only at ha;subst ha;obtain⟨s,hs⟩:∃s,f[j].1=s:=⟨_,rfl⟩;rw[hs] at kq ik;have O1:=aa hs;have HX:=aa hx;clear hx DX hs;have qD:=(bM.o.zo.alloc (.cells (cx.mj s) 82)).cell;have Ge:=aa (az wr 82 (cx.mj s));have lH:=Ge.o.cell;have bt:=aa (((ah wr).alloc (.cells (cx.mj s) 82)).drew);have HC:=aa (Hf.o j dO ((wr.alloc (.cells (cx.mj s) 82)).drew) cx (HX.o.grow bt.o));go_upto_region 10 with fail;have rO:=aa (show ∀w',Grow (wr.alloc (.cells (cx.mj s) 82)) w'→∀i,w'.cell? ⟨wr.heap.size,i,none⟩=(cx.mj s)[i]? from fun w' h=>(Ge.o.grow h).cell);refine dg ?_
   refine cW (S:=fun w'=>∀i,w'.cell? ⟨wr.heap.size,i,none⟩=(cx.mj s)[i]?) (by kernel_rfl) ((rO.o _ (ah _).drew)) (fun hHeld=>?_);refine ai 0 ?_;refine ai 2 ?_;refine ai 3 ?_;refine ai 4 ?_;refine ai 5 ?_;refine bC [1,6] ?_;refine fg rfl (fun K hK=>?_) ?_
   ·go_simp;refine aT hK (rO.o _ (ah _).drew) (fun hHeld=>?_);refine bC [6] ?_;refine fg rfl (fun K hK=>?_) dM;go_simp;refine HC.o.mono ?_;rintro e w3 ⟨cy,rfl,wJ,hg3⟩;have mi:=bt.o.trans hg3;have jM:=aa (bM.o.zo.grow mi);have hc3:=jM.o.cell;have DW:=(jM.o.alloc (.cells (cy.mj s) 82)).cell;have lI:=(bM.o.mL.grow mi).own;have hz3:w.heap.size+2≤w3.heap.size:=(by have:=mi.size;have:=bM.o.hM;have:=bM.o.hO;omega);have hgx:Grow (wr.alloc (.cells (cx.mj s) 82)) w3:=(ah _).drew.trans hg3
    try go_simp
    refine aT hK (rO.o _ hgx) (fun hHeld=>?_);refine ai 7 ?_;refine bC [8] ?_;refine fg rfl (fun K hK=>?_) dM;go_simp;refine aT hK (rO.o _ (hgx.alloc _)) (fun hHeld=>?_);refine bC [9] ?_;refine fg rfl (fun K hK=>?_) dM;refine oa (by rfl) (.tmp 51) (.tmp 58) 25 25 (by rfl) (w.heap.size+2) 82 j0 _ 6 104 Bu OS.o OT.o OU.o OV.o (by rfl) (.slice AF fs.length ov) fs.length (cellsOf uJ fs) (by rfl) (FC lI _) _ 1 (uJ s++cy.cells.toList) (by rfl) (Src.O3 s cy _) (by omega) (by simp only[maxLen];omega) (by simp;omega) ?_;intro A4 c4 w4 uO mM uP;have hB4:=qC (jM.o.alloc _) mM (fun k hk=>(bM.o.xW k hk).1);have iz:=hB4.cell;have im:=hB4.frozen
    have uR:=aa (qC ((Ge.o.grow hgx).alloc _) mM (fun k hk=>by have:=(bM.o.mL.ot hk).2;omega));refine aT hK (uR.o.cell) (fun hHeld=>?_);refine ai 10 ?_;refine bC [11] ?_;refine fg rfl (fun K hK=>?_) dM;go_simp;refine aT hK (Blk.cell (uR.o.far (by show wr.heap.size≠gO;have:=bM.o.hM;have:=bM.o.hO;omega) _)) (fun hHeld=>?_);have bY:=aa (bM.o.OH (s:=s) mi (m0:=wr.heap.size+1) (by omega) (by have:=hg3.size;simpa using this) (by simpa using wJ) uO mM uP);refine cG ?_;clear hB4 hc3 DW iz im wJ hg3 lI uO mM uP mi jM qD lH e0 e1 e2 e3 e4 kq uR hgx hHeld;go_wp2_with fail;go_roundg OZ;have hn:(fs++[(⟨s,f[j].2,cy,wr.heap.size+1,w3.heap.size⟩:VE)]).length=fs.length+1:=by simp
    exact⟨j+1,fs++[⟨s,f[j].2,cy,wr.heap.size+1,w3.heap.size⟩],A4,c4,by omega,by omega,by go_num,by rw[hn,O0.o],OI dO KI.o (by rw[← O1.o]),fun x hx=>by
     rcases qo.1 hx with hx | hx
     ·exact uQ.o x hx
     rw[rz] at hx;subst hx;exact ik,by rw[hn];exact bY.o⟩
    omega
   refine fg rfl (fun K hK=>?_) dM;go_simp;refine HC.o.mono ?_;rintro e w3 ⟨cy,rfl,wJ,hg3⟩;have mi:=bt.o.trans hg3;have jM:=aa (bM.o.zo.grow mi);have hc3:=jM.o.cell;have DW:=(jM.o.alloc (.cells (cy.mj s) 82)).cell;have lI:=(bM.o.mL.grow mi).own;have hz3:w.heap.size+2≤w3.heap.size:=(by have:=mi.size;have:=bM.o.hM;have:=bM.o.hO;omega);have hgx:Grow (wr.alloc (.cells (cx.mj s) 82)) w3:=(ah _).drew.trans hg3
   try go_simp
   refine aT hK (rO.o _ hgx) (fun hHeld=>?_);refine ai 7 ?_;refine bC [1,8] ?_;refine fg rfl (fun K hK=>?_) ?_
   ·go_simp;refine aT hK (rO.o _ hgx) (fun hHeld=>?_);refine bC [8] ?_;refine fg rfl (fun K hK=>?_) dM;go_simp;refine aT hK (rO.o _ (hgx.alloc _)) (fun hHeld=>?_);refine bC [9] ?_;refine fg rfl (fun K hK=>?_) dM;refine oa (by rfl) (.tmp 51) (.tmp 58) 25 25 (by rfl) (w.heap.size+2) 82 j0 _ 6 104 Bu OS.o OT.o OU.o OV.o (by rfl) (.slice AF fs.length ov) fs.length (cellsOf uJ fs) (by rfl) (FC lI _) _ 1 (uJ s++cy.cells.toList) (by rfl) (Src.O3 s cy _) (by omega) (by simp only[maxLen];omega) (by simp;omega) ?_;intro A4 c4 w4 uO mM uP;have hB4:=qC (jM.o.alloc _) mM (fun k hk=>(bM.o.xW k hk).1);have iz:=hB4.cell;have im:=hB4.frozen
    have uR:=aa (qC ((Ge.o.grow hgx).alloc _) mM (fun k hk=>by have:=(bM.o.mL.ot hk).2;omega));refine aT hK (uR.o.cell) (fun hHeld=>?_);refine ai 10 ?_;refine bC [11] ?_;refine fg rfl (fun K hK=>?_) dM;go_simp;refine aT hK (Blk.cell (uR.o.far (by show wr.heap.size≠gO;have:=bM.o.hM;have:=bM.o.hO;omega) _)) (fun hHeld=>?_);have bY:=aa (bM.o.OH (s:=s) mi (m0:=wr.heap.size+1) (by omega) (by have:=hg3.size;simpa using this) (by simpa using wJ) uO mM uP);refine cG ?_;clear hB4 hc3 DW iz im wJ hg3 lI uO mM uP mi jM qD lH e0 e1 e2 e3 e4 kq uR hgx hHeld;go_wp2_with fail;go_roundg OZ;have hn:(fs++[(⟨s,f[j].2,cy,wr.heap.size+1,w3.heap.size⟩:VE)]).length=fs.length+1:=by simp
    exact⟨j+1,fs++[⟨s,f[j].2,cy,wr.heap.size+1,w3.heap.size⟩],A4,c4,by omega,by omega,by go_num,by rw[hn,O0.o],OI dO KI.o (by rw[← O1.o]),fun x hx=>by
     rcases qo.1 hx with hx | hx
     ·exact uQ.o x hx
     rw[rz] at hx;subst hx;exact ik,by rw[hn];exact bY.o⟩
    omega
   refine fg rfl (fun K hK=>?_) dM;go_simp;refine aT hK (rO.o _ (hgx.alloc _)) (fun hHeld=>?_);refine bC [1] ?_;refine fg rfl (fun K hK=>?_) dM;go_simp;refine aT hK (rO.o _ (hgx.alloc _)) (fun hHeld=>?_);refine bC [9] ?_;refine fg rfl (fun K hK=>?_) dM;refine oa (by rfl) (.tmp 51) (.tmp 58) 25 25 (by rfl) (w.heap.size+2) 82 j0 _ 6 104 Bu OS.o OT.o OU.o OV.o (by rfl) (.slice AF fs.length ov) fs.length (cellsOf uJ fs) (by rfl) (FC lI _) _ 1 (uJ s++cy.cells.toList) (by rfl) (Src.O3 s cy _) (by omega) (by simp only[maxLen];omega) (by simp;omega) ?_;intro A4 c4 w4 uO mM uP;have hB4:=qC (jM.o.alloc _) mM (fun k hk=>(bM.o.xW k hk).1);have iz:=hB4.cell;have im:=hB4.frozen
   have uR:=aa (qC ((Ge.o.grow hgx).alloc _) mM (fun k hk=>by have:=(bM.o.mL.ot hk).2;omega));refine aT hK (uR.o.cell) (fun hHeld=>?_);refine ai 10 ?_;refine bC [11] ?_;refine fg rfl (fun K hK=>?_) dM;go_simp;refine aT hK (Blk.cell (uR.o.far (by show wr.heap.size≠gO;have:=bM.o.hM;have:=bM.o.hO;omega) _)) (fun hHeld=>?_);have bY:=aa (bM.o.OH (s:=s) mi (m0:=wr.heap.size+1) (by omega) (by have:=hg3.size;simpa using this) (by simpa using wJ) uO mM uP);refine cG ?_;clear hB4 hc3 DW iz im wJ hg3 lI uO mM uP mi jM qD lH e0 e1 e2 e3 e4 kq uR hgx hHeld;go_wp2_with fail;go_roundg OZ;have hn:(fs++[(⟨s,f[j].2,cy,wr.heap.size+1,w3.heap.size⟩:VE)]).length=fs.length+1:=by simp
   exact⟨j+1,fs++[⟨s,f[j].2,cy,wr.heap.size+1,w3.heap.size⟩],A4,c4,by omega,by omega,by go_num,by rw[hn,O0.o],OI dO KI.o (by rw[← O1.o]),fun x hx=>by
    rcases qo.1 hx with hx | hx
    ·exact uQ.o x hx
    rw[rz] at hx;subst hx;exact ik,by rw[hn];exact bY.o⟩
   omega
  obtain rfl:j=f.length:=by omega
  have V4:fs.map (fun x=>(x.s,x.v))=f:=by rw[KI.o,fT]
  have qD:=bM.o.zo.cell;have hrc:=bM.o.res.cell;have hrf:=bM.o.res.frozen;have HE:=aa (bM.o.done uQ.o h1 h2 h3 (by omega) (by omega) (by omega) rfl);rw[acP.o,V4] at HE;have HRS:=aa bM.o.res;clear V4 DX;go_wp2_with fail;refine gV (acQ (F:=f42) (vb:=w.heap.size+1) rfl rfl ⟨k,n,A,b.length,cC,AL,es.length,pF,AF,fs.length,ov⟩ (wI (c:=⟨k,n,A,b.length,cC,AL,es.length,pF,AF,fs.length,ov⟩) HRS.o)) rfl ?_;exact HE.o
end
end Go.Proofs.YtndjopkdbdcmdaaGreatDoor
