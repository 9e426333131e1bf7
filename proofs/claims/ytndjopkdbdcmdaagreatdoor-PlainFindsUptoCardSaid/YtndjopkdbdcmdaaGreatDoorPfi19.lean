/- Part 19 of the proof of pfinds_card. -/
import Derived.Test.YtndjopkdbdcmdaaGreatDoorPfi16
set_option linter.unusedVariables false
set_option linter.unusedSimpArgs false
set_option maxRecDepth 100000
set_option maxHeartbeats 12800000
open Go.Proofs.Tryz
namespace Go.Proofs.YtndjopkdbdcmdaaGreatDoor
section
open Go.RowKit
theorem aha{σ:Type}{P:Program}{md:Region.Mode}{ops:Array Oper}{Q:Exit→Act→World→Prop}{S:World→Prop}(μ:σ→Nat)(L:σ→Array Bool)(A:σ→Act)(I:σ→World→Prop)
 (h:∀s W,I s W→(∀s' W',μ s'<μ s→I s' W'→wpAnyH P md ops Q S (μ s') (L s') (A s') W')→wpAnyH P md ops Q S (μ s) (L s) (A s) W):∀s W,I s W→wpAnyH P md ops Q S (μ s) (L s) (A s) W:=by
 have key:∀n s W,μ s=n→I s W→wpAnyH P md ops Q S (μ s) (L s) (A s) W:=by
  intro n
  induction n using Nat.strongRecOn with
  | ind n ih =>
   intro s W hs hI;exact h s W hI (fun s' W' hlt hI'=>ih (μ s') (by omega) s' W' rfl hI')
 exact fun s W hI=>key _ s W rfl hI
theorem RV{σ:Type}{P:Program}{md:Region.Mode}{ops:Array Oper}{Q:Exit→Act→World→Prop}{S:World→Prop}(μ:σ→Nat)(L:σ→Array Bool)(pt:σ→Act→Act)(I:σ→World→Prop)(s0:σ){l:Array Bool}{a:Act}{W:World}{n:Nat}(hn:n=μ s0)(hl:l=L s0)(ha:pt s0 a=a)(h0:I s0 W)
 (h:∀s W,I s W→(∀s' W',μ s'<μ s→I s' W'→wpAnyH P md ops Q S (μ s') (L s') (pt s' a) W')→wpAnyH P md ops Q S (μ s) (L s) (pt s a) W):wpAnyH P md ops Q S n l a W:=by
 have h2:=aha μ L (fun s=>pt s a) I h s0 W h0;subst hn hl;have h3:wpAnyH P md ops Q S (μ s0) (L s0) (pt s0 a) W:=h2;rwa [ha] at h3
abbrev zR(ob rb q:Nat):Prop:=q=rb∨q=ob
theorem jx.two{w:World}{ob rb:Nat}{T T':TypeId}{e n k:Int}{A A':Option Addr}{l c l' c':Nat}(hb:Blk w rb T (cO e n A l c k))(ho:Blk w ob T' #[.slice A' l' c']):jx w (zR ob rb):=by
 intro p u hp hc;rcases hp with hp | hp
 ·exact jx.PZ hb p u hp hc
 obtain⟨g,o,pr⟩:=p;have hp':g=ob:=hp;subst hp'
 cases pr with
 | some x =>
  unfold World.cell? at hc;rw[show w.heap[g]?=_ from ho] at hc;simp at hc
 | none =>
  rw[ho.cell] at hc;have ho:o<1:=by
   rcases fh o 1 with h | h
   ·exact h
   rw[tD (by simpa using h)] at hc;cases hc
  obtain rfl:o=0:=by omega
  cases hc
  refine⟨fun n h=>?_,fun n h=>?_,fun s h=>?_⟩<;>cases h
theorem ahb{w:World}{g:Nat}(c:Cv)(hb:Blk w g 27 c.cells):Src prog 5 24 (.slice (some ⟨g,0,none⟩) 1 1) 1 c.cells.toList w:=
 Src.ofSlice _ jv ⟨g,0,none⟩ 1 1 _ rfl (fun j u hu=>by
  rw[add_lit,dY,hb.cell j,← hu,pH]) (fun u hu=>by
  simp only[je,wZ,w_] at hu;rcases hu with rfl | rfl | rfl | rfl | rfl<;>rfl)
theorem ahc{w:World}{base n c:Nat}{A:Option Addr}{hs:List Cv}(h:w.ownsRow base 27 5 (.slice A n c) n (dG hs)):Src prog 5 24 (.slice A n c) n (dG hs) w:=by
 refine fe (lo:=0) (hi:=w.heap.size) jv ⟨h.1,fun hn=>?_⟩ (DG hs);obtain⟨g,cap,hv,hb,hlt⟩:=World.ownsRow.form h (by omega);have hA:A=some ⟨g,0,none⟩:=by injection hv
 subst hA;refine⟨g,0,rfl,fun j u hu=>⟨?_,ba _,hlt⟩⟩;have:=J8 h (g:=g) rfl j u hu;rwa [add_lit] at this
theorem Kept.ahd{S T:Nat→Prop}{a b c:World}(h:Kept S a b)(k:Kept T b c)(hT:∀q,q<a.heap.size→T q→S q):Kept S a c:=
 ⟨k.os.trans h.os,k.tape.trans h.tape,k.output.trans h.output,bn h.size k.size,fun i hi hs=>(k.block i (df hi h.size) (fun ht=>hs (hT i hi ht))).trans (h.block i hi hs)⟩
theorem ahe{S:Nat→Prop}{W0 w':World}{lo c6 c9:Nat}{A6 A9:Option Addr}{hs:List Cv}{l:List V}{cur:Array Value}(hv:VR S W0 lo A6 c6 hs l)
 (hown:w'.ownsRow lo 27 5 (.slice A9 (0+hs.length) c9) (0+hs.length) ([]++dG hs)) (hgr:(W0.alloc (.cells cur 27)).grownBy w' (Value.ownBlock (.slice (some ⟨W0.heap.size,0,none⟩) 0 hs.length)))
 (eG:Value.ownBlock (.slice A9 (0+hs.length) c9)=Value.ownBlock (.slice (some ⟨W0.heap.size,0,none⟩) 0 hs.length)∨Value.ownBlock (.slice A9 (0+hs.length) c9)=some (W0.alloc (.cells cur 27)).heap.size) :
 VR S w' lo A9 c9 hs l∧Grow W0 w'∧∃g,A9=some ⟨g,0,none⟩∧W0.heap.size≤g:=by
 have hG:Grow W0 w':=((ah W0).alloc (.cells cur 27)).grown hgr (fun k hk=>by have h2:W0.heap.size=k:=mU hk;omega);have hg:∃g,A9=some ⟨g,0,none⟩∧W0.heap.size≤g:=by
  have hb:∃g,bw A9=some g∧W0.heap.size≤g:=by
   rw[bH,bH] at eG;rcases eG with h | h
   ·exact⟨W0.heap.size,h,ay _⟩
   exact⟨_,h,by simp⟩
  obtain⟨g,h1,h2⟩:=hb;rcases hown.2 with ⟨e,-⟩ | ⟨g',cap,cu,e,-⟩
  ·injection e with e;rw[e] at h1;cases h1
  injection e with e;rw[e] at h1;injection h1 with h1;exact⟨g',e,by rw[show g'=g from h1];exact h2⟩
 refine⟨⟨by rw[dY,pE] at hown;exact hown,hv.two.mono fun a b k=>fw (fun p u hp=>?_) _ _ k⟩,hG,hg⟩;have hp2:=lh (Ld hG) (fun _ h=>h.elim) p u hp;refine⟨hp2.1,hp2.2.1,fun hq=>?_⟩;rcases hq with hq | hq
 ·obtain⟨g,rfl,h2⟩:=hg;injection hq with hq;have:=hp.2.1;have h3:g=p.block:=hq;omega
 exact hp.2.2 (.inr hq)
theorem Mq{w:World}{g o:Nat}{T:TypeId}{cs:Array Value}{v:Value}(hb:Blk w g T cs)(hv:cs[o]?=some v):w.setCell ⟨g,o,none⟩ v=w:=by
 have h1:=hb.bf o v;have h2:cs.setIfInBounds o v=cs:=by
  refine N5 fun i=>?_
  rw[Array.getElem?_setIfInBounds];split
  ·rename_i h;subst h;split
   ·exact hv.symm
   rename_i h3;rw[tD (by omega)]
  rfl
 rw[h2] at h1;have h3:=(dU (S:=fun q=>q=g) w).set (p:=⟨g,o,none⟩) rfl v;have hz:(w.setCell ⟨g,o,none⟩ v).heap.size=w.heap.size:=by simp
 have he:(w.setCell ⟨g,o,none⟩ v).heap=w.heap:=by
  refine N5 fun i=>?_
  by_cases hi:i<w.heap.size
  ·by_cases hg:i=g
   ·subst hg;exact Eq.trans h1 (lK hb)
   exact h3.block i hi hg
  rw[tD (by omega),tD (by omega)]
 show World.setCell w ⟨g,o,none⟩ v=w;unfold World.setCell at he ⊢;dsimp only at he;rw[he]
structure L2 (W0:World) (ob rb lo c6:Nat) (A6:Option Addr) (hs:List Cv) (d:V) (b3 b5 b6 b8 ku:Bool) (x3 x5 x6:Value) (W:World):Prop where
 kept:Kept (fun q=>q=rb∨bw A6=some q) W0 W
 cp:b3=true→∃x:Cv,x3=x.agg∧IsV (eD W (fun q=>zR ob rb q∨bw A6=some q∨(b6=true∧Value.ownBlock x6=some q))) d x
 bs:b5=true→b6=false→∃g,x5=.slice (some ⟨g,0,none⟩) 1 1∧g≠rb∧Blk W g 27 Cv.zero.cells
 row:b6=false→W.ownsRow lo 27 5 (.slice A6 hs.length c6) hs.length (dG hs)
 zS:b6=true→∃g c,x6=.slice (some ⟨g,0,none⟩) (hs.length+1) c∧lo≤g∧g≠rb∧g≠ob∧(bw A6=some g∨W0.heap.size≤g) ∧
  ((b8=false∧W.ownsRow lo 27 5 (.slice (some ⟨g,0,none⟩) (hs.length+1) c) (hs.length+1) (dG hs++Cv.zero.cells.toList))∨(b8=true∧∃x:Cv,x3=x.agg∧W.ownsRow lo 27 5 (.slice (some ⟨g,0,none⟩) (hs.length+1) c) (hs.length+1) (dG (hs++[x]))))
 rep:Blk W rb 31 #[.int .i64 0,.int .i64 0,if ku=true then x6 else .slice A6 hs.length c6,.int .i64 0]
theorem ahf(hs:List Cv)(x:Cv):dG (hs++[x])=dG hs++x.cells.toList:=by simp[dG]
section
variable {W0 W W':World} {ob rb lo c6:Nat} {A6:Option Addr} {hs:List Cv} {d:V} {b3 b5 b6 b8 ku:Bool} {x3 x5 x6:Value}
structure zT (W0:World) (ob rb lo c6:Nat) (A6:Option Addr) (hs:List Cv):Prop where
 RX:ob<lo
 I5:rb<lo
 le:lo≤W0.heap.size
 lt:∀g,bw A6=some g→lo≤g∧g<W0.heap.size
theorem L2.size(h:L2 W0 ob rb lo c6 A6 hs d b3 b5 b6 b8 ku x3 x5 x6 W):W0.heap.size≤W.heap.size:=h.kept.size
theorem L2.grow(s:zT W0 ob rb lo c6 A6 hs)(h:L2 W0 ob rb lo c6 A6 hs d b3 b5 b6 b8 ku x3 x5 x6 W)(hg:Grow W W'):L2 W0 ob rb lo c6 A6 hs d b3 b5 b6 b8 ku x3 x5 x6 W':=by
 refine⟨h.kept.trans (gJ hg),fun e=>?_,fun e e'=>?_,fun e=>ki (h.row e) hg,fun e=>?_,h.rep.grow hg⟩
 ·obtain⟨x,r1,r2⟩:=h.cp e;exact⟨x,r1,fw (lh (Ld hg) (fun _ h=>h.elim)) _ _ r2⟩
 ·obtain⟨g,r1,r2,r3⟩:=h.bs e e';exact⟨g,r1,r2,r3.grow hg⟩
 obtain⟨g,c,r1,r2,r3,r4,r5,r6⟩:=h.zS e;refine⟨g,c,r1,r2,r3,r4,r5,?_⟩;rcases r6 with ⟨k1,k2⟩ | ⟨k1,x,k2,k3⟩
 ·exact .inl ⟨k1,ki k2 hg⟩
 exact .inr ⟨k1,x,k2,ki k3 hg⟩
theorem L2.nM(s:zT W0 ob rb lo c6 A6 hs)(h:L2 W0 ob rb lo c6 A6 hs d false b5 b6 false ku x3 x5 x6 W)(hg:Grow W W'){x:Cv}(hin:pc W' W.heap.size W'.heap.size d x):L2 W0 ob rb lo c6 A6 hs d true b5 b6 false ku x.agg x5 x6 W':=by
 have h':=h.grow s hg;have hz:=h.size;refine⟨h'.kept,fun _=>⟨x,rfl,fw (eD.K6 (ay _) fun q hq=>?_) _ _ hin.Be⟩,h'.bs,h'.row,fun e=>?_,h'.rep⟩
 ·left;have h1:=s.RX;have h2:=s.I5;have h3:=s.le;rcases hq with (hq | hq) | hq | ⟨e,hq⟩
  ·omega
  ·omega
  ·have:=(s.lt q hq).2;omega
  obtain⟨g,c,r1,r2,r3,r4,r5,r6⟩:=h.zS e;rw[r1] at hq;injection hq with hq;subst hq;rcases r6 with ⟨k1,k2⟩ | ⟨k1,-⟩
  ·exact(bO k2 g rfl).2
  cases k1
 obtain⟨g,c,r1,r2,r3,r4,r5,r6⟩:=h'.zS e;refine⟨g,c,r1,r2,r3,r4,r5,?_⟩;rcases r6 with ⟨k1,k2⟩ | ⟨k1,-⟩
 ·exact .inl ⟨k1,k2⟩
 cases k1
theorem L2.nN(s:zT W0 ob rb lo c6 A6 hs)(h:L2 W0 ob rb lo c6 A6 hs d b3 false false b8 ku x3 x5 x6 W):L2 W0 ob rb lo c6 A6 hs d b3 true false b8 ku x3 (.slice (some ⟨W.heap.size,0,none⟩) 1 1) x6 (W.alloc (.cells Cv.zero.cells 27)):=by
 have h':=h.grow s ((ah W).alloc (.cells Cv.zero.cells 27));have hz:=h.size;have h2:=s.I5;have h3:=s.le;exact⟨h'.kept,h'.cp,fun _ _=>⟨_,rfl,by omega,aD _ _ _⟩,h'.row,fun e=>(by cases e),h'.rep⟩
theorem L2.mk6(s:zT W0 ob rb lo c6 A6 hs)(h:L2 W0 ob rb lo c6 A6 hs d b3 true false false false x3 x5 x6 W){A:Option Addr}{c:Nat}(hown:W'.ownsRow lo 27 5 (.slice A (hs.length+1) c) (hs.length+1) (dG hs++Cv.zero.cells.toList))
 (hgr:W.grownBy W' (Value.ownBlock (.slice A6 hs.length c6))) (eG:Value.ownBlock (.slice A (hs.length+1) c)=Value.ownBlock (.slice A6 hs.length c6)∨Value.ownBlock (.slice A (hs.length+1) c)=some W.heap.size) :
 L2 W0 ob rb lo c6 A6 hs d b3 true true false false x3 x5 (.slice A (hs.length+1) c) W':=by
 have hz:=h.size;have h1:=s.RX;have h2:=s.I5;have h3:=s.le;rw[bH] at hgr;rw[bH,bH] at eG;obtain⟨g,cur,hA,hb,hgg,-⟩:=kL hown (by omega);subst hA;have hk:=Bf hgr;refine⟨h.kept.trans (hk.mono fun q hq=>.inr hq),fun e=>?_,fun _ e=>(by cases e),fun e=>(by cases e),fun _=>⟨g,c,rfl,hb,by omega,by omega,?_,.inl ⟨rfl,hown⟩⟩,?_⟩
 ·obtain⟨x,r1,r2⟩:=h.cp e;refine⟨x,r1,fw (fun p u hp=>?_) _ _ r2⟩;have hp2:=lh hk (fun q hq=>.inr (.inl hq)) p u hp;refine⟨hp2.1,hp2.2.1,fun hq=>?_⟩;rcases hq with hq | hq | ⟨-,hq⟩
  ·exact hp.2.2 (.inl hq)
  ·exact hp.2.2 (.inr (.inl hq))
  rw[bH] at hq;rcases eG with ho | ho
  ·rw[ho] at hq;exact hp.2.2 (.inr (.inl hq))
  rw[ho] at hq;injection hq with hq;have:=hp.2.1;omega
 ·rcases eG with ho | ho
  ·exact .inl ho.symm
  right;injection ho with ho;subst ho;exact hz
 exact hk.blk h.rep (fun e=>by have:=(s.lt rb e).1;omega)
theorem L2.ZK(s:zT W0 ob rb lo c6 A6 hs){g c:Nat}{x:Cv}(h:L2 W0 ob rb lo c6 A6 hs d true b5 true false ku x.agg x5 (.slice (some ⟨g,0,none⟩) (hs.length+1) c) W) :
 L2 W0 ob rb lo c6 A6 hs d true b5 true true ku x.agg x5 (.slice (some ⟨g,0,none⟩) (hs.length+1) c) (W.setCells g (hs.length*5) x.cells.toList):=by
 have hz:=h.size;have h1:=s.RX;have h2:=s.I5;have h3:=s.le;obtain⟨g',c',r1,r2,r3,r4,r5,r6⟩:=h.zS rfl;injection r1 with r1 _ I6;injection r1 with r1;injection r1 with r1;subst r1 I6;have hk:Kept (fun q=>q=g) W (W.setCells g (hs.length*5) x.cells.toList):=(Bf (jF g (some g) rfl x.cells.toList W (hs.length*5))).mono (fun q hq=>by injection hq with hq;exact hq.symm);have hrow:W.ownsRow lo 27 5 (.slice (some ⟨g,0,none⟩) (hs.length+1) c) (hs.length+1) (dG hs++Cv.zero.cells.toList):=by
  rcases r6 with ⟨-,k⟩ | ⟨k,-⟩
  ·exact k
  cases k
 refine⟨?_,fun _=>?_,fun _ e=>(by cases e),fun e=>(by cases e),fun _=>⟨g,c,rfl,r2,r3,r4,r5,.inr ⟨rfl,x,rfl,?_⟩⟩,hk.blk h.rep (fun e=>r3 e.symm)⟩
 ·refine⟨hk.os.trans h.kept.os,hk.tape.trans h.kept.tape,hk.output.trans h.kept.output,bn hz hk.size,fun k hkl hs=>?_⟩;refine(hk.block k (df hkl hz) (fun e=>?_)).trans (h.kept.block k hkl hs);subst e;rcases r5 with r5 | r5
  ·exact hs (.inr r5)
  omega
 ·obtain⟨y,q1,q2⟩:=h.cp rfl;injection q1 with q1;have hxy:y=x:=by
   obtain⟨k,n,aB,nB,cB,aL,nL,cL,aF,nF,cF⟩:=x;obtain⟨k',n',qC,nB',qD,tQ,nL',tS,tR,nF',tT⟩:=y;simp at q1;obtain⟨rfl,rfl,⟨rfl,rfl,rfl⟩,⟨rfl,rfl,rfl⟩,rfl,rfl,rfl⟩:=q1;rfl
  subst hxy;exact⟨y,rfl,fw (lh hk fun q hq=>.inr (.inr ⟨rfl,by rw[hq];rfl⟩)) _ _ q2⟩
 have hput:=PV (D:=hs.length) (vs:=x.cells.toList) hrow (by omega) rfl;have e0:(dG hs).length=hs.length*5:=Pp hs;rw[FK (by omega),jD (by omega),J9 (by rw[bG,e0];simp;omega),ml] at hput;rw[ahf];exact hput
theorem L2.xS(s:zT W0 ob rb lo c6 A6 hs)(h:L2 W0 ob rb lo c6 A6 hs d b3 b5 true b8 false x3 x5 x6 W):L2 W0 ob rb lo c6 A6 hs d b3 b5 true b8 true x3 x5 x6 (W.setCell ⟨rb,2,none⟩ x6):=by
 have h2:=s.I5;have hk:Kept (fun q=>q=rb) W (W.setCell ⟨rb,2,none⟩ x6):=(dU (S:=fun q=>q=rb) W).set (p:=⟨rb,2,none⟩) rfl x6;refine⟨h.kept.trans (hk.mono fun q hq=>.inl hq),fun e=>?_,fun _ e=>(by cases e),fun e=>(by cases e),fun _=>?_,?_⟩
 ·obtain⟨x,r1,r2⟩:=h.cp e;exact⟨x,r1,fw (lh hk fun q hq=>.inl (.inl hq)) _ _ r2⟩
 ·obtain⟨g,c,r1,r2,r3,r4,r5,r6⟩:=h.zS rfl;have hn:∀g',bw (some ⟨g,0,none⟩)=some g'→¬ g'=rb:=fun g' hg e=>by injection hg with hg;exact r3 (hg.trans e)
  refine⟨g,c,r1,r2,r3,r4,r5,?_⟩;rcases r6 with ⟨k1,k2⟩ | ⟨k1,x,k2,k3⟩
  ·exact .inl ⟨k1,gF k2 hk hn⟩
  exact .inr ⟨k1,x,k2,gF k3 hk hn⟩
 have:=h.rep.bf 2 x6;exact this
theorem L2.done(s:zT W0 ob rb lo c6 A6 hs){l0:List V}(h:L2 W0 ob rb lo c6 A6 hs d true true true true true x3 x5 x6 W)(hv:VR (zR ob rb) W0 lo A6 c6 hs l0):∃g c x,x6=.slice (some ⟨g,0,none⟩) (hs.length+1) c∧VR (zR ob rb) W lo (some ⟨g,0,none⟩) c (hs++[x]) (l0++[d]) ∧
 Blk W rb 31 (cO 0 0 (some ⟨g,0,none⟩) (hs++[x]).length c 0):=by
 obtain⟨g,c,r1,r2,r3,r4,r5,r6⟩:=h.zS rfl;obtain⟨x,k2,k3⟩:∃x:Cv,x3=x.agg∧W.ownsRow lo 27 5 (.slice (some ⟨g,0,none⟩) (hs.length+1) c) (hs.length+1) (dG (hs++[x])):=by
  rcases r6 with ⟨k1,k2⟩ | ⟨k1,k⟩
  ·cases k1
  exact k
 obtain⟨y,q1,q2⟩:=h.cp rfl;have hxy:y=x:=by
  rw[k2] at q1;injection q1 with q1;obtain⟨k,n,aB,nB,cB,aL,nL,cL,aF,nF,cF⟩:=x;obtain⟨k',n',qC,nB',qD,tQ,nL',tS,tR,nF',tT⟩:=y;simp at q1;obtain⟨rfl,rfl,⟨rfl,rfl,rfl⟩,⟨rfl,rfl,rfl⟩,rfl,rfl,rfl⟩:=q1;rfl
 subst hxy;have ZL:=h.rep;rw[aw rfl,r1] at ZL;have hl:(hs++[y]).length=hs.length+1:=by simp
 refine⟨g,c,y,r1,⟨by rw[hl];exact k3,(hv.two.mono fun a b k=>fw (fun p u hp=>?_) _ _ k).append (Two.one ?_)⟩,by rw[hl];exact ZL⟩
 ·have hp2:=lh h.kept (fun q hq=>by
   rcases hq with hq | hq
   ·exact Or.inr (Or.inl hq)
   exact Or.inl hq) p u hp
  refine⟨hp2.1,hp2.2.1,fun hq=>?_⟩;rcases hq with hq | hq
  ·have hq2:g=p.block:=mU hq;rcases r5 with r5 | r5
   ·exact hp.2.2 (.inl (by rw[r5,hq2]))
   have:=hp.2.1;omega
  exact hp.2.2 (.inr hq)
 refine fw (eD.sub fun q hq=>?_) _ _ q2;rcases hq with hq | hq
 ·exact .inr (.inr ⟨rfl,by rw[r1,bH];exact hq⟩)
 exact .inl hq
end
theorem ahg{N:Nat}{st:List Co}{q:Rq}(h:dX N st){st':List Co}{n:Int}{ag:List V}(he:kf st q=.ok (st',n,ag)):(∀d∈ag,fC d)∧ag.length≤N+1:=by
 have nil:∀{s:List Co} {k:Int},(Except.ok (s,k,[]):oM)=.ok (st',n,ag)→(∀d∈ag,fC d)∧ag.length≤N+1:=fun e=>by
  injection e with e;injection e with _ e;injection e with _ e;subst e;exact⟨fun d hd=>(by cases hd),ba _⟩
 have one:∀{s:List Co} {k:Int} {c:Co} {i:Nat},c∈st→i<c.ag.length→(Except.ok (s,k,[c.ag.getD i V.zero]):oM)=.ok (st',n,ag)→(∀d∈ag,fC d)∧ag.length≤N+1:=fun {s k c i} hc hi e=>by
  injection e with e;injection e with _ e;injection e with _ e;subst e;refine⟨fun d hd=>?_,by simp⟩;rw[yK] at hd;subst hd;rw[jf,cJ hi];exact(h.co c hc).ag _ (aW hi)
 unfold kf at he;split at he
 ·unfold nZ at he;repeat (split at he;· cases he)
  exact nil he
 split at he
 ·unfold GM at he;repeat (split at he;· cases he)
  exact nil he
 split at he
 ·unfold pT at he;repeat (split at he;· cases he)
  exact nil he
 split at he
 ·unfold pT at he;repeat (split at he;· cases he)
  exact nil he
 split at he
 ·unfold GN at he;split at he;· cases he
  rename_i h1;split at he;· cases he
  split at he;· cases he
  rename_i h3;have hF:cK (bh st) q.aA=true:=by simpa using h1
  exact one (lU hF).2.1 (zx (by simpa using h3)) he
 split at he
 ·unfold Po at he;split at he;· cases he
  rename_i h1;split at he;· cases he
  split at he;· cases he
  rename_i h3;have hF:cK (bh st) q.aA=true:=by simpa using h1
  exact one (lU hF).2.1 (zx (by simpa using h3)) he
 split at he
 ·unfold GP at he;repeat (split at he;· cases he)
  exact nil he
 split at he
 ·unfold GQ at he;repeat (split at he;· cases he)
  exact nil he
 split at he
 ·unfold qK at he;split at he;· cases he
  rename_i h1;split at he;· cases he
  split at he;· cases he
  split at he;· cases he
  split at he;· cases he
  have hF:cK (bh st) q.aA=true:=by simpa using h1
  have aR:=h.co _ (lU hF).2.1;injection he with he;injection he with _ he;injection he with _ he;subst he;have KV:(∀d∈zo (bD st q.aA) q,d∈(bD st q.aA).ag)∧(zo (bD st q.aA) q).length≤(bD st q.aA).ag.length:=by
   unfold zo;split
   ·exact⟨fun d hd=>hd,ay _⟩
   refine⟨fun d hd=>?_,by rw[dZ];exact aee _ _⟩;obtain⟨e,hm,rfl⟩:=j3.1 hd;unfold pS at hm;split at hm
   ·have:=(DR _).mem_iff.1 hm;unfold np at this;rw[N2] at this;obtain⟨x,hx,hx2⟩:=this;unfold um at hx2;split at hx2
    ·injection hx2 with hx2;rw[← hx2];exact hx
    cases hx2
   cases hm
  refine⟨fun d hd=>aR.ag d (KV.1 d ?_),?_⟩
  ·unfold v_ at hd;exact(List.mem_filter.1 (yP hd)).1
  unfold v_;rw[dS];have h2:=List.length_filter_le (fun d=>fQ (sj q (sk (bD st q.aA) q) d) q.low q.high) (zo (bD st q.aA) q);have h3:=KV.2;have h4:=aR.nd;omega
 split at he
 ·unfold countP at he;split at he;· cases he
  exact nil he
 cases he
end
section
open Go.RowKit
def Mr(w:World)(st:List Co)(q:Rq)(e:Ending)(w':World):Prop:=
 Grow w w'∧∃A c dA dc,e=.returned (.tuple #[.agg #[.slice A (kg st q).1.length c],.agg (cO (kg st q).2.e (kg st q).2.n dA (kg st q).2.ag.length dc (kg st q).2.fL)])∧dW w' A c (kg st q).1∧InL w' dA dc (kg st q).2.ag
theorem ahh(w:World):Sem.run prog (zeroValue 88) w=.ok (.agg #[.nilFunc]) w:=by kernel_rfl
def ahi(w:World)(k:Int)(t6 t7:Value)(wx:World):Prop:=
 Grow w wx∧((1≤k∧k≤10)∧t7=.bool true∧(∃Ms,t6=.pointer (some ⟨Ms,0,none⟩)∧w.heap.size≤Ms∧Blk wx Ms 88 #[.func (.func (jQ k)) #[] #[]])∨¬ (1≤k∧k≤10)∧t7=.bool false)
theorem ahj(k:Int)(g:Nat)(w:World)(hm:w.heap[g]?=some (.map reqs 10)):∃u b,(Instr.lookup 90 (.map (some g)) (.int .i64 k) true).run prog w=.ok (.tuple #[.agg #[u],.bool b]) w∧((1≤k∧k≤10)∧u=.func (.func (jQ k)) #[] #[]∧b=true∨¬ (1≤k∧k≤10)∧u=.nilFunc∧b=false):=by
 by_cases h:1≤k∧k≤10
 ·obtain⟨i,hi⟩:=afT k h;exact⟨_,_,afy 90 3 88 sU Dn g reqs 10 hm k i _ hi,.inl ⟨h,rfl,rfl⟩⟩
 exact⟨_,_,afz 90 3 88 _ sU Dn (ahh w) g reqs 10 hm k (afC k h),.inr ⟨h,rfl,rfl⟩⟩
theorem RY(k:Int)(g:Nat)(w:World)(hm:w.heap[g]?=some (.map reqs 10))(h:1≤k∧k≤10):(Instr.lookup 90 (.map (some g)) (.int .i64 k) true).run prog w=.ok (.tuple #[.agg #[.func (.func (jQ k)) #[] #[]],.bool true]) w:=by
 obtain⟨u,b,hr,h1 | h1⟩:=ahj k g w hm
 ·obtain⟨-,rfl,rfl⟩:=h1;exact hr
 exact absurd h h1.1
theorem ZM{W:World}{ob rb:Nat}{tmps:Array Value}{u e n d k:Value}(h4:tmps.getD 4 undef=.pointer (some ⟨ob,0,none⟩))(h5:tmps.getD 5 undef=.pointer (some ⟨rb,0,none⟩))(ho:Blk W ob 44 #[u])(hr:Blk W rb 31 #[e,n,d,k]) :
 (results f18 tmps).run prog W=.ok (.tuple #[.agg #[u],.agg #[e,n,d,k]]) W:=by
 have ru:=ho.cell;have hrc:=hr.cell;have h4':tmps[4]?.getD undef=.pointer (some ⟨ob,0,none⟩):=by simpa using h4
 have qE:tmps[5]?.getD undef=.pointer (some ⟨rb,0,none⟩):=by simpa using h5
 simp[results,results18,go_sem,h4',qE,ru,hrc]
theorem dX.copy{N:Nat}{st:List Co}(h:dX N st)(hN:N≤1000001):st.length≤1000000000∧∀c∈st,Xp c:=by
 refine⟨by have:=h.n;omega,fun c hc=>?_⟩;have h1:=h.co c hc;refine⟨by have:=h1.nd;omega,by have:=h1.nx;omega,fun d hd=>?_⟩;obtain⟨i,-,-,-,hg,-⟩:=(h1.ag d hd).id;exact I0 hg
theorem CR.old{B:Nat}{w w':World}{lo c:Nat}{A:Option Addr}{es:List Cc}{st:List Co}(h:CR (fun q=>q<B) w lo A c es st)(hB:B≤lo)(hk:Kept (fun q=>q<B) w w'):CR (fun q=>q<B) w' lo A c es st:=
 h.kept lT hk (fun _ h=>h) (fun g hg hq=>by
  have:=(bO h.row g (by rw[bH];exact hg)).1;omega)
theorem ahk{w w5 w6:World}{st:List Co}{q:Rq}{e:Int}{A6:Option Addr}{c6:Nat}{es:List Cc}{ob rb:Nat}{u e0 n0 d0 k0:Value}{tmps:Array Value}(h5:Grow w w5)(h6:Grow w5 w6)(kq:kg st q=(st,⟨e,0,[],0⟩))(ho:Blk w6 ob 44 #[u])(hr:Blk w6 rb 31 #[e0,n0,d0,k0])(hol:w.heap.size≤ob∧ob<w5.heap.size∧ob≠rb)(hrl:w.heap.size≤rb∧rb<w5.heap.size)
 (hcr:CR (fun q=>q<w5.heap.size) w6 w5.heap.size A6 c6 es st) (h4:tmps.getD 4 undef=.pointer (some ⟨ob,0,none⟩)) (qE:tmps.getD 5 undef=.pointer (some ⟨rb,0,none⟩)) :
 (results f18 tmps).run prog (L5 w6 ob rb (.slice A6 st.length c6) e)=.ok (.tuple #[.agg #[.slice A6 st.length c6],.agg #[.int .i64 e,.int .i64 0,.slice none 0 0,.int .i64 0]]) (L5 w6 ob rb (.slice A6 st.length c6) e)∧Mr w st q (.returned (.tuple #[.agg #[.slice A6 st.length c6],.agg #[.int .i64 e,.int .i64 0,.slice none 0 0,.int .i64 0]])) (L5 w6 ob rb (.slice A6 st.length c6) e):=by
 have hk:∀(v0 v1 v2 v3 v4:Value),Kept (fun q=>q<w5.heap.size) w6 (((((w6.setCell ⟨ob,0,none⟩ v0).setCell ⟨rb,0,none⟩ v1).setCell ⟨rb,1,none⟩ v2).setCell ⟨rb,2,none⟩ v3).setCell ⟨rb,3,none⟩ v4):=fun v0 v1 v2 v3 v4 =>
  (((((dU _ w6).set (p:=⟨ob,0,none⟩) hol.2.1 v0).set (p:=⟨rb,0,none⟩) hrl.2 v1).set (p:=⟨rb,1,none⟩) hrl.2 v2).set (p:=⟨rb,2,none⟩) hrl.2 v3).set (p:=⟨rb,3,none⟩) hrl.2 v4
 have hc:=CR.old hcr (ay _) (hk (.slice A6 st.length c6) (.int .i64 e) (.int .i64 0) (.slice none 0 0) (.int .i64 0));refine⟨ZM h4 qE ?_ ?_,?_,A6,c6,none,0,?_,?_,?_⟩
 ·exact((((ho.bf 0 _).far (p:=⟨rb,0,none⟩) hol.2.2 _).far (p:=⟨rb,1,none⟩) hol.2.2 _).far (p:=⟨rb,2,none⟩) hol.2.2 _).far (p:=⟨rb,3,none⟩) hol.2.2 _
 ·exact((((hr.far (p:=⟨ob,0,none⟩) (fun e=>hol.2.2 e.symm) _).bf 0 _).bf 1 _).bf 2 _).bf 3 _
 ·exact(((((h5.trans h6).setCell (p:=⟨ob,0,none⟩) hol.1 _).setCell (p:=⟨rb,0,none⟩) hrl.1 _).setCell (p:=⟨rb,1,none⟩) hrl.1 _).setCell (p:=⟨rb,2,none⟩) hrl.1 _).setCell (p:=⟨rb,3,none⟩) hrl.1 _
 ·rw[kq];rfl
 ·rw[kq];exact CR.Wq hc
 rw[kq];exact InL.nil _
theorem ahl{P:Program}{ops:Array Oper}{a:Act}{S:World→Prop}{ty t:TypeId}{x:Operand}{d:Option Tmp}{p:String}{af:Array Edge}{g n:Nat}{cells:Array Value}{td:TypeDesc}(hu:P.underlying ty=some td)(hd:(match td with | .struct _ | .array _ _=>true | _=>false)=true)(hx:a.eval x=.pointer (some ⟨g,0,none⟩))(hB:∀w,S w→Blk w g ty cells)(hi:(P.info? ty).map (·.size)=some n)
 (hn:cells.size=n):YieldsIf P ops S ⟨d,.load ty x,t,p,af,none⟩ (.agg cells) a:=
 .inl ⟨by simp[Region.wanted],fun w hS=>by
  have:=Fp (P:=P) w g ty ty cells (0,0) td (hB w hS) hu hd (by rw[hn];exact hi);simp only[execOp,hx,Instr.loadAt,Instr.sureAddr,Ar,CM,CN,this]⟩
theorem ahm:(prog.info? 33).map (·.size)=some 26:=by kernel_rfl
theorem ahn(k:Int)(x:Value)(w:World):Sem.run prog (callFunc (jQ k) #[x]) w=.ok (.enter (jQ k) #[x]) w:=by
 unfold jQ
 repeat' split
 all_goals kernel_rfl
theorem aho{w W:World}{st st2:List Co}{q:Rq}{n:Int}{ag:List V}{ky A9:Option Addr}{c10 c9:Nat}{ob rb:Nat}{tmps:Array Value}(hg:Grow w W)(kq:kg st q=(st2,⟨0,n,ag,0⟩))(ho:Blk W ob 44 #[.slice ky st2.length c10])(hr:Blk W rb 31 (cO 0 n A9 ag.length c9 0))
 (hs:dW W ky c10 st2) (hd:InL W A9 c9 ag) (h4:tmps.getD 4 undef=.pointer (some ⟨ob,0,none⟩)) (h5:tmps.getD 5 undef=.pointer (some ⟨rb,0,none⟩)) :
 (results f18 tmps).run prog W=.ok (.tuple #[.agg #[.slice ky st2.length c10],.agg (cO 0 n A9 ag.length c9 0)]) W∧Mr w st q (.returned (.tuple #[.agg #[.slice ky st2.length c10],.agg (cO 0 n A9 ag.length c9 0)])) W:=by
 refine⟨ZM h4 h5 ho hr,hg,ky,c10,A9,c9,?_,?_,?_⟩
 ·rw[kq]
 ·rw[kq];exact hs
 rw[kq];exact hd
end
end Go.Proofs.YtndjopkdbdcmdaaGreatDoor
