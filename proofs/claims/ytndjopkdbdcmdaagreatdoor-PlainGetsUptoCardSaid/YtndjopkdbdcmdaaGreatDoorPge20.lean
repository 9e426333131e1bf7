/- Part 20 of the proof of pgets_card. -/
import Derived.Test.YtndjopkdbdcmdaaGreatDoorPge18
set_option linter.unusedVariables false
set_option linter.unusedSimpArgs false
set_option maxRecDepth 100000
set_option maxHeartbeats 12800000
open Go.Proofs.Tryz
open Go.RowKit
namespace Go.Proofs.YtndjopkdbdcmdaaGreatDoor
variable {A A' A6 A9:Option Addr}{B N base c c' c9 g lo ob rb:Nat}{C:Addr→Value→Prop}{P:Program}{Q:Exit→Act→World→Prop}{S:Nat→Prop}{T T':TypeId}{W W0 w w' w5:World}{a:Act}{ag:List V}{cs cur tmps:Array Value}{e:Int}{es:List Cc}{hs:List Cv}{md:Region.Mode}{ops:Array Oper}{q:Rq}{st:List Co}{u v:Value}
theorem aiX{σ:Type}{S:World→Prop}(μ:σ→Nat)(L:σ→Array Bool)(A:σ→Act)(I:σ→World→Prop)
 (h:∀s W,I s W→(∀s' W',μ s'<μ s→I s' W'→wpAnyH P md ops Q S (μ s') (L s') (A s') W')→wpAnyH P md ops Q S (μ s) (L s) (A s) W):∀s W,I s W→wpAnyH P md ops Q S (μ s) (L s) (A s) W:=by
 have key:∀n s W,μ s=n→I s W→wpAnyH P md ops Q S (μ s) (L s) (A s) W:=by
  intro n
  induction n using Nat.strongRecOn with
  | ind n ih =>
   intro s W hs hI;exact h s W hI (fun s' W' hlt hI'=>ih (μ s') (by omega) s' W' rfl hI')
 exact fun s W hI=>key _ s W rfl hI
theorem Tc{σ:Type}{S:World→Prop}(μ:σ→Nat)(L:σ→Array Bool)(pt:σ→Act→Act)(I:σ→World→Prop)(s0:σ){l:Array Bool}{n:Nat}(hn:n=μ s0)(hl:l=L s0)(ha:pt s0 a=a)(h0:I s0 W)
 (h:∀s W,I s W→(∀s' W',μ s'<μ s→I s' W'→wpAnyH P md ops Q S (μ s') (L s') (pt s' a) W')→wpAnyH P md ops Q S (μ s) (L s) (pt s a) W):wpAnyH P md ops Q S n l a W:=by
 have h2:=aiX μ L (fun s=>pt s a) I h s0 W h0;subst hn hl;have h3:wpAnyH P md ops Q S (μ s0) (L s0) (pt s0 a) W:=h2;rwa [ha] at h3
abbrev Ar(ob rb q:Nat):Prop:=q=rb∨q=ob
theorem jE.two{n k:Int}{l l':Nat}(hb:Blk w rb T (cS e n A l c k))(ho:Blk w ob T' #[.slice A' l' c']):jE w (Ar ob rb):=by
 intro p u hp hc;rcases hp with hp | hp
 ·exact jE.R6 hb p u hp hc
 obtain⟨g,o,pr⟩:=p;have hp':g=ob:=hp;subst hp'
 cases pr with
 | some x =>
  unfold World.cell? at hc;rw[show w.heap[g]?=_ from ho] at hc;simp at hc
 | none =>
  rw[ho.cell] at hc;have ho:o<1:=by
   rcases gp o 1 with h | h
   ·exact h
   rw[sN (by simpa using h)] at hc;cases hc
  obtain rfl:o=0:=by omega
  cases hc
  refine⟨fun n h=>?_,fun n h=>?_,fun s h=>?_⟩<;>cases h
theorem aiY(c:Cv)(hb:Blk w g 27 c.cells):Src prog 5 24 (.slice (some ⟨g,0,none⟩) 1 1) 1 c.cells.toList w:=
 Src.ofSlice _ km ⟨g,0,none⟩ 1 1 _ rfl (fun j u hu=>by
  rw[add_lit,eo,hb.cell j,← hu,nC]) (fun u hu=>by
  simp only[jI,wu,wB] at hu;rcases hu with rfl | rfl | rfl | rfl | rfl<;>rfl)
theorem aiZ{n:Nat}(h:w.ownsRow base 27 5 (.slice A n c) n (cK hs)):Src prog 5 24 (.slice A n c) n (cK hs) w:=by
 refine eW (lo:=0) (hi:=w.heap.size) km ⟨h.1,fun hn=>?_⟩ (BQ hs);obtain⟨g,cap,hv,hb,hlt⟩:=World.ownsRow.form h (by omega);have hA:A=some ⟨g,0,none⟩:=by injection hv
 subst hA;refine⟨g,0,rfl,fun j u hu=>⟨?_,aR _,hlt⟩⟩;have:=FE h (g:=g) rfl j u hu;rwa [add_lit] at this
theorem Kept.ai0{T:Nat→Prop}{a b c:World}(h:Kept S a b)(k:Kept T b c)(hT:∀q,q<a.heap.size→T q→S q):Kept S a c:=
 ⟨k.os.trans h.os,k.tape.trans h.tape,k.output.trans h.output,aV h.size k.size,fun i hi hs=>(k.block i (bG hi h.size) (fun ht=>hs (hT i hi ht))).trans (h.block i hi hs)⟩
theorem ai1{c6:Nat}{l:List V}(hv:VR S W0 lo A6 c6 hs l)
 (hown:w'.ownsRow lo 27 5 (.slice A9 (0+hs.length) c9) (0+hs.length) ([]++cK hs)) (hgr:(W0.alloc (.cells cur 27)).grownBy w' (Value.ownBlock (.slice (some ⟨W0.heap.size,0,none⟩) 0 hs.length)))
 (iQ:Value.ownBlock (.slice A9 (0+hs.length) c9)=Value.ownBlock (.slice (some ⟨W0.heap.size,0,none⟩) 0 hs.length)∨Value.ownBlock (.slice A9 (0+hs.length) c9)=some (W0.alloc (.cells cur 27)).heap.size) :
 VR S w' lo A9 c9 hs l∧Grow W0 w'∧∃g,A9=some ⟨g,0,none⟩∧W0.heap.size≤g:=by
 have hG:Grow W0 w':=((ah W0).alloc (.cells cur 27)).grown hgr (fun k hk=>by have h2:W0.heap.size=k:=nZ hk;omega);have hg:∃g,A9=some ⟨g,0,none⟩∧W0.heap.size≤g:=by
  have hb:∃g,ba A9=some g∧W0.heap.size≤g:=by
   rw[bj,bj] at iQ;rcases iQ with h | h
   ·exact⟨W0.heap.size,h,au _⟩
   exact⟨_,h,by simp⟩
  obtain⟨g,h1,h2⟩:=hb;rcases hown.2 with ⟨e,-⟩ | ⟨g',cap,cu,e,-⟩
  ·injection e with e;rw[e] at h1;cases h1
  injection e with e;rw[e] at h1;injection h1 with h1;exact⟨g',e,by rw[show g'=g from h1];exact h2⟩
 refine⟨⟨by rw[eo,ql] at hown;exact hown,hv.two.mono fun a b k=>dX (fun p u hp=>?_) _ _ k⟩,hG,hg⟩;have hp2:=kZ (Lc hG) (fun _ h=>h.elim) p u hp;refine⟨hp2.1,hp2.2.1,fun hq=>?_⟩;rcases hq with hq | hq
 ·obtain⟨g,rfl,h2⟩:=hg;injection hq with hq;have:=hp.2.1;have h3:g=p.block:=hq;omega
 exact hp.2.2 (.inr hq)
theorem MP{o:Nat}(hb:Blk w g T cs)(hv:cs[o]?=some v):w.setCell ⟨g,o,none⟩ v=w:=by
 have h1:=hb.aY o v;have h2:cs.setIfInBounds o v=cs:=by
  refine Od fun i=>?_
  rw[Array.getElem?_setIfInBounds];split
  ·rename_i h;subst h;split
   ·exact hv.symm
   rename_i h3;rw[sN (by omega)]
  rfl
 rw[h2] at h1;have h3:=(cZ (S:=fun q=>q=g) w).set (p:=⟨g,o,none⟩) rfl v;have hz:(w.setCell ⟨g,o,none⟩ v).heap.size=w.heap.size:=by simp
 have he:(w.setCell ⟨g,o,none⟩ v).heap=w.heap:=by
  refine Od fun i=>?_
  by_cases hi:i<w.heap.size
  ·by_cases hg:i=g
   ·subst hg;exact Eq.trans h1 (px hb)
   exact h3.block i hi hg
  rw[sN (by omega),sN (by omega)]
 show World.setCell w ⟨g,o,none⟩ v=w;unfold World.setCell at he ⊢;dsimp only at he;rw[he]
structure L2 (W0:World) (ob rb lo c6:Nat) (A6:Option Addr) (hs:List Cv) (d:V) (b3 b5 b6 b8 iu:Bool) (x3 x5 x6:Value) (W:World):Prop where
 kept:Kept (fun q=>q=rb∨ba A6=some q) W0 W
 cp:b3=true→∃x:Cv,x3=x.agg∧IsV (dI W (fun q=>Ar ob rb q∨ba A6=some q∨(b6=true∧Value.ownBlock x6=some q))) d x
 bs:b5=true→b6=false→∃g,x5=.slice (some ⟨g,0,none⟩) 1 1∧g≠rb∧Blk W g 27 Cv.zero.cells
 row:b6=false→W.ownsRow lo 27 5 (.slice A6 hs.length c6) hs.length (cK hs)
 CS:b6=true→∃g c,x6=.slice (some ⟨g,0,none⟩) (hs.length+1) c∧lo≤g∧g≠rb∧g≠ob∧(ba A6=some g∨W0.heap.size≤g) ∧
  ((b8=false∧W.ownsRow lo 27 5 (.slice (some ⟨g,0,none⟩) (hs.length+1) c) (hs.length+1) (cK hs++Cv.zero.cells.toList))∨(b8=true∧∃x:Cv,x3=x.agg∧W.ownsRow lo 27 5 (.slice (some ⟨g,0,none⟩) (hs.length+1) c) (hs.length+1) (cK (hs++[x]))))
 rep:Blk W rb 31 #[.int .i64 0,.int .i64 0,if iu=true then x6 else .slice A6 hs.length c6,.int .i64 0]
theorem ai2(hs:List Cv)(x:Cv):cK (hs++[x])=cK hs++x.cells.toList:=by simp[cK]
section
variable {W0 W W':World} {ob rb lo c6:Nat} {A6:Option Addr} {hs:List Cv} {d:V} {b3 b5 b6 b8 iu:Bool} {x3 x5 x6:Value}
structure Au (W0:World) (ob rb lo c6:Nat) (A6:Option Addr) (hs:List Cv):Prop where
 Td:ob<lo
 I8:rb<lo
 le:lo≤W0.heap.size
 lt:∀g,ba A6=some g→lo≤g∧g<W0.heap.size
theorem L2.size(h:L2 W0 ob rb lo c6 A6 hs d b3 b5 b6 b8 iu x3 x5 x6 W):W0.heap.size≤W.heap.size:=h.kept.size
theorem L2.grow(s:Au W0 ob rb lo c6 A6 hs)(h:L2 W0 ob rb lo c6 A6 hs d b3 b5 b6 b8 iu x3 x5 x6 W)(hg:Grow W W'):L2 W0 ob rb lo c6 A6 hs d b3 b5 b6 b8 iu x3 x5 x6 W':=by
 refine⟨h.kept.trans (gN hg),fun e=>?_,fun e e'=>?_,fun e=>kG (h.row e) hg,fun e=>?_,h.rep.grow hg⟩
 ·obtain⟨x,r1,r2⟩:=h.cp e;exact⟨x,r1,dX (kZ (Lc hg) (fun _ h=>h.elim)) _ _ r2⟩
 ·obtain⟨g,r1,r2,r3⟩:=h.bs e e';exact⟨g,r1,r2,r3.grow hg⟩
 obtain⟨g,c,r1,r2,r3,r4,r5,r6⟩:=h.CS e;refine⟨g,c,r1,r2,r3,r4,r5,?_⟩;rcases r6 with ⟨k1,k2⟩ | ⟨k1,x,k2,k3⟩
 ·exact .inl ⟨k1,kG k2 hg⟩
 exact .inr ⟨k1,x,k2,kG k3 hg⟩
theorem L2.OD(s:Au W0 ob rb lo c6 A6 hs)(h:L2 W0 ob rb lo c6 A6 hs d false b5 b6 false iu x3 x5 x6 W)(hg:Grow W W'){x:Cv}(hin:pE W' W.heap.size W'.heap.size d x):L2 W0 ob rb lo c6 A6 hs d true b5 b6 false iu x.agg x5 x6 W':=by
 have h':=h.grow s hg;have hz:=h.size;refine⟨h'.kept,fun _=>⟨x,rfl,dX (dI.GD (au _) fun q hq=>?_) _ _ hin.BM⟩,h'.bs,h'.row,fun e=>?_,h'.rep⟩
 ·left;have h1:=s.Td;have h2:=s.I8;have h3:=s.le;rcases hq with (hq | hq) | hq | ⟨e,hq⟩
  ·omega
  ·omega
  ·have:=(s.lt q hq).2;omega
  obtain⟨g,c,r1,r2,r3,r4,r5,r6⟩:=h.CS e;rw[r1] at hq;injection hq with hq;subst hq;rcases r6 with ⟨k1,k2⟩ | ⟨k1,-⟩
  ·exact(bJ k2 g rfl).2
  cases k1
 obtain⟨g,c,r1,r2,r3,r4,r5,r6⟩:=h'.CS e;refine⟨g,c,r1,r2,r3,r4,r5,?_⟩;rcases r6 with ⟨k1,k2⟩ | ⟨k1,-⟩
 ·exact .inl ⟨k1,k2⟩
 cases k1
theorem L2.KD(s:Au W0 ob rb lo c6 A6 hs)(h:L2 W0 ob rb lo c6 A6 hs d b3 false false b8 iu x3 x5 x6 W):L2 W0 ob rb lo c6 A6 hs d b3 true false b8 iu x3 (.slice (some ⟨W.heap.size,0,none⟩) 1 1) x6 (W.alloc (.cells Cv.zero.cells 27)):=by
 have h':=h.grow s ((ah W).alloc (.cells Cv.zero.cells 27));have hz:=h.size;have h2:=s.I8;have h3:=s.le;exact⟨h'.kept,h'.cp,fun _ _=>⟨_,rfl,by omega,az _ _ _⟩,h'.row,fun e=>(by cases e),h'.rep⟩
theorem L2.mk6(s:Au W0 ob rb lo c6 A6 hs)(h:L2 W0 ob rb lo c6 A6 hs d b3 true false false false x3 x5 x6 W)(hown:W'.ownsRow lo 27 5 (.slice A (hs.length+1) c) (hs.length+1) (cK hs++Cv.zero.cells.toList))
 (hgr:W.grownBy W' (Value.ownBlock (.slice A6 hs.length c6))) (iQ:Value.ownBlock (.slice A (hs.length+1) c)=Value.ownBlock (.slice A6 hs.length c6)∨Value.ownBlock (.slice A (hs.length+1) c)=some W.heap.size) :
 L2 W0 ob rb lo c6 A6 hs d b3 true true false false x3 x5 (.slice A (hs.length+1) c) W':=by
 have hz:=h.size;have h1:=s.Td;have h2:=s.I8;have h3:=s.le;rw[bj] at hgr;rw[bj,bj] at iQ;obtain⟨g,cur,hA,hb,hgg,-⟩:=ju hown (by omega);subst hA;have hk:=pM hgr;refine⟨h.kept.trans (hk.mono fun q hq=>.inr hq),fun e=>?_,fun _ e=>(by cases e),fun e=>(by cases e),fun _=>⟨g,c,rfl,hb,by omega,by omega,?_,.inl ⟨rfl,hown⟩⟩,?_⟩
 ·obtain⟨x,r1,r2⟩:=h.cp e;refine⟨x,r1,dX (fun p u hp=>?_) _ _ r2⟩;have hp2:=kZ hk (fun q hq=>.inr (.inl hq)) p u hp;refine⟨hp2.1,hp2.2.1,fun hq=>?_⟩;rcases hq with hq | hq | ⟨-,hq⟩
  ·exact hp.2.2 (.inl hq)
  ·exact hp.2.2 (.inr (.inl hq))
  rw[bj] at hq;rcases iQ with ho | ho
  ·rw[ho] at hq;exact hp.2.2 (.inr (.inl hq))
  rw[ho] at hq;injection hq with hq;have:=hp.2.1;omega
 ·rcases iQ with ho | ho
  ·exact .inl ho.symm
  right;injection ho with ho;subst ho;exact hz
 exact hk.blk h.rep (fun e=>by have:=(s.lt rb e).1;omega)
theorem L2.mk8(s:Au W0 ob rb lo c6 A6 hs){x:Cv}(h:L2 W0 ob rb lo c6 A6 hs d true b5 true false iu x.agg x5 (.slice (some ⟨g,0,none⟩) (hs.length+1) c) W) :
 L2 W0 ob rb lo c6 A6 hs d true b5 true true iu x.agg x5 (.slice (some ⟨g,0,none⟩) (hs.length+1) c) (W.setCells g (hs.length*5) x.cells.toList):=by
 have hz:=h.size;have h1:=s.Td;have h2:=s.I8;have h3:=s.le;obtain⟨g',c',r1,r2,r3,r4,r5,r6⟩:=h.CS rfl;injection r1 with r1 _ Te;injection r1 with r1;injection r1 with r1;subst r1 Te;have hk:Kept (fun q=>q=g) W (W.setCells g (hs.length*5) x.cells.toList):=(pM (mJ g (some g) rfl x.cells.toList W (hs.length*5))).mono (fun q hq=>by injection hq with hq;exact hq.symm);have hrow:W.ownsRow lo 27 5 (.slice (some ⟨g,0,none⟩) (hs.length+1) c) (hs.length+1) (cK hs++Cv.zero.cells.toList):=by
  rcases r6 with ⟨-,k⟩ | ⟨k,-⟩
  ·exact k
  cases k
 refine⟨?_,fun _=>?_,fun _ e=>(by cases e),fun e=>(by cases e),fun _=>⟨g,c,rfl,r2,r3,r4,r5,.inr ⟨rfl,x,rfl,?_⟩⟩,hk.blk h.rep (fun e=>r3 e.symm)⟩
 ·refine⟨hk.os.trans h.kept.os,hk.tape.trans h.kept.tape,hk.output.trans h.kept.output,aV hz hk.size,fun k hkl hs=>?_⟩;refine(hk.block k (bG hkl hz) (fun e=>?_)).trans (h.kept.block k hkl hs);subst e;rcases r5 with r5 | r5
  ·exact hs (.inr r5)
  omega
 ·obtain⟨y,q1,q2⟩:=h.cp rfl;injection q1 with q1;have hxy:y=x:=by
   obtain⟨k,n,aB,nB,cB,aL,nL,cL,aF,nF,cF⟩:=x;obtain⟨k',n',rE,nB',rF,uC,nL',uE,uD,nF',uF⟩:=y;simp at q1;obtain⟨rfl,rfl,⟨rfl,rfl,rfl⟩,⟨rfl,rfl,rfl⟩,rfl,rfl,rfl⟩:=q1;rfl
  subst hxy;exact⟨y,rfl,dX (kZ hk fun q hq=>.inr (.inr ⟨rfl,by rw[hq];rfl⟩)) _ _ q2⟩
 have hput:=Lt (D:=hs.length) (vs:=x.cells.toList) hrow (by omega) rfl;have e0:(cK hs).length=hs.length*5:=KY hs;rw[Kp (by omega),rB (by omega),J4 (by rw[bp,e0];simp;omega),oZ] at hput;rw[ai2];exact hput
theorem L2.Ai(s:Au W0 ob rb lo c6 A6 hs)(h:L2 W0 ob rb lo c6 A6 hs d b3 b5 true b8 false x3 x5 x6 W):L2 W0 ob rb lo c6 A6 hs d b3 b5 true b8 true x3 x5 x6 (W.setCell ⟨rb,2,none⟩ x6):=by
 have h2:=s.I8;have hk:Kept (fun q=>q=rb) W (W.setCell ⟨rb,2,none⟩ x6):=(cZ (S:=fun q=>q=rb) W).set (p:=⟨rb,2,none⟩) rfl x6;refine⟨h.kept.trans (hk.mono fun q hq=>.inl hq),fun e=>?_,fun _ e=>(by cases e),fun e=>(by cases e),fun _=>?_,?_⟩
 ·obtain⟨x,r1,r2⟩:=h.cp e;exact⟨x,r1,dX (kZ hk fun q hq=>.inl (.inl hq)) _ _ r2⟩
 ·obtain⟨g,c,r1,r2,r3,r4,r5,r6⟩:=h.CS rfl;have hn:∀g',ba (some ⟨g,0,none⟩)=some g'→¬ g'=rb:=fun g' hg e=>by injection hg with hg;exact r3 (hg.trans e)
  refine⟨g,c,r1,r2,r3,r4,r5,?_⟩;rcases r6 with ⟨k1,k2⟩ | ⟨k1,x,k2,k3⟩
  ·exact .inl ⟨k1,fG k2 hk hn⟩
  exact .inr ⟨k1,x,k2,fG k3 hk hn⟩
 have:=h.rep.aY 2 x6;exact this
theorem L2.done(s:Au W0 ob rb lo c6 A6 hs){l0:List V}(h:L2 W0 ob rb lo c6 A6 hs d true true true true true x3 x5 x6 W)(hv:VR (Ar ob rb) W0 lo A6 c6 hs l0):∃g c x,x6=.slice (some ⟨g,0,none⟩) (hs.length+1) c∧VR (Ar ob rb) W lo (some ⟨g,0,none⟩) c (hs++[x]) (l0++[d]) ∧
 Blk W rb 31 (cS 0 0 (some ⟨g,0,none⟩) (hs++[x]).length c 0):=by
 obtain⟨g,c,r1,r2,r3,r4,r5,r6⟩:=h.CS rfl;obtain⟨x,k2,k3⟩:∃x:Cv,x3=x.agg∧W.ownsRow lo 27 5 (.slice (some ⟨g,0,none⟩) (hs.length+1) c) (hs.length+1) (cK (hs++[x])):=by
  rcases r6 with ⟨k1,k2⟩ | ⟨k1,k⟩
  ·cases k1
  exact k
 obtain⟨y,q1,q2⟩:=h.cp rfl;have hxy:y=x:=by
  rw[k2] at q1;injection q1 with q1;obtain⟨k,n,aB,nB,cB,aL,nL,cL,aF,nF,cF⟩:=x;obtain⟨k',n',rE,nB',rF,uC,nL',uE,uD,nF',uF⟩:=y;simp at q1;obtain⟨rfl,rfl,⟨rfl,rfl,rfl⟩,⟨rfl,rfl,rfl⟩,rfl,rfl,rfl⟩:=q1;rfl
 subst hxy;have aaI:=h.rep;rw[aD rfl,r1] at aaI;have hl:(hs++[y]).length=hs.length+1:=by simp
 refine⟨g,c,y,r1,⟨by rw[hl];exact k3,(hv.two.mono fun a b k=>dX (fun p u hp=>?_) _ _ k).append (Two.one ?_)⟩,by rw[hl];exact aaI⟩
 ·have hp2:=kZ h.kept (fun q hq=>by
   rcases hq with hq | hq
   ·exact Or.inr (Or.inl hq)
   exact Or.inl hq) p u hp
  refine⟨hp2.1,hp2.2.1,fun hq=>?_⟩;rcases hq with hq | hq
  ·have hq2:g=p.block:=nZ hq;rcases r5 with r5 | r5
   ·exact hp.2.2 (.inl (by rw[r5,hq2]))
   have:=hp.2.1;omega
  exact hp.2.2 (.inr hq)
 refine dX (dI.sub fun q hq=>?_) _ _ q2;rcases hq with hq | hq
 ·exact .inr (.inr ⟨rfl,by rw[r1,bj];exact hq⟩)
 exact .inl hq
end
def Tf(N:Nat)(w:World)(st:List Co)(q:Rq)(e:Ending)(w':World):Prop:=
 ∃r,qN N st q r∧Grow w w'∧∃A c dA dc,e=.returned (.tuple #[.agg #[.slice A (mU st r).1.length c],.agg (cS (mU st r).2.e (mU st r).2.n dA (mU st r).2.ag.length dc (mU st r).2.eX)])∧cQ w' A c (mU st r).1∧InL w' dA dc (mU st r).2.ag
theorem ai3(w:World):Sem.run prog (zeroValue 88) w=.ok (.agg #[.nilFunc]) w:=by kernel_rfl
def ai4(w:World)(k:Int)(t6 t7:Value)(wx:World):Prop:=
 Grow w wx∧((1≤k∧k≤10)∧t7=.bool true∧(∃MQ,t6=.pointer (some ⟨MQ,0,none⟩)∧w.heap.size≤MQ∧Blk wx MQ 88 #[.func (.func (i6 k)) #[] #[]])∨¬ (1≤k∧k≤10)∧t7=.bool false)
theorem aaJ(k:Int)(g:Nat)(w:World)(hm:w.heap[g]?=some (.map reqs 10)):∃u b,(Instr.lookup 90 (.map (some g)) (.int .i64 k) true).run prog w=.ok (.tuple #[.agg #[u],.bool b]) w∧((1≤k∧k≤10)∧u=.func (.func (i6 k)) #[] #[]∧b=true∨¬ (1≤k∧k≤10)∧u=.nilFunc∧b=false):=by
 by_cases h:1≤k∧k≤10
 ·obtain⟨i,hi⟩:=ahu k h;exact⟨_,_,ahe 90 3 88 uf I9 g reqs 10 hm k i _ hi,.inl ⟨h,rfl,rfl⟩⟩
 exact⟨_,_,ahf 90 3 88 _ uf I9 (ai3 w) g reqs 10 hm k (ahi k h),.inr ⟨h,rfl,rfl⟩⟩
theorem Tg(k:Int)(g:Nat)(w:World)(hm:w.heap[g]?=some (.map reqs 10))(h:1≤k∧k≤10):(Instr.lookup 90 (.map (some g)) (.int .i64 k) true).run prog w=.ok (.tuple #[.agg #[.func (.func (i6 k)) #[] #[]],.bool true]) w:=by
 obtain⟨u,b,hr,h1 | h1⟩:=aaJ k g w hm
 ·obtain⟨-,rfl,rfl⟩:=h1;exact hr
 exact absurd h h1.1
theorem Th(k:Int)(g:Nat)(w:World)(hm:w.heap[g]?=some (.map reqs 10))(h:¬ (1≤k∧k≤10)):(Instr.lookup 90 (.map (some g)) (.int .i64 k) true).run prog w=.ok (.tuple #[.agg #[.nilFunc],.bool false]) w:=by
 obtain⟨u,b,hr,h1 | h1⟩:=aaJ k g w hm
 ·exact absurd h1.1 h
 obtain⟨-,rfl,rfl⟩:=h1;exact hr
theorem aaK{e n d k:Value}(h4:tmps.getD 4 undef=.pointer (some ⟨ob,0,none⟩))(h5:tmps.getD 5 undef=.pointer (some ⟨rb,0,none⟩))(ho:Blk W ob 44 #[u])(hr:Blk W rb 31 #[e,n,d,k]) :
 (results f18 tmps).run prog W=.ok (.tuple #[.agg #[u],.agg #[e,n,d,k]]) W:=by
 have qD:=ho.cell;have hrc:=hr.cell;have h4':tmps[4]?.getD undef=.pointer (some ⟨ob,0,none⟩):=by simpa using h4
 have rG:tmps[5]?.getD undef=.pointer (some ⟨rb,0,none⟩):=by simpa using h5
 simp[results,results18,go_sem,h4',rG,qD,hrc]
theorem cz.copy(h:cz N st)(hN:N≤1000001):st.length≤1000000000∧∀c∈st,XK c:=by
 refine⟨by have:=h.n;omega,fun c hc=>?_⟩;have h1:=h.co c hc;refine⟨by have:=h1.nd;omega,by have:=h1.nx;omega,fun d hd=>?_⟩;obtain⟨i,-,-,-,hg,-⟩:=(h1.ag d hd).id;exact Gw hg
theorem CR.old(h:CR (fun q=>q<B) w lo A c es st)(hB:B≤lo)(hk:Kept (fun q=>q<B) w w'):CR (fun q=>q<B) w' lo A c es st:=
 h.kept pL hk (fun _ h=>h) (fun g hg hq=>by
  have:=(bJ h.row g (by rw[bj];exact hg)).1;omega)
theorem aaL{w6:World}{c6:Nat}{e0 n0 d0 k0:Value}(h5:Grow w w5)(h6:Grow w5 w6)(ni:qN N st q (.error e))(ho:Blk w6 ob 44 #[u])(hr:Blk w6 rb 31 #[e0,n0,d0,k0])(hol:w.heap.size≤ob∧ob<w5.heap.size∧ob≠rb)(hrl:w.heap.size≤rb∧rb<w5.heap.size)
 (hcr:CR (fun q=>q<w5.heap.size) w6 w5.heap.size A6 c6 es st) (h4:tmps.getD 4 undef=.pointer (some ⟨ob,0,none⟩)) (rG:tmps.getD 5 undef=.pointer (some ⟨rb,0,none⟩)) :
 (results f18 tmps).run prog (Mu w6 ob rb (.slice A6 st.length c6) e)=.ok (.tuple #[.agg #[.slice A6 st.length c6],.agg #[.int .i64 e,.int .i64 0,.slice none 0 0,.int .i64 0]]) (Mu w6 ob rb (.slice A6 st.length c6) e)∧Tf N w st q (.returned (.tuple #[.agg #[.slice A6 st.length c6],.agg #[.int .i64 e,.int .i64 0,.slice none 0 0,.int .i64 0]])) (Mu w6 ob rb (.slice A6 st.length c6) e):=by
 have hk:∀(v0 v1 v2 v3 v4:Value),Kept (fun q=>q<w5.heap.size) w6 (((((w6.setCell ⟨ob,0,none⟩ v0).setCell ⟨rb,0,none⟩ v1).setCell ⟨rb,1,none⟩ v2).setCell ⟨rb,2,none⟩ v3).setCell ⟨rb,3,none⟩ v4):=fun v0 v1 v2 v3 v4 =>
  (((((cZ _ w6).set (p:=⟨ob,0,none⟩) hol.2.1 v0).set (p:=⟨rb,0,none⟩) hrl.2 v1).set (p:=⟨rb,1,none⟩) hrl.2 v2).set (p:=⟨rb,2,none⟩) hrl.2 v3).set (p:=⟨rb,3,none⟩) hrl.2 v4
 have hc:=CR.old hcr (au _) (hk (.slice A6 st.length c6) (.int .i64 e) (.int .i64 0) (.slice none 0 0) (.int .i64 0));refine⟨aaK h4 rG ?_ ?_,_,ni,?_,A6,c6,none,0,rfl,CR.Xj hc,vo _⟩
 ·exact((((ho.aY 0 _).far (p:=⟨rb,0,none⟩) hol.2.2 _).far (p:=⟨rb,1,none⟩) hol.2.2 _).far (p:=⟨rb,2,none⟩) hol.2.2 _).far (p:=⟨rb,3,none⟩) hol.2.2 _
 ·exact((((hr.far (p:=⟨ob,0,none⟩) (fun e=>hol.2.2 e.symm) _).aY 0 _).aY 1 _).aY 2 _).aY 3 _
 exact(((((h5.trans h6).setCell (p:=⟨ob,0,none⟩) hol.1 _).setCell (p:=⟨rb,0,none⟩) hrl.1 _).setCell (p:=⟨rb,1,none⟩) hrl.1 _).setCell (p:=⟨rb,2,none⟩) hrl.1 _).setCell (p:=⟨rb,3,none⟩) hrl.1 _
theorem ai5{P:Program}{ops:Array Oper}{a:Act}{S:World→Prop}{ty t:TypeId}{x:Operand}{d:Option Tmp}{p:String}{af:Array Edge}{g n:Nat}{cells:Array Value}{td:TypeDesc}(hu:P.underlying ty=some td)(hd:(match td with | .struct _ | .array _ _=>true | _=>false)=true)(hx:a.eval x=.pointer (some ⟨g,0,none⟩))(hB:∀w,S w→Blk w g ty cells)(hi:(P.info? ty).map (·.size)=some n)
 (hn:cells.size=n):YieldsIf P ops S ⟨d,.load ty x,t,p,af,none⟩ (.agg cells) a:=
 .inl ⟨by simp[Region.wanted],fun w hS=>by
  have:=FP (P:=P) w g ty ty cells (0,0) td (hB w hS) hu hd (by rw[hn];exact hi);simp only[execOp,hx,Instr.loadAt,Instr.sureAddr,AV,Da,Db,this]⟩
theorem Ti:(prog.info? 33).map (·.size)=some 26:=by kernel_rfl
theorem ai6(k:Int)(x:Value)(w:World):Sem.run prog (callFunc (i6 k) #[x]) w=.ok (.enter (i6 k) #[x]) w:=by
 unfold i6
 repeat' split
 all_goals kernel_rfl
theorem ai7{st2:List Co}{n:Int}{gQ:Option Addr}{c10:Nat}(hg:Grow w W)(ni:qN N st q (.ok (st2,n,ag)))(ho:Blk W ob 44 #[.slice gQ st2.length c10])(hr:Blk W rb 31 (cS 0 n A9 ag.length c9 0))
 (hs:cQ W gQ c10 st2) (hd:InL W A9 c9 ag) (h4:tmps.getD 4 undef=.pointer (some ⟨ob,0,none⟩)) (h5:tmps.getD 5 undef=.pointer (some ⟨rb,0,none⟩)) :
 (results f18 tmps).run prog W=.ok (.tuple #[.agg #[.slice gQ st2.length c10],.agg (cS 0 n A9 ag.length c9 0)]) W∧Tf N w st q (.returned (.tuple #[.agg #[.slice gQ st2.length c10],.agg (cS 0 n A9 ag.length c9 0)])) W:=by
 exact⟨aaK h4 h5 ho hr,_,ni,hg,gQ,c10,A9,c9,rfl,hs,hd⟩
theorem aaM(N cap:Nat)(A:Option Addr)(st:List Co)(q:Rq)(ck cl ch cx:Cv)(w:World)(hst:cQ w A cap st)(hok:cz N st)(hN:N≤1000000)(hR:sD q)(hTL:∀W,Grow w W→dz W∧kD W)
 (hk:In w q.key ck) (hl:In w q.low cl) (hh:In w q.high ch) (hx:In w q.doc cx) :
 Calls prog 18 #[.agg #[.slice A st.length cap],.agg (b9 q.aM q.aw q.index q.path q.unique ck cl ch cx q.n)] w (Tf N w st q):=by
 have HST:=aa hst;have bD:=aa hok;have HR:=aa hR;have Tj:=aa hTL;have HK:=aa hk;have HL:=aa hl;have HH:=aa hh;have HX:=aa hx;clear hst hok hR hTL hk hl hh hx;have bP:=aa (((((ah w).alloc (.cells #[.slice A st.length cap] 44)).alloc (.cells (b9 q.aM q.aw q.index q.path q.unique ck cl ch cx q.n) 33)).alloc (.cells #[.slice none 0 0] 44)).alloc (.cells #[.int .i64 0,.int .i64 0,.slice none 0 0,.int .i64 0] 31));have ax:=aa ((((az w 44 #[.slice A st.length cap]).alloc (.cells (b9 q.aM q.aw q.index q.path q.unique ck cl ch cx q.n) 33)).alloc (.cells #[.slice none 0 0] 44)).alloc (.cells #[.int .i64 0,.int .i64 0,.slice none 0 0,.int .i64 0] 31))
 have aq:=aa (((az (w.alloc (.cells #[.slice A st.length cap] 44)) 33 (b9 q.aM q.aw q.index q.path q.unique ck cl ch cx q.n)).alloc (.cells #[.slice none 0 0] 44)).alloc (.cells #[.int .i64 0,.int .i64 0,.slice none 0 0,.int .i64 0] 31));have Tk:=aa ((az ((w.alloc (.cells #[.slice A st.length cap] 44)).alloc (.cells (b9 q.aM q.aw q.index q.path q.unique ck cl ch cx q.n) 33)) 44 #[.slice none 0 0]).alloc (.cells #[.int .i64 0,.int .i64 0,.slice none 0 0,.int .i64 0] 31));have qO:=aa (az (((w.alloc (.cells #[.slice A st.length cap] 44)).alloc (.cells (b9 q.aM q.aw q.index q.path q.unique ck cl ch cx q.n) 33)).alloc (.cells #[.slice none 0 0] 44)) 31 #[.int .i64 0,.int .i64 0,.slice none 0 0,.int .i64 0]);rw[show (w.alloc (.cells #[.slice A st.length cap] 44)).heap.size=w.heap.size+1 from by simp] at aq
 rw[show ((w.alloc (.cells #[.slice A st.length cap] 44)).alloc (.cells (b9 q.aM q.aw q.index q.path q.unique ck cl ch cx q.n) 33)).heap.size=w.heap.size+1+1 from by simp] at Tk;rw[show (((w.alloc (.cells #[.slice A st.length cap] 44)).alloc (.cells (b9 q.aM q.aw q.index q.path q.unique ck cl ch cx q.n) 33)).alloc (.cells #[.slice none 0 0] 44)).heap.size=w.heap.size+1+1+1 from by simp] at qO;go_enter_defers func18,ntmps18;go_upto_region 1 with fail;generalize (((w.alloc (.cells #[.slice A st.length cap] 44)).alloc (.cells (b9 q.aM q.aw q.index q.path q.unique ck cl ch cx q.n) 33)).alloc (.cells #[.slice none 0 0] 44)).alloc (.cells #[.int .i64 0,.int .i64 0,.slice none 0 0,.int .i64 0] 31)=W4 at bP ax aq Tk qO ⊢
 have kO:=aa (fun(W:World) (hg:Grow W4 W)=>show W.cell? ⟨w.heap.size+1,0,none⟩=some (.int .i64 q.aM) from (aq.o.grow hg).cell 0);go_cut [6,7] from 13 to 19 (fun t6 t7 wx=>ai4 W4 q.aM t6 t7 wx)
 case first =>
  by_cases hkn:1≤q.aM∧q.aM≤10
  ·have nO:=aa hkn;clear hkn;refine dg ?_;refine cW (S:=fun w'=>w'.cell? ⟨w.heap.size+1,0,none⟩=some (.int .i64 q.aM)) (by kernel_rfl) (kO.o _ ((ah _).drew)) (fun hHeld=>?_);have lU:=aa (show Grow W4 W4.drew from (ah _).drew);generalize W4.drew=V at lU hHeld ⊢;refine ai 1 ?_;refine ai 2 ?_;refine bC [0,7] ?_;refine fC (fun K hK=>?_) (fC (fun K hK=>?_) dM)
   ·go_simp;go_at_call 36;refine(Mi _).mono ?_;rintro ee w7 ⟨g,rfl,hge,kM,bw⟩;have lX:=aa kM;have aX:=aa (lU.o.trans bw);clear hge kM bw;refine aT hK (kO.o _ aX.o) (fun hHeld=>?_);refine bC [3,7] ?_;refine fC (fun K hK=>?_) (fC (fun K hK=>?_) dM)
    focus
     have hlk:=Tg q.aM g w7 lX.o nO.o
     go_simp
     clear hlk
     refine aT hK (kO.o _ aX.o) (fun hHeld=>?_)
     refine ai 4 ?_
     refine ai 5 ?_
     refine ai 6 ?_
     refine aK 7 (fun K hK=>?_)
     go_simp
     have bR:=aa (aX.o.alloc (.cells #[.nilFunc] 88))
     have jk:=aa (az w7 88 #[.nilFunc])
     have lO:=aa (show W4.heap.size≤w7.heap.size from aX.o.size)
     refine aT hK (kO.o _ bR.o) (fun hHeld=>?_)
    rotate_left
    focus
     go_simp
     have bR:=aa (aX.o.alloc (.cells #[.nilFunc] 88))
     have jk:=aa (az w7 88 #[.nilFunc])
     have lO:=aa (show W4.heap.size≤w7.heap.size from aX.o.size)
     have Tm:=aa (show (w7.alloc (.cells #[.nilFunc] 88)).heap[g]?=some (.map reqs 10) from (((ah w7).alloc _).below.block g (qq.1 lX.o).1).trans lX.o)
     refine aT hK (kO.o _ bR.o) (fun hHeld=>?_)
     refine aK 3 (fun K hK=>?_)
     have hlk:=Tg q.aM g _ Tm.o nO.o
     go_simp
     clear hlk
     refine aT hK (kO.o _ bR.o) (fun hHeld=>?_)
     refine ai 4 ?_
     refine ai 5 ?_
     refine ai 6 ?_
    all_goals
     generalize w7.alloc (.cells #[.nilFunc] 88)=W8 at jk bR hHeld ⊢
     have hcb:=jk.o.cell
     have CT:∀(a:Addr) (w:World) (m:Mode),Sem.run prog (store a (.func (.func (i6 q.aM)) #[] #[]) m) w=stored prog w a (.func (.func (i6 q.aM)) #[] #[]) m:=fun a w m=>run_store _ w a _ m rfl
     have rW:=jk.o.frozen
     refine aK 8 (fun K hK=>?_)
     go_simp
     have bN:=aa (jk.o.aY 0 (.func (.func (i6 q.aM)) #[] #[]))
     have cX:=aa (bR.o.grown (rN _ w7.heap.size 0 (.func (.func (i6 q.aM)) #[] #[])) (fun k hk=>by cases hk;exact lO.o))
     clear hcb rW CT
     refine aT hK (kO.o _ cX.o) (fun hHeld=>?_)
     refine ai 9 ?_
     refine cG ?_
     clear hHeld
     go_wp2_with fail
     go_meet
     exact⟨cX.o,.inl ⟨nO.o,rfl,_,rfl,lO.o,bN.o⟩⟩
   go_simp;have a_:=aa (lU.o.alloc (.cells #[.nilFunc] 88));have av:=aa (az V 88 #[.nilFunc]);have lO:=aa (show W4.heap.size≤V.heap.size from lU.o.size);refine aT hK (kO.o _ a_.o) (fun hHeld=>?_);refine aK 0 (fun K hK=>?_);go_simp;go_at_call 36;refine(Mi _).mono ?_;rintro ee w7 ⟨g,rfl,hge,kM,bw⟩;have lX:=aa kM;have bR:=aa (a_.o.trans bw);have jk:=aa (av.o.grow bw);clear hge kM bw;refine aT hK (kO.o _ bR.o) (fun hHeld=>?_);refine aK 3 (fun K hK=>?_);have hlk:=Tg q.aM g w7 lX.o nO.o;go_simp;clear hlk;refine aT hK (kO.o _ bR.o) (fun hHeld=>?_);refine ai 4 ?_;refine ai 5 ?_;refine ai 6 ?_;have hcb:=jk.o.cell
   have CT:∀(a:Addr) (w:World) (m:Mode),Sem.run prog (store a (.func (.func (i6 q.aM)) #[] #[]) m) w=stored prog w a (.func (.func (i6 q.aM)) #[] #[]) m:=fun a w m=>run_store _ w a _ m rfl
   have rW:=jk.o.frozen;refine aK 8 (fun K hK=>?_);go_simp;have bN:=aa (jk.o.aY 0 (.func (.func (i6 q.aM)) #[] #[]));have cX:=aa (bR.o.grown (rN _ V.heap.size 0 (.func (.func (i6 q.aM)) #[] #[])) (fun k hk=>by cases hk;exact lO.o));clear hcb rW CT;refine aT hK (kO.o _ cX.o) (fun hHeld=>?_);refine ai 9 ?_;refine cG ?_;clear hHeld;go_wp2_with fail;go_meet;exact⟨cX.o,.inl ⟨nO.o,rfl,_,rfl,lO.o,bN.o⟩⟩
  have nO:=aa hkn;clear hkn;refine dg ?_;refine cW (S:=fun w'=>w'.cell? ⟨w.heap.size+1,0,none⟩=some (.int .i64 q.aM)) (by kernel_rfl) (kO.o _ ((ah _).drew)) (fun hHeld=>?_);have lU:=aa (show Grow W4 W4.drew from (ah _).drew);generalize W4.drew=V at lU hHeld ⊢;refine ai 1 ?_;refine ai 2 ?_;refine bC [0,7] ?_;refine fC (fun K hK=>?_) (fC (fun K hK=>?_) dM)
  ·go_simp;go_at_call 36;refine(Mi _).mono ?_;rintro ee w7 ⟨g,rfl,hge,kM,bw⟩;have lX:=aa kM;have aX:=aa (lU.o.trans bw);clear hge kM bw;refine aT hK (kO.o _ aX.o) (fun hHeld=>?_);refine bC [3,7] ?_;refine fC (fun K hK=>?_) (fC (fun K hK=>?_) dM)
   focus
    have hlk:=Th q.aM g w7 lX.o nO.o
    go_simp
    clear hlk
    refine aT hK (kO.o _ aX.o) (fun hHeld=>?_)
    refine ai 4 ?_
    refine ai 5 ?_
    refine ai 6 ?_
    refine aK 7 (fun K hK=>?_)
    go_simp
    have bR:=aa (aX.o.alloc (.cells #[.nilFunc] 88))
    have jk:=aa (az w7 88 #[.nilFunc])
    have lO:=aa (show W4.heap.size≤w7.heap.size from aX.o.size)
    refine aT hK (kO.o _ bR.o) (fun hHeld=>?_)
   rotate_left
   focus
    go_simp
    have bR:=aa (aX.o.alloc (.cells #[.nilFunc] 88))
    have jk:=aa (az w7 88 #[.nilFunc])
    have lO:=aa (show W4.heap.size≤w7.heap.size from aX.o.size)
    have Tm:=aa (show (w7.alloc (.cells #[.nilFunc] 88)).heap[g]?=some (.map reqs 10) from (((ah w7).alloc _).below.block g (qq.1 lX.o).1).trans lX.o)
    refine aT hK (kO.o _ bR.o) (fun hHeld=>?_)
    refine aK 3 (fun K hK=>?_)
    have hlk:=Th q.aM g _ Tm.o nO.o
    go_simp
    clear hlk
    refine aT hK (kO.o _ bR.o) (fun hHeld=>?_)
    refine ai 4 ?_
    refine ai 5 ?_
    refine ai 6 ?_
   all_goals
    generalize w7.alloc (.cells #[.nilFunc] 88)=W8 at jk bR hHeld ⊢
    have hcb:=jk.o.cell
    have CT:∀(a:Addr) (w:World) (m:Mode),Sem.run prog (store a .nilFunc m) w=stored prog w a .nilFunc m:=fun a w m=>run_store _ w a _ m rfl
    have rW:=jk.o.frozen
    refine aK 8 (fun K hK=>?_)
    go_simp
    have bN:=aa (jk.o.aY 0 .nilFunc)
    have cX:=aa (bR.o.grown (rN _ w7.heap.size 0 .nilFunc) (fun k hk=>by cases hk;exact lO.o))
    clear hcb rW CT
    refine aT hK (kO.o _ cX.o) (fun hHeld=>?_)
    refine ai 9 ?_
    refine cG ?_
    clear hHeld
    go_wp2_with fail
    go_meet
    exact⟨cX.o,.inr ⟨nO.o,rfl⟩⟩
  go_simp;have a_:=aa (lU.o.alloc (.cells #[.nilFunc] 88));have av:=aa (az V 88 #[.nilFunc]);have lO:=aa (show W4.heap.size≤V.heap.size from lU.o.size);refine aT hK (kO.o _ a_.o) (fun hHeld=>?_);refine aK 0 (fun K hK=>?_);go_simp;go_at_call 36;refine(Mi _).mono ?_;rintro ee w7 ⟨g,rfl,hge,kM,bw⟩;have lX:=aa kM;have bR:=aa (a_.o.trans bw);have jk:=aa (av.o.grow bw);clear hge kM bw;refine aT hK (kO.o _ bR.o) (fun hHeld=>?_);refine aK 3 (fun K hK=>?_);have hlk:=Th q.aM g w7 lX.o nO.o;go_simp;clear hlk;refine aT hK (kO.o _ bR.o) (fun hHeld=>?_);refine ai 4 ?_;refine ai 5 ?_;refine ai 6 ?_;have hcb:=jk.o.cell;have CT:∀(a:Addr) (w:World) (m:Mode),Sem.run prog (store a .nilFunc m) w=stored prog w a .nilFunc m:=fun a w m=>run_store _ w a _ m rfl
  have rW:=jk.o.frozen;refine aK 8 (fun K hK=>?_);go_simp;have bN:=aa (jk.o.aY 0 .nilFunc);have cX:=aa (bR.o.grown (rN _ V.heap.size 0 .nilFunc) (fun k hk=>by cases hk;exact lO.o));clear hcb rW CT;refine aT hK (kO.o _ cX.o) (fun hHeld=>?_);refine ai 9 ?_;refine cG ?_;clear hHeld;go_wp2_with fail;go_meet;exact⟨cX.o,.inr ⟨nO.o,rfl⟩⟩
 obtain⟨bK,MR⟩:=hcut;rename World=>w5;have anR:=aa bK;have a_:=aa (bP.o.trans bK);have Ff:=aa (ax.o.grow bK);have Tn:=aa (aq.o.grow bK);have MS:=aa (Tk.o.grow bK);have I_:=aa (qO.o.grow bK);clear bK;rcases MR with ⟨hkn,rfl,MQ,rfl,hmx,fH⟩ | ⟨hkn,rfl⟩
 rotate_left
 ·have ni:qN N st q (.error 1):=.inl (ahw hkn).symm;have j3:=aa ni
  have hsc:=Ff.o.cell;clear hkn ni
  go_wp2_with fail;refine(Qx st A cap _ (HST.o.grow a_.o) (bD.o.copy (by omega)).1 (bD.o.copy (by omega)).2).mono ?_;rintro e w6 ⟨bE,A6,c6,es6,rfl,hcr⟩;have aW:=aa bE;have r_:=aa hcr;have Tp:=aa (MS.o.grow bE);have Tq:=aa (I_.o.grow bE);have qD:=Tp.o.cell;have hof:=Tp.o.frozen;have hrc:=Tq.o.cell;have hrf:=Tq.o.frozen;clear bE hcr hsc;go_wp2_with fail;exact⟨_,aaL a_.o aW.o j3.o Tp.o Tq.o (by have:=MS.o.lt;omega) (by have:=I_.o.lt;omega) r_.o rfl rfl⟩
 have nO:=aa hkn;have HMX:=aa hmx;have bN:=aa fH;obtain⟨DI,kq,jU,rY⟩:=HST.o;have qQ:=aa jU;have rZ:=aa rY;clear hkn hmx fH jU rY DI;go_wp2_with fail;refine dg ?_;refine cW (S:=fun w'=>w'.cell? ⟨w.heap.size,0,none⟩=some (.slice A st.length cap)∧Blk w' (w.heap.size+1) 33 (b9 q.aM q.aw q.index q.path q.unique ck cl ch cx q.n)) (by kernel_rfl) (⟨(Ff.o.grow ((ah _).drew)).cell 0,Tn.o.grow ((ah _).drew)⟩) (fun hHeld=>?_);have lU:=aa (show Grow w5 w5.drew from (ah _).drew);have HVS:=aa (show w5.drew.heap.size=w5.heap.size from rfl);generalize w5.drew=V at lU HVS hHeld ⊢;refine ai 0 ?_;refine cO 1 ?_
 refine je (i:=4) (v:=.agg (b9 q.aM q.aw q.index q.path q.unique ck cl ch cx q.n)) (by simp only[kR,kT,kU];rfl) (by kernel_rfl) (by kernel_rfl) (by kernel_rfl) (fun _ _ _ h=>h) (ai5 (n:=26) underlying33 rfl rfl (fun _ h=>h.2) Ti rfl) (by assumption) ?_
 try simp only[aH]
 refine aK 2 (fun K hK=>?_);go_simp;go_at_call 38;refine(aiQ st.length A cap (cY kq) V (rZ.o.mono (eU ((a_.o.trans lU.o).below) (au _) (au _) (a_.o.trans lU.o).size)) (Ei kq) (by have:=bD.o.n;omega)).mono ?_;rintro ee w7 ⟨A1,c1,rfl,hown,bw⟩;have HOW:=aa hown;have aX:=aa (lU.o.trans bw);clear hown bw;refine aT hK (⟨(Ff.o.grow aX.o).cell 0,Tn.o.grow aX.o⟩) (fun hHeld=>?_);refine ai 3 ?_;refine ai 5 ?_;refine aK 6 (fun K hK=>?_);go_simp;have tV:=aa (az w7 96 (Ce A1 st.length c1 q.aM q.aw q.index q.path q.unique ck cl ch cx q.n));have bR:=aa (aX.o.alloc (.cells (Ce A1 st.length c1 q.aM q.aw q.index q.path q.unique ck cl ch cx q.n) 96));have lO:=aa (show w5.heap.size≤w7.heap.size from aX.o.size)
 have aaN:=aa (kG (World.ownsRow.mono HOW.o (Nat.le_of_eq HVS.o.symm)) ((ah w7).alloc (.cells (Ce A1 st.length c1 q.aM q.aw q.index q.path q.unique ck cl ch cx q.n) 96)));generalize w7.alloc (.cells (Ce A1 st.length c1 q.aM q.aw q.index q.path q.unique ck cl ch cx q.n) 96)=W8 at tV bR aaN ⊢;generalize w7.heap.size=mb at tV lO ⊢;refine hK.out _ _ ⟨(Ff.o.grow bR.o).cell 0,Tn.o.grow bR.o⟩ (fun hHeld=>?_)
 try simp only[aH]
 refine ai 7 ?_;refine cG ?_;clear hHeld;have hm8:=tV.o.cell;go_wp2_with fail;clear hm8;go_loopg [38] (st.length+1) (fun gk i wr=>∃(j:Nat) (es:List Cc),j≤st.length∧gk+j=st.length+1∧i=.int .i64 j∧xt wr w5.heap.size A1 c1 kq es st j∧Blk wr mb 96 (Ce A1 st.length c1 q.aM q.aw q.index q.path q.unique ck cl ch cx q.n)∧Grow w5 wr);exact⟨0,kq,aR _,rfl,rfl,xt.start aaN.o qQ.o.1,tV.o,bR.o⟩;obtain⟨j,es,hj,hg,rfl,hcl,xk,hgr⟩:=hrel;obtain⟨gk',rfl⟩:=bz gk (by omega);have ib:=aa hcl;have sA:=aa xk;have aJ:=aa hgr;clear hcl xk hgr;by_cases hlt:j<st.length
 ·have hel:j<es.length:=by rw[ib.o.len];exact hlt
  obtain⟨gb,cur,hA,hb,hgg,hnc,hcm,hcs,ht,-⟩:=ju ib.o.row (by omega);subst hA;obtain⟨e0,EZ⟩:∃e,es[j]?=some e:=⟨es[j],bH hel⟩;obtain⟨nm,dA,dn,dc,xA,xn,xc⟩:=e0;obtain⟨c,hc⟩:∃c,st[j]=c:=⟨_,rfl⟩;have aA:=qQ.o.2 j _ st[j] (by rw[← ib.o.rest j (au _)];exact EZ) (bH hlt);rw[hc] at aA;have MT:dn=c.ag.length:=aA.dn;have ER:xn=c.aj.length:=aA.xn;subst MT ER;have hcell:∀(k:Nat),k<3→∀v,(Cc.cells ⟨nm,dA,c.ag.length,dc,xA,c.aj.length,xc⟩).toList[k]?=some v→wr.cell? ⟨gb,j*3+k,none⟩=some v:=fun k hk v hv=>by
   refine wV hgg ht _ _ ?_;rw[cY,mV _ 3 (fun _=>rfl) es j k hk _ EZ];exact hv
  have a0:=hcell 0 (by omega) _ rfl;have a1:=hcell 1 (by omega) _ rfl;have a2:=hcell 2 (by omega) _ rfl;rw[fX] at a0;have jX:=aa aA;have Md:=aa EZ;have HC:=aa hc;have jx:=aa hb;have iK:=aa (qq.1 hgg).1;have HCI:=aa (show c∈st from hc ▸ aS hlt);have anS:c.ag.length≤dc:=by
   have:=aA.ag;rw[IsV] at this;exact this.2.2.2.2.2.2.2.2.2.2.1
  have anT:c.aj.length≤xc:=aA.xc;have anU:c.ag.length≤N:=(bD.o.co c HCI.o).nd;have Ev:=hel;clear hcell hgg hcm hcs ht hnc hb aA EZ hc hel cur;go_wp2_with fail;clear a0 a1 a2;have yL:=aa (az wr 48 #[.string nm,.slice dA c.ag.length dc,.slice xA c.aj.length xc]);have CU:=aa (sA.o.alloc (.cells #[.string nm,.slice dA c.ag.length dc,.slice xA c.aj.length xc] 48));have xD:=aa ((ah wr).alloc (.cells #[.string nm,.slice dA c.ag.length dc,.slice xA c.aj.length xc] 48));generalize wr.alloc (.cells #[.string nm,.slice dA c.ag.length dc,.slice xA c.aj.length xc] 48)=W1 at yL CU xD ⊢;refine dg ?_
  refine cW (S:=fun w'=>w'.cell? ⟨mb,0,none⟩=some (.slice (some ⟨gb,0,none⟩) st.length c1)∧w'.cell? ⟨wr.heap.size,1,none⟩=some (.slice dA c.ag.length dc)∧w'.cell? ⟨wr.heap.size,2,none⟩=some (.slice xA c.aj.length xc)) (by kernel_rfl) (⟨(CU.o.grow ((ah _).drew)).cell 0,(yL.o.grow ((ah _).drew)).cell 1,(yL.o.grow ((ah _).drew)).cell 2⟩) (fun hHeld=>?_);replace CU:=aa CU.o.drew;replace yL:=aa yL.o.drew;replace xD:=aa xD.o.drew;generalize W1.drew=W2 at CU yL xD hHeld ⊢;refine ai 0 ?_;refine ai 1 ?_;refine ai 2 ?_;refine ai 3 ?_;refine cO 4 ?_;refine ai 5 ?_;refine ai 6 ?_;refine cO 7 ?_;refine ai 8 ?_;refine cO 9 ?_;refine ai 10 ?_;refine ai 11 ?_;refine cO 12 ?_;refine ai 13 ?_;refine ai 14 ?_;refine aK 15 (fun K hK=>?_);go_simp;go_at_call 39
  obtain⟨cs,hrc,htc⟩:=RP jX.o.ag;refine(X4 c.ag.length dA c.ag.length (cK cs) W2 (hrc.mono (eU ((a_.o.trans (aJ.o.trans xD.o)).below) (au _) (au _) (a_.o.trans (aJ.o.trans xD.o)).size)) (BQ cs) (by omega)).mono ?_;rintro ee w3 ⟨A3,c3,rfl,lI,hg3⟩;have HTC:=aa htc;have jM:=aa lI;have aG:=aa hg3;clear hrc htc lI hg3;refine aT hK (⟨(CU.o.grow aG.o).cell 0,(yL.o.grow aG.o).cell 1,(yL.o.grow aG.o).cell 2⟩) (fun hHeld=>?_);refine ai 16 ?_;refine ai 17 ?_;have cE:=aa (kG ib.o.row (xD.o.trans aG.o));have hs1:w3.cell? ⟨gb,j*3+1,none⟩=some (.slice dA c.ag.length dc):=by
   rw[World.ownsRow.cellAt cE.o (j*3+1) (by omega),cY,mV _ 3 (fun _=>rfl) es j 1 (by decide) _ Md.o];rfl
  have hs2:=FL cE.o (j*3+1);refine aK 18 (fun K hK=>?_);go_simp;clear hs1 hs2;have bY:=aa (PN (k:=1) (v:=.slice A3 c.ag.length c3) (e':=⟨nm,A3,c.ag.length,c3,xA,c.aj.length,xc⟩) cE.o Ev ib.o.len (by decide) (by rw[(jd.1 Md.o).2];rfl));have aaO:mb≠gb:=fun e=>cU ib.o.row sA.o (by decide) (by rw[← e];rfl)
  have hgt:wr.heap.size≠gb:=by have:=iK.o;omega
  have yM:=aa ((gN (S:=fun k=>k=gb) (xD.o.trans aG.o)).set (p:=⟨gb,j*3+1,none⟩) rfl (.slice A3 c.ag.length c3));have vN:=aa ((yL.o.grow aG.o).far (p:=⟨gb,j*3+1,none⟩) hgt (.slice A3 c.ag.length c3));have Av:=aa ((CU.o.grow aG.o).far (p:=⟨gb,j*3+1,none⟩) aaO (.slice A3 c.ag.length c3));have I7:=aa (fun g (hg:ba A3=some g)=>show wr.heap.size≤g from aV xD.o.size (bJ jM.o g (by rw[bj];exact hg)).1);have Ja:=aa (fG jM.o ((cZ (S:=fun k=>k=gb) w3).set (p:=⟨gb,j*3+1,none⟩) rfl (.slice A3 c.ag.length c3)) (fun g hg e=>by have h1:=I7.o g hg;have h2:=iK.o;omega));generalize w3.setCell ⟨gb,j*3+1,none⟩ (.slice A3 c.ag.length c3)=w4 at bY yM vN Av Ja ⊢
  refine hK.out _ _ ⟨Av.o.cell 0,vN.o.cell 1,vN.o.cell 2⟩ (fun hHeld=>?_)
  try simp only[aH]
  refine cG ?_;clear hHeld;go_wp2_with fail;refine dg ?_;refine cW (S:=fun w'=>w'.cell? ⟨mb,0,none⟩=some (.slice (some ⟨gb,0,none⟩) st.length c1)∧w'.cell? ⟨wr.heap.size,1,none⟩=some (.slice dA c.ag.length dc)∧w'.cell? ⟨wr.heap.size,2,none⟩=some (.slice xA c.aj.length xc)) (by kernel_rfl) (⟨(Av.o.grow ((ah _).drew)).cell 0,(vN.o.grow ((ah _).drew)).cell 1,(vN.o.grow ((ah _).drew)).cell 2⟩) (fun hHeld=>?_);replace Av:=aa Av.o.drew;replace vN:=aa vN.o.drew;replace yM:=aa (yM.o.trans (gN ((ah _).drew)));replace bY:=aa (kG bY.o ((ah _).drew));replace Ja:=aa (kG Ja.o ((ah _).drew));generalize w4.drew=W5 at Av vN yM bY Ja hHeld ⊢;refine ai 0 ?_;refine ai 1 ?_;refine ai 2 ?_;refine ai 3 ?_;refine cO 4 ?_
  refine ai 5 ?_;refine ai 6 ?_;refine cO 7 ?_;refine ai 8 ?_;refine cO 9 ?_;refine ai 10 ?_;refine ai 11 ?_;refine cO 12 ?_;refine ai 13 ?_;refine ai 14 ?_;refine aK 15 (fun K hK=>?_);go_simp;go_at_call 40;have hrx:=jX.o.aj;refine(aiR c.aj.length xA c.aj.length (dQ c.aj) W5 (hrx.mono (eU ((a_.o.below.trans ((aJ.o.below).mono a_.o.size)).trans (yM.o.below (B:=w.heap.size) (aV a_.o.size aJ.o.size) (fun k hk=>by have:=jx.o;have:=a_.o.size;omega))) (au _) (au _) (aV a_.o.size (aV aJ.o.size yM.o.size)))) (zH c.aj) (by have:=(bD.o.co c HCI.o).nx;omega)).mono ?_;rintro ee w6 ⟨A6,c6,rfl,ll,bE⟩;have ua:=aa ll;have aW:=aa bE;clear hrx ll bE
  refine aT hK (⟨(Av.o.grow aW.o).cell 0,(vN.o.grow aW.o).cell 1,(vN.o.grow aW.o).cell 2⟩) (fun hHeld=>?_);refine ai 16 ?_;refine ai 17 ?_;have fR:=aa (kG bY.o aW.o);have hsj:(es.set j (⟨nm,A3,c.ag.length,c3,xA,c.aj.length,xc⟩:Cc))[j]?=some ⟨nm,A3,c.ag.length,c3,xA,c.aj.length,xc⟩:=Ks Ev;have hs1:w6.cell? ⟨gb,j*3+2,none⟩=some (.slice xA c.aj.length xc):=by
   rw[World.ownsRow.cellAt fR.o (j*3+2) (by omega),cY,mV _ 3 (fun _=>rfl) _ j 2 (by decide) _ hsj];rfl
  have hs2:=FL fR.o (j*3+2);refine aK 18 (fun K hK=>?_);go_simp;clear hs1 hs2;have kJ:=aa (PN (k:=2) (v:=.slice A6 c.aj.length c6) (e':=⟨nm,A3,c.ag.length,c3,A6,c.aj.length,c6⟩) fR.o (by rw[gW];exact Ev) (by rw[gW];exact ib.o.len) (by decide) (by rw[(jd.1 hsj).2];rfl));rw[List.set_set] at kJ;have EG:=aa ((yM.o.trans (gN aW.o)).set (p:=⟨gb,j*3+2,none⟩) rfl (.slice A6 c.aj.length c6));have yC:=aa ((Av.o.grow aW.o).far (p:=⟨gb,j*3+2,none⟩) aaO (.slice A6 c.aj.length c6));have Tt:=aa ((vN.o.grow aW.o).far (p:=⟨gb,j*3+2,none⟩) hgt (.slice A6 c.aj.length c6))
  have yo:=aa (fun g (hg:ba A6=some g)=>show wr.heap.size≤g from aV yM.o.size (bJ ua.o g (by rw[bj];exact hg)).1);have DY:Kept (fun k=>k=gb) w6 (w6.setCell ⟨gb,j*3+2,none⟩ (.slice A6 c.aj.length c6)):=(cZ (S:=fun k=>k=gb) w6).set (p:=⟨gb,j*3+2,none⟩) rfl (.slice A6 c.aj.length c6);have yF:=aa (fG ua.o DY (fun g hg e=>by have h1:=yo.o g hg;have h2:=iK.o;omega));have aaP:=aa (fG (kG Ja.o aW.o) DY (fun g hg e=>by have h1:=I7.o g hg;have h2:=iK.o;omega));clear DY;generalize w6.setCell ⟨gb,j*3+2,none⟩ (.slice A6 c.aj.length c6)=w8 at kJ EG Tt yC yF aaP ⊢;refine hK.out _ _ ⟨yC.o.cell 0,Tt.o.cell 1,Tt.o.cell 2⟩ (fun hHeld=>?_)
  try simp only[aH]
  refine cG ?_;clear hHeld;have anV:j+1≤17:=by have:=bD.o.n;omega
  go_wp2_with fail;have bR:=aa (show Grow w5 w8 from aJ.o.below.trans (EG.o.below (B:=w5.heap.size) aJ.o.size (fun k hk=>hk ▸ jx.o)));have bS:=aa (show eY w8 w5.heap.size ⟨nm,A3,c.ag.length,c3,A6,c.aj.length,c6⟩ c from
   ⟨jX.o.nm,rfl,rfl,⟨cs,World.ownsRow.mono aaP.o (aV aJ.o.size xD.o.size),HTC.o.mono fun v x hv=>dX (eU ((a_.o.trans bR.o).below) (au _) (au _) a_.o.size) _ _ hv⟩,World.ownsRow.mono yF.o (aV aJ.o.size yM.o.size)⟩)
  go_roundg gk';exact⟨j+1,es.set j ⟨nm,A3,c.ag.length,c3,A6,c.aj.length,c6⟩,by omega,by omega,by go_num,xt.step ib.o aJ.o.size hlt (by rw[bH hlt,HC.o]) rfl jx.o EG.o kJ.o bS.o I7.o yo.o,yC.o,bR.o⟩;omega
 rename World=>wm;have hjl:j=st.length:=by omega
 subst hjl;have HOWN:=aa (ib.o.finish (au _));have lX:=aa (a_.o.trans aJ.o);have aaQ:=aa (show dm wm w5.heap.size mb A1 c1 es st q ck cl ch cx from ⟨lO.o,HOWN.o,sA.o,dX (eU lX.o.below (au _) (au _) a_.o.size) _ _ HK.o,dX (eU lX.o.below (au _) (au _) a_.o.size) _ _ HL.o,
  dX (eU lX.o.below (au _) (au _) a_.o.size) _ _ HH.o,dX (eU lX.o.below (au _) (au _) a_.o.size) _ _ HX.o⟩)
 have HMO:=aa (show Zu q wm w5.heap.size from ⟨HR.o,(Tj.o wm lX.o).1,(Tj.o wm lX.o).2,fun W hb=>Tj.o W (lX.o.below.trans (hb.mono a_.o.size))⟩);have mz:=aa (ahv N w5.heap.size mb c1 A1 es st q ck cl ch cx wm aaQ.o bD.o hN HMO.o nO.o);have fH:=(bN.o.grow aJ.o).cell;clear hlt hj hg ib aaQ HMO HOWN;go_wp2_with fail;clear fH;rw[ai6,Oper.upon_enter];refine mz.o.mono ?_;rintro e w9 ⟨r,Jb,Jc,hM⟩;have dN:=aa (show Grow w w9 from lX.o.below.trans (Jc.mono a_.o.size));have aaR:=aa (show Blk w9 w.heap.size 44 #[.slice A st.length cap] from (Jc.block _ Ff.o.lt).trans (Ff.o.grow aJ.o));have Jd:=aa (show Blk w9 (w.heap.size+1+1) 44 #[.slice none 0 0] from (Jc.block _ MS.o.lt).trans (MS.o.grow aJ.o))
 have Je:=aa (show Blk w9 (w.heap.size+1+1+1) 31 #[.int .i64 0,.int .i64 0,.slice none 0 0,.int .i64 0] from (Jc.block _ I_.o.lt).trans (I_.o.grow aJ.o));have fQ:=aa (show w.heap.size<w9.heap.size∧(w.heap.size+1+1)<w9.heap.size∧(w.heap.size+1+1+1)<w9.heap.size from ⟨aaR.o.lt,Jd.o.lt,Je.o.lt⟩);have LN:=aa (show (w.heap.size+1+1+1)<mb from bG I_.o.lt lO.o);clear Jc
 cases r with
 | error k =>
  subst hM;have j3:=aa Jb;clear Jb;go_wp2_with fail;refine leaves_cons (f:=41) (args:=#[.pointer (some ⟨w.heap.size,0,none⟩),.pointer (some ⟨w.heap.size+1+1,0,none⟩),.pointer (some ⟨w.heap.size+1+1+1,0,none⟩)]) (by simp) (by simp[go_sem]) ?_;refine(ahX w.heap.size (w.heap.size+1+1) (w.heap.size+1+1+1) cap A k st _ _ _ _ _ [] w9 aaR.o Jd.o Je.o (by omega) (Qx st A cap w9 (HST.o.grow dN.o) (bD.o.copy (by omega)).1 (bD.o.copy (by omega)).2)).mono ?_;rintro r u' w'' ⟨rfl,rfl,A2,c2,V5,w1,hg1,hcr,rfl⟩;exact⟨_,aaL dN.o hg1 j3.o (Jd.o.grow hg1) (Je.o.grow hg1) (by have:=fQ.o;omega) (by have:=fQ.o;omega) hcr rfl rfl⟩
 | ok r =>
  obtain⟨st2,n,ag⟩:=r;obtain⟨rfl,ir,A2,cap2,dA,dc,h0,hs2,Ll,Qk,bA⟩:=hM;have j3:=aa Jb;have hdd:=eJ.get (Jb.okR bD.o HR.o.fit HR.o.doc);have nM:=aa hdd.2.1;have tA:=aa (show ag.length≤1000001 by have:=hdd.2.2;omega);have aaS:=aa hdd.1;have aaT:=aa (jE.two Je.o Jd.o);have fB:=aa hs2;have HMC:=aa (show w9.cell? ⟨mb,0,none⟩=some (.slice A2 st2.length cap2)∧w9.cell? ⟨mb,28,none⟩=some (.int .i64 n) from ⟨h0,Ll⟩);have BJ:=aa ir;have gH:=aa (IsV.bare aaT.o _ _ bA);have anW:=aa (show ag.length≤dc from by unfold InL In at bA;rw[IsV] at bA;exact bA.2.2.2.2.2.2.2.2.2.2.1);clear Jb hdd hs2 h0 Ll ir bA;go_wp2_with fail;clear Qk
  go_loopg [91] (ag.length+1) (fun gk i wr=>∃(j:Nat) (A6:Option Addr) (c6:Nat) (hs:List Cv),j≤ag.length∧gk+j=ag.length+1∧i=.int .i64 j∧Kept (fun q=>q=(w.heap.size+1+1+1)) w9 wr∧Blk wr (w.heap.size+1+1+1) 31 (cS 0 0 A6 hs.length c6 0)∧VR (Ar (w.heap.size+1+1) (w.heap.size+1+1+1)) wr w9.heap.size A6 c6 hs (ag.take j));exact⟨0,none,0,[],aR _,rfl,rfl,cZ _ _,Je.o,GR.nil _⟩;obtain⟨j,A6,c6,hs,hj,hg,rfl,EF,hbr,eF⟩:=hrel;obtain⟨gk',rfl⟩:=bz gk (by omega);have sy:=aa EF;have qO:=aa hbr;have jw:=aa eF;have Tu:=aa (show hs.length=j from by rw[eF.two.1,dU];omega);clear EF hbr eF;by_cases hlt:j<ag.length
  ·obtain⟨tG,o2,y,ha,⟨e0,e1,e2,e3,e4⟩,hy⟩:=(gH.o.mono (C':=dI wr (fun q=>Ar (w.heap.size+1+1) (w.heap.size+1+1+1) q∨ba A6=some q)) (fun p u hp=>⟨(kZ sy.o (fun _ h=>Or.inl h) p u hp).1,bG hp.2.1 sy.o.size,fun hq=>by
    rcases hq with hq | hq
    ·exact hp.2.2 hq
    have:=(bJ jw.o.row p.block (by rw[bj];exact hq)).1;have:=hp.2.1;omega⟩)).Yn j hlt
   dsimp only[js] at ha;subst ha;have d0:=e0.1;have d1:=e1.1;have d2:=e2.1;have d3:=e3.1;have d4:=e4.1;obtain⟨d,hd⟩:∃d,ag[j]=d:=⟨_,rfl⟩;rw[hd] at hy;have aaU:=nM.o d (hd ▸ aS hlt);have Ex:=aa (show d.nE from by obtain⟨i,-,-,-,hg,-⟩:=aaU.id;exact Gw hg);have jP:=aa (show ag.take (j+1)=ag.take j++[d] from by rw[py ag j hlt,hd]);have HD:=aa hy;clear e0 e1 e2 e3 e4 hy aaU hd;go_wp2_with fail;clear d0 d1 d2 d3 d4;obtain⟨yw,hv0,hv1,hv2,hv3⟩:=info_parts qB;have Cs:=aa hv0;have Ct:=aa hv1;have Cu:=aa hv2;have Cw:=aa hv3;clear hv0 hv1 hv2 hv3;have yN:=aa (az wr 27 y.cells);have aC:=aa (((ah wr).alloc (.cells y.cells 27)).drew);refine dg ?_
   refine cW (S:=fun w'=>w'.cell? ⟨wr.heap.size,0,none⟩=some (.int .i64 y.k)∧w'.cell? ⟨wr.heap.size,1,none⟩=some (.int .u64 y.n)∧w'.cell? ⟨wr.heap.size,2,none⟩=some (.slice y.aB y.nB y.cB)∧w'.cell? ⟨wr.heap.size,3,none⟩=some (.slice y.aL y.nL y.cL)∧w'.cell? ⟨wr.heap.size,4,none⟩=some (.slice y.aF y.nF y.cF)) (by kernel_rfl) (⟨(yN.o.grow ((ah _).drew)).cell 0,(yN.o.grow ((ah _).drew)).cell 1,(yN.o.grow ((ah _).drew)).cell 2,(yN.o.grow ((ah _).drew)).cell 3,(yN.o.grow ((ah _).drew)).cell 4⟩) (fun hHeld=>?_);replace yN:=aa (yN.o.grow ((ah _).drew));generalize (wr.alloc (.cells y.cells 27)).drew=W0 at yN aC hHeld ⊢;have Fg:=aa (sy.o.trans (gN aC.o));have Fh:=aa (jw.o.grow kK aC.o)
   have zy:=aa (dX (kZ (Lc aC.o) (fun _ h=>h.elim)) _ _ HD.o);have jQ:=aa (show Au W0 (w.heap.size+1+1) (w.heap.size+1+1+1) w9.heap.size c6 A6 hs from ⟨fQ.o.2.1,fQ.o.2.2,Fg.o.size,fun g hg=>bJ Fh.o.row g (by rw[bj];exact hg)⟩);have ie:=aa (fun(W:World) (hk:Kept (fun q=>q=(w.heap.size+1+1+1)∨ba A6=some q) W0 W)=>show Blk W wr.heap.size 27 y.cells from hk.blk yN.o (fun hq=>by
    rcases hq with hq | hq
    ·have:=fQ.o.2.2;have:=sy.o.size;omega
    have:=(bJ jw.o.row _ (by rw[bj];exact hq)).2;omega))
   have HDW:=aa (fun(W:World) (hk:Kept (fun q=>q=(w.heap.size+1+1+1)∨ba A6=some q) W0 W)=>show In W d y from dX jS _ _ (dX (kZ hk (fun q hq=>by
    rcases hq with hq | hq
    ·exact Or.inl (Or.inl hq)
    exact Or.inr hq)) _ _ zy.o))
   have HL0:=aa (show L2 W0 (w.heap.size+1+1) (w.heap.size+1+1+1) w9.heap.size c6 A6 hs d false false false false false undef undef undef W0 from ⟨cZ _ _,fun e=>(by cases e),fun e=>(by cases e),fun _=>Fh.o.row,fun e=>(by cases e),qO.o.grow aC.o⟩);have qZ:=aa (show hs.length≤1000001 by have:=Tu.o;have:=tA.o;omega);have Jf:=aa (show w9.heap.size≤W0.heap.size from Fg.o.size);have anX:=aa fQ.o.2.2;refine ai 0 ?_;refine cO 2 ?_
   refine Tc (σ:=Bool×Bool×Bool×Bool×Bool×Bool×Value×Value×Value×Value×Value×Value×Value) (fun⟨b1,b3,b5,b6,b8,iu,y1,y3,y4,y5,y6,y7,y8⟩=>cond b1 0 2+cond b3 0 1+cond b5 0 1+cond b6 0 3+cond b8 0 1+cond iu 0 1) (fun⟨b1,b3,b5,b6,b8,iu,y1,y3,y4,y5,y6,y7,y8⟩=>#[true,b1,true,b3,b1,b5,b6,b6,b8,b6,iu]) (fun⟨b1,b3,b5,b6,b8,iu,y1,y3,y4,y5,y6,y7,y8⟩ a=>(fun a:Act=>cond b6 (((a.put (some 101) y6).put (some 102) y7).put (some 103) y8) a) ((fun a:Act=>cond b5 (a.put (some 100) y5) a) ((fun a:Act=>cond b3 (a.put (some 98) y3) a) ((fun a:Act=>cond b1 ((a.put (some 96) y1).put (some 99) y4) a) (a))))) (fun⟨b1,b3,b5,b6,b8,iu,y1,y3,y4,y5,y6,y7,y8⟩ W=>((!b6||(b1&&b3&&b5))&&(!b8||b6)&&(!iu||b6))=true∧(b1=true→y1=.slice A6 hs.length c6∧y4=.int .i64 hs.length)∧(b6=true→∃g c,y6=.slice (some ⟨g,0,none⟩) (hs.length+1) c∧y7=.pointer (some ⟨g,hs.length*5,none⟩)∧y8=.pointer (some ⟨(w.heap.size+1+1+1),2,none⟩))∧L2 W0 (w.heap.size+1+1) (w.heap.size+1+1+1) w9.heap.size c6 A6 hs d b3 b5 b6 b8 iu y3 y5 y6 W) ⟨false,false,false,false,false,false,undef,undef,undef,undef,undef,undef,undef⟩ rfl rfl (by rfl) ?_ ?_
   ·exact⟨rfl,fun e=>(by cases e),fun e=>(by cases e),HL0.o⟩
   intro s W hI IH;obtain⟨b1,b3,b5,b6,b8,iu,y1,y3,y4,y5,y6,y7,y8⟩:=s;dsimp only at hI IH
   cases oQ:b1<;>cases oU:b3<;>cases oV:b5<;>cases xE:b6<;>cases xG:b8<;>cases xH:iu<;>first | (have h0:=hI.1;simp[oQ,oU,oV,xE,xG,xH] at h0;done) | skip
   rotate_right
   ·subst oQ oU oV xE xG xH;clear IH;show wpAnyH _ _ _ _ _ 0 #[true,true,true,true,true,true,true,true,true,true,true] _ _
    try simp only[gz,aH]
    obtain⟨-,hy1,i7,hL⟩:=hI;replace hy1:=aa hy1;replace i7:=aa i7;replace hL:=aa hL;obtain⟨rfl,rfl⟩:=hy1.o rfl;obtain⟨g7,c7,x,rfl,eF,hrp⟩:=hL.o.done jQ.o Fh.o;have HK1:=aa (show Kept (fun q=>q=(w.heap.size+1+1+1)) w9 W from Fg.o.ai0 hL.o.kept (fun q hq hs=>by
     rcases hs with hs | hs
     ·exact hs
     have:=(jQ.o.lt q hs).1;omega))
    have ai8:=aa eF;have ai9:=aa hrp;clear hy1 i7 hL eF hrp;refine cG ?_;have hjb:j+1≤1000001:=by have:=tA.o;omega
    go_wp2_with fail;go_roundg gk';exact⟨j+1,some ⟨g7,0,none⟩,c7,hs++[x],by omega,by omega,by go_num,HK1.o,ai9.o,by rw[jP.o];exact ai8.o⟩;omega
   all_goals
    try simp only[gz,aH]
    first
     | (have:=(⟨oQ,oU,oV⟩:b1=false∧b3=false∧b5=false);refine bC [1,3,5] ?_)
     | (have:=(⟨oQ,oU,oV⟩:b1=false∧b3=false∧b5=true);refine bC [1,3] ?_)
     | (have:=(⟨oQ,oU,oV⟩:b1=false∧b3=true∧b5=false);refine bC [1,5] ?_)
     | (have:=(⟨oQ,oU,oV⟩:b1=false∧b3=true∧b5=true);refine bC [1] ?_)
     | (have:=(⟨oQ,oU,oV⟩:b1=true∧b3=false∧b5=false);refine bC [3,5] ?_)
     | (have:=(⟨oQ,oU,oV⟩:b1=true∧b3=false∧b5=true);refine bC [3] ?_)
     | (have:=(⟨oQ,oU,oV⟩:b1=true∧b3=true∧b5=false);refine bC [5] ?_)
     | (have:=(⟨oQ,oU,oV,xE⟩:b1=true∧b3=true∧b5=true∧b6=false);refine bC [6] ?_)
     | (have:=(⟨xE,xG,xH⟩:b6=true∧b8=false∧iu=false);refine bC [8,10] ?_)
     | (have:=(xH:iu=true);refine bC [8] ?_)
     | (have:=(xG:b8=true);refine bC [10] ?_)
    try
     refine fC (i:=1) (fun K hK=>?_) ?_
     have nR:=fun(y1:Value) (y3:Value) (y4:Value) (y5:Value) (y6:Value) (y7:Value) (y8:Value) (W:World)=>IH ⟨true,b3,b5,b6,b8,iu,y1,y3,y4,y5,y6,y7,y8⟩ W
     subst oQ oU oV xE xG xH
     obtain⟨-,hy1,i7,hL⟩:=hI
     replace hy1:=aa hy1
     replace i7:=aa i7
     replace hL:=aa hL
     have hr:W.cell? ⟨(w.heap.size+1+1+1),2,none⟩=some (.slice A6 hs.length c6):=hL.o.rep.cell 2
     go_simp
     clear hr
     have hL2:=hL.o
     refine hK.out _ _ (⟨(ie.o _ hL2.kept).cell 0,(ie.o _ hL2.kept).cell 1,(ie.o _ hL2.kept).cell 2,(ie.o _ hL2.kept).cell 3,(ie.o _ hL2.kept).cell 4⟩) (fun hHeld=>?_)
     try simp only[gz,aH]
     refine ai 4 ?_
     have d_:=nR (Value.slice A6 hs.length c6) y3 (Value.int .i64 (hs.length:Int)) y5 y6 y7 y8 _ (nu rfl) (⟨rfl,fun _=>⟨rfl,rfl⟩,i7,hL2⟩)
     dsimp only at d_
     simp only[gz,aH] at d_
     exact d_
    try
     refine fC (i:=3) (fun K hK=>?_) ?_
     have nR:=fun(y1:Value) (y3:Value) (y4:Value) (y5:Value) (y6:Value) (y7:Value) (y8:Value) (W:World)=>IH ⟨b1,true,b5,b6,b8,iu,y1,y3,y4,y5,y6,y7,y8⟩ W
     subst oQ oU oV xE xG xH
     obtain⟨-,hy1,i7,hL⟩:=hI
     replace hy1:=aa hy1
     replace i7:=aa i7
     replace hL:=aa hL
     have hC:=DU d Ex.o W y (HDW.o W hL.o.kept)
     go_simp
     go_at_call 42
     refine hC.mono ?_
     rintro ee W3 ⟨x,rfl,hin,hg3⟩
     have hL2:=hL.o.OD jQ.o hg3 hin
     clear hC hin hg3 hL
     refine hK.out _ _ (⟨(ie.o _ hL2.kept).cell 0,(ie.o _ hL2.kept).cell 1,(ie.o _ hL2.kept).cell 2,(ie.o _ hL2.kept).cell 3,(ie.o _ hL2.kept).cell 4⟩) (fun hHeld=>?_)
     try simp only[gz,aH]
     have d_:=nR y1 x.agg y4 y5 y6 y7 y8 _ (nu rfl) (⟨rfl,hy1,i7,hL2⟩)
     dsimp only at d_
     simp only[gz,aH] at d_
     exact d_
    try
     refine fC (i:=5) (fun K hK=>?_) ?_
     have nR:=fun(y1:Value) (y3:Value) (y4:Value) (y5:Value) (y6:Value) (y7:Value) (y8:Value) (W:World)=>IH ⟨b1,b3,true,b6,b8,iu,y1,y3,y4,y5,y6,y7,y8⟩ W
     subst oQ oU oV xE xG xH
     obtain⟨-,hy1,i7,hL⟩:=hI
     replace hy1:=aa hy1
     replace i7:=aa i7
     replace hL:=aa hL
     go_simp
     have hL2:=hL.o.KD jQ.o
     refine hK.out _ _ (⟨(ie.o _ hL2.kept).cell 0,(ie.o _ hL2.kept).cell 1,(ie.o _ hL2.kept).cell 2,(ie.o _ hL2.kept).cell 3,(ie.o _ hL2.kept).cell 4⟩) (fun hHeld=>?_)
     try simp only[gz,aH]
     have d_:=nR y1 y3 y4 (.slice (some ⟨W.heap.size,0,none⟩) 1 1) y6 y7 y8 _ (nu rfl) (⟨rfl,hy1,i7,hL2⟩)
     dsimp only at d_
     simp only[gz,aH] at d_
     exact d_
    try
     refine fC (i:=6) (fun K hK=>?_) ?_
     have nR:=fun(y1:Value) (y3:Value) (y4:Value) (y5:Value) (y6:Value) (y7:Value) (y8:Value) (W:World)=>IH ⟨b1,b3,b5,true,b8,iu,y1,y3,y4,y5,y6,y7,y8⟩ W
     subst oQ oU oV xE xG xH
     obtain⟨-,hy1,i7,hL⟩:=hI
     replace hy1:=aa hy1
     replace i7:=aa i7
     replace hL:=aa hL
     obtain⟨rfl,rfl⟩:=hy1.o rfl
     obtain⟨ge,rfl,hge,CV⟩:=hL.o.bs rfl rfl
     refine oa (by rfl) (.tmp 96) (.tmp 100) 24 24 (by rfl) w9.heap.size 27 yw _ 5 88 km Cs.o Ct.o Cu.o Cw.o (by rfl) (.slice A6 hs.length c6) hs.length (cK hs) (by rfl) (hL.o.row rfl) _ 1 Cv.zero.cells.toList (by rfl) (aiY Cv.zero CV) (by have:=qZ.o;omega) (by simp only[maxLen];have:=qZ.o;omega) (aV Jf.o hL.o.size) ?_
     intro A7 c7 W3 hown hgr iQ
     have hL2:=hL.o.mk6 jQ.o hown hgr iQ
     obtain⟨g7,Q4,Hk,-⟩:=ju hown (by omega)
     subst Hk
     clear hown hgr iQ CV hge hL
     refine hK.out _ _ (⟨(ie.o _ hL2.kept).cell 0,(ie.o _ hL2.kept).cell 1,(ie.o _ hL2.kept).cell 2,(ie.o _ hL2.kept).cell 3,(ie.o _ hL2.kept).cell 4⟩) (fun hHeld=>?_)
     try simp only[gz,aH]
     refine ai 7 (hy:=bU fun w ay=>by have uk:(hs.length:Int)<(hs.length:Int)+1:=(by omega);go_simp;try rfl) ?_
     refine ai 9 ?_
     have d_:=nR (Value.slice A6 hs.length c6) y3 (Value.int .i64 (hs.length:Int)) (Value.slice (some ⟨ge,0,none⟩) 1 1) (Value.slice (some ⟨g7,0,none⟩) (hs.length+1) c7) (Value.pointer (some ⟨g7,hs.length*5,none⟩)) (Value.pointer (some ⟨(w.heap.size+1+1+1),2,none⟩)) _ (nu rfl) (⟨rfl,fun _=>⟨rfl,rfl⟩,fun _=>⟨g7,c7,rfl,rfl,rfl⟩,hL2⟩)
     dsimp only at d_
     simp only[gz,aH] at d_
     exact d_
    try
     refine fC (i:=8) (fun K hK=>?_) ?_
     have nR:=fun(y1:Value) (y3:Value) (y4:Value) (y5:Value) (y6:Value) (y7:Value) (y8:Value) (W:World)=>IH ⟨b1,b3,b5,b6,true,iu,y1,y3,y4,y5,y6,y7,y8⟩ W
     subst oQ oU oV xE xG xH
     obtain⟨-,hy1,i7,hL⟩:=hI
     replace hy1:=aa hy1
     replace i7:=aa i7
     replace hL:=aa hL
     obtain⟨rfl,rfl⟩:=hy1.o rfl
     obtain⟨g7,c7,rfl,rfl,rfl⟩:=i7.o rfl
     obtain⟨x,rfl,-⟩:=hL.o.cp rfl
     have Ij:W.there g7 (hs.length*5) 5:=by
      obtain⟨g',c',r1,-,-,-,-,r6⟩:=hL.o.CS rfl
      injection r1 with r1 _ Te
      injection r1 with r1
      injection r1 with r1
      subst r1 Te
      rcases r6 with ⟨-,k⟩ | ⟨k,-⟩
      ·obtain⟨g8,agw,hA8,kI,Ht,Rm,YG,Hu,-,-⟩:=ju k (by omega)
       cases hA8
       exact fun k hk=>mv Ht (hs.length*5+k) (by rw[Hu];have:(hs.length+1)*5≤c7*5:=gq 5 Rm;omega)
      cases k
     rw[aD (by rfl)]
     refine wp_store_mid 27 (.tmp 102) (.tmp 98) rfl g7 (hs.length*5) x.cells rfl rfl Ij (by kernel_rfl) (by simp[Value.oneCell']) ?_
     have hL2:=hL.o.mk8 jQ.o
     clear Ij hL
     refine hK.out _ _ (⟨(ie.o _ hL2.kept).cell 0,(ie.o _ hL2.kept).cell 1,(ie.o _ hL2.kept).cell 2,(ie.o _ hL2.kept).cell 3,(ie.o _ hL2.kept).cell 4⟩) (fun hHeld=>?_)
     try simp only[gz,aH]
     have d_:=nR (Value.slice A6 hs.length c6) x.agg (Value.int .i64 (hs.length:Int)) y5 (Value.slice (some ⟨g7,0,none⟩) (hs.length+1) c7) (Value.pointer (some ⟨g7,hs.length*5,none⟩)) (Value.pointer (some ⟨(w.heap.size+1+1+1),2,none⟩)) _ (nu rfl) (⟨rfl,fun _=>⟨rfl,rfl⟩,fun _=>⟨g7,c7,rfl,rfl,rfl⟩,hL2⟩)
     dsimp only at d_
     simp only[gz,aH] at d_
     exact d_
    try
     refine fC (i:=10) (fun K hK=>?_) ?_
     have nR:=fun(y1:Value) (y3:Value) (y4:Value) (y5:Value) (y6:Value) (y7:Value) (y8:Value) (W:World)=>IH ⟨b1,b3,b5,b6,b8,true,y1,y3,y4,y5,y6,y7,y8⟩ W
     subst oQ oU oV xE xG xH
     obtain⟨-,hy1,i7,hL⟩:=hI
     replace hy1:=aa hy1
     replace i7:=aa i7
     replace hL:=aa hL
     obtain⟨rfl,rfl⟩:=hy1.o rfl
     obtain⟨g7,c7,rfl,rfl,rfl⟩:=i7.o rfl
     have hrc:=hL.o.rep.cell
     have hrf:=hL.o.rep.frozen
     go_simp
     clear hrc hrf
     have hL2:=hL.o.Ai jQ.o
     clear hL
     refine hK.out _ _ (⟨(ie.o _ hL2.kept).cell 0,(ie.o _ hL2.kept).cell 1,(ie.o _ hL2.kept).cell 2,(ie.o _ hL2.kept).cell 3,(ie.o _ hL2.kept).cell 4⟩) (fun hHeld=>?_)
     try simp only[gz,aH]
     have d_:=nR (Value.slice A6 hs.length c6) y3 (Value.int .i64 (hs.length:Int)) y5 (Value.slice (some ⟨g7,0,none⟩) (hs.length+1) c7) (Value.pointer (some ⟨g7,hs.length*5,none⟩)) (Value.pointer (some ⟨(w.heap.size+1+1+1),2,none⟩)) _ (nu rfl) (⟨rfl,fun _=>⟨rfl,rfl⟩,fun _=>⟨g7,c7,rfl,rfl,rfl⟩,hL2⟩)
     dsimp only at d_
     simp only[gz,aH] at d_
     exact d_
    exact dM
  have hjl:j=ag.length:=by omega
  subst hjl;have HVT:=aa (show VR (Ar (w.heap.size+1+1) (w.heap.size+1+1+1)) wr w9.heap.size A6 c6 hs ag from by have:=jw.o;rwa [fT] at this);obtain⟨yw,hv0,hv1,hv2,hv3⟩:=info_parts qB;have Cs:=aa hv0;have Ct:=aa hv1;have Cu:=aa hv2;have Cw:=aa hv3;clear hv0 hv1 hv2 hv3;have qZ:=aa (show hs.length≤1000001 by have:=Tu.o;have:=tA.o;omega);obtain⟨cur,tB,hmk⟩:=OC hs.length (by have:=qZ.o;omega);have ai_:=aa tB;have Fi:=aa hmk;clear tB hmk hlt hj hg;go_wp2_with fail;refine dg ?_;refine cW (S:=fun _=>True) (by kernel_rfl) (trivial) (fun hHeld=>?_);have aC:=aa (show Grow wr wr.drew from (ah _).drew);generalize wr.drew=W0 at aC hHeld ⊢;have Fg:=aa (sy.o.trans (gN aC.o))
  have Fh:=aa (HVT.o.grow kK aC.o);have yO:=aa (qO.o.grow aC.o);have Jf:=aa (show w9.heap.size≤W0.heap.size from Fg.o.size);refine ai 0 ?_;refine ai 4 ?_
  refine Tc (σ:=Bool×Bool×Bool×Value×Value×Value×Value) (fun⟨a1,a5,a3,y1,y2,y5,y3⟩=>cond a1 0 2+cond a5 0 1+cond a3 0 1+3) (fun⟨a1,a5,a3,y1,y2,y5,y3⟩=>#[true,a1,a1,a3,true,a5,false,false,false]) (fun⟨a1,a5,a3,y1,y2,y5,y3⟩ a=>(fun a:Act=>cond a3 (a.put (some 108) y3) a) ((fun a:Act=>cond a5 (a.put (some 110) y5) a) ((fun a:Act=>cond a1 ((a.put (some 106) y1).put (some 107) y2) a) (a)))) (fun⟨a1,a5,a3,y1,y2,y5,y3⟩ W=>(!a3||a1)=true∧(a1=true→y1=.slice A6 hs.length c6∧y2=.int .i64 hs.length)∧(a5=true→y5=.slice A6 hs.length c6)∧(a3=true→y3=.slice (some ⟨W0.heap.size,0,none⟩) 0 hs.length)∧W=cond a3 (W0.alloc (.cells cur 27)) W0) ⟨false,false,false,undef,undef,undef,undef⟩ rfl rfl (by rfl) ?_ ?_
  ·exact⟨rfl,fun e=>(by cases e),fun e=>(by cases e),fun e=>(by cases e),rfl⟩
  intro s W hI IH;obtain⟨a1,a5,a3,y1,y2,y5,y3⟩:=s;dsimp only at hI IH
  cases yP:a1<;>cases yQ:a5<;>cases CW:a3<;>first | (have h0:=hI.1;simp[yP,yQ,CW] at h0;done) | skip
  rotate_right
  ·subst yP yQ CW;clear IH;show wpAnyH _ _ _ _ _ 3 #[true,true,true,true,true,true,false,false,false] _ _
   try simp only[gz,aH]
   obtain⟨-,h1,h5,h3,hW⟩:=hI;replace h1:=aa h1;replace h5:=aa h5;replace h3:=aa h3;have pV:=aa (show Blk W (w.heap.size+1+1+1) 31 (cS 0 0 A6 hs.length c6 0) from by rw[hW];first | exact yO.o | exact yO.o.grow ((ah W0).alloc _));have hW2:=px hW;simp only[Bh,Bi] at hW2;clear hW;subst hW2;obtain⟨rfl,rfl⟩:=h1.o rfl;obtain rfl:=h5.o rfl;obtain rfl:=h3.o rfl;clear h1 h5 h3;refine aK 6 (fun K hK=>?_)
   refine oa (by rfl) (.tmp 108) (.tmp 110) 24 24 (by rfl) w9.heap.size 27 yw _ 5 88 km Cs.o Ct.o Cu.o Cw.o (by rfl) (.slice (some ⟨W0.heap.size,0,none⟩) 0 hs.length) 0 [] (by rfl) (xK (base:=w9.heap.size) (e:=27) (size:=5) W0 cur hs.length Jf.o (by simp only[maxLen];have:=qZ.o;omega) ai_.o) _ hs.length (cK hs) (by rfl) (aiZ (kG Fh.o.row ((ah W0).alloc (.cells cur 27)))) (by have:=qZ.o;omega) (by simp only[maxLen];have:=qZ.o;omega) (aV Jf.o (by simp)) ?_;intro A9 c9 pS hown hgr iQ;obtain⟨eF,ES,g9,rfl,lh⟩:=ai1 Fh.o hown hgr iQ;clear hown hgr iQ;simp only[eo];have aja:=aa eF;have ET:=aa ES;have Jg:=aa (show g9≠(w.heap.size+1+1+1)∧g9≠(w.heap.size+1+1) by have:=fQ.o;have:=Jf.o;omega)
   have Tw:=aa (yO.o.grow ES);clear eF ES lh;refine hK.out _ _ trivial (fun hHeld=>?_)
   try simp only[aH]
   refine ai 7 ?_;refine aK 8 (fun K hK=>?_);have hrc:=Tw.o.cell;have hrf:=Tw.o.frozen;go_simp;clear hrc hrf;have MU:=aa (Tw.o.aY 2 (.slice (some ⟨g9,0,none⟩) hs.length c9));have Tx:=aa ((Fg.o.trans (gN ET.o)).set (p:=⟨(w.heap.size+1+1+1),2,none⟩) rfl (.slice (some ⟨g9,0,none⟩) hs.length c9));have aaV:=aa (aja.o.kept kK (mr (S:=fun q=>q=(w.heap.size+1+1+1)) (cZ _ pS) (p:=⟨(w.heap.size+1+1+1),2,none⟩) rfl (.slice (some ⟨g9,0,none⟩) hs.length c9)) (fun q hq=>Or.inl hq) (fun g hg e=>by injection hg with hg;exact Jg.o.1 (hg.trans e)));generalize pS.setCell ⟨(w.heap.size+1+1+1),2,none⟩ (.slice (some ⟨g9,0,none⟩) hs.length c9)=qY at MU Tx aaV ⊢;refine hK.out _ _ trivial (fun hHeld=>?_)
   try simp only[aH]
   refine cG ?_;clear hHeld;have aaW:=aa (fun(W:World) (hk:Kept (fun q=>q=(w.heap.size+1+1+1)) w9 W)=>show W.cell? ⟨mb,0,none⟩=some (.slice A2 st2.length cap2)∧W.cell? ⟨mb,28,none⟩=some (.int .i64 n) from by
    have hb:=hk.block mb BJ.o (fun hq=>by have:=LN.o;omega);exact⟨(uy hb).trans HMC.o.1,(uy hb).trans HMC.o.2⟩)
   have ajb:=(aaW.o _ Tx.o).2;have hrc:=MU.o.cell;have hrf:=MU.o.frozen;go_wp2_with fail;clear ajb hrc hrf;have MV:=aa (MU.o.aY 1 (.int .i64 n));have Fj:=aa (Tx.o.set (p:=⟨(w.heap.size+1+1+1),1,none⟩) rfl (.int .i64 n));have Ty:=aa (aaV.o.kept kK (mr (S:=fun q=>q=(w.heap.size+1+1+1)) (cZ _ qY) (p:=⟨(w.heap.size+1+1+1),1,none⟩) rfl (.int .i64 n)) (fun q hq=>Or.inl hq) (fun g hg e=>by injection hg with hg;exact Jg.o.1 (hg.trans e)));generalize qY.setCell ⟨(w.heap.size+1+1+1),1,none⟩ (.int .i64 n)=pU at MV Fj Ty ⊢
   have fS:=aa (fun(W:World) (hm:W.heap[mb]?=pU.heap[mb]?) (hb:Blk W (w.heap.size+1+1+1) 31 #[.int .i64 0,.int .i64 n,.slice (some ⟨g9,0,none⟩) hs.length c9,.int .i64 0])=>show W.cell? ⟨mb,0,none⟩=some (.slice A2 st2.length cap2)∧W.cell? ⟨(w.heap.size+1+1+1),0,none⟩=some (.int .i64 0)∧W.cell? ⟨(w.heap.size+1+1+1),1,none⟩=some (.int .i64 n)∧W.cell? ⟨(w.heap.size+1+1+1),2,none⟩=some (.slice (some ⟨g9,0,none⟩) hs.length c9)∧W.cell? ⟨(w.heap.size+1+1+1),3,none⟩=some (.int .i64 0) from
    ⟨(uy (hm.trans ((cZ (S:=fun _=>False) pU).block mb (bG BJ.o Fj.o.size) id))).trans (aaW.o pU Fj.o).1,hb.cell 0,hb.cell 1,hb.cell 2,hb.cell 3⟩)
   refine dg ?_;refine cW (S:=fun w'=>w'.cell? ⟨mb,0,none⟩=some (.slice A2 st2.length cap2)∧w'.cell? ⟨(w.heap.size+1+1+1),0,none⟩=some (.int .i64 0)∧w'.cell? ⟨(w.heap.size+1+1+1),1,none⟩=some (.int .i64 n)∧w'.cell? ⟨(w.heap.size+1+1+1),2,none⟩=some (.slice (some ⟨g9,0,none⟩) hs.length c9)∧w'.cell? ⟨(w.heap.size+1+1+1),3,none⟩=some (.int .i64 0)) (by kernel_rfl) (fS.o _ rfl (MV.o.grow (ah _).drew)) (fun hHeld=>?_);have ajc:=aa (bG BJ.o Fj.o.size);have hms:pU.drew.heap=pU.heap:=rfl;have vI:=aa (Fj.o.trans (gN (ah pU).drew));have Fk:=aa (MV.o.grow (ah pU).drew);have aaX:=aa (Ty.o.grow kK (ah pU).drew)
   have Aw:=aa (fun(W:World) (hk:Kept (fun q=>q=(w.heap.size+1+1)) pU.drew W) (hb:Blk W (w.heap.size+1+1+1) 31 #[.int .i64 0,.int .i64 n,.slice (some ⟨g9,0,none⟩) hs.length c9,.int .i64 0])=>fS.o W (hk.block mb ajc.o (fun hq=>by have:=LN.o;omega)) hb);clear hms Fj MV Ty fS;generalize pU.drew=W1 at vI Fk aaX Aw hHeld ⊢;have ajd:=aa (vI.o.blk Jd.o (by omega));have aje:=aa (fB.o.bare (S:=Ar (w.heap.size+1+1) (w.heap.size+1+1+1)) aaT.o (vI.o.mono fun q hq=>Or.inl hq));have Fl:=aa (show w9.heap.size≤W1.heap.size from vI.o.size);have ajf:=aa (show (w.heap.size+1+1)<W1.heap.size∧(w.heap.size+1+1+1)<W1.heap.size by have:=fQ.o;have:=Fl.o;omega);refine ai 0 ?_;refine ai 1 ?_;refine ai 2 ?_;refine cO 3 ?_;refine cO 5 ?_
   refine Tc (σ:=Bool×Bool×Bool×Value) (fun⟨c4,c6,c7,y4⟩=>cond c4 0 1+cond c6 0 1+cond c7 0 1) (fun⟨c4,c6,c7,y4⟩=>#[true,true,true,true,c4,true,c6,c7]) (fun⟨c4,c6,c7,y4⟩ a=>(fun a:Act=>cond c4 (a.put (some 123) y4) a) (a)) (fun⟨c4,c6,c7,y4⟩ W=>((!c6||c4)&&(!c7||c6))=true∧(c4=false→W=W1)∧Kept (fun q=>q=(w.heap.size+1+1)) W1 W∧(∃u,Blk W (w.heap.size+1+1) 44 #[u])∧(c4=true→∃Ax qa ex,y4=.agg #[.slice Ax st2.length qa]∧CR (fun q=>q<W1.heap.size) W W1.heap.size Ax qa ex st2∧(c6=true→Blk W (w.heap.size+1+1) 44 #[.slice Ax st2.length qa]))) ⟨false,false,false,undef⟩ rfl rfl (by rfl) ?_ ?_
   ·exact⟨rfl,fun _=>rfl,cZ _ _,⟨_,ajd.o⟩,fun e=>(by cases e)⟩
   intro s W hI IH;obtain⟨c4,c6,c7,y4⟩:=s;dsimp only at hI
   cases c4<;>cases c6<;>cases c7<;>first | exact absurd hI.1 (by decide) | skip
   ·show wpAnyH _ _ _ _ _ 3 #[true,true,true,true,false,true,false,false] _ _
    try simp only[gz,aH]
    refine aK 4 (fun K hK=>?_);obtain⟨-,hW,hk,nk,h4⟩:=hI;replace hW:=aa hW;replace hk:=aa hk;replace nk:=aa nk;replace h4:=aa h4;have hW2:=(hW.o rfl).symm;clear hW;subst hW2;have hC:=Qx st2 A2 cap2 W1 aje.o (aaS.o.copy (by omega)).1 (aaS.o.copy (by omega)).2;go_simp;go_at_call 37;refine hC.mono ?_;rintro ee W3 ⟨hg3,gQ,c10,MW,rfl,hcr⟩
    have iR:((!false||true)&&(!false||false))=true∧(true=false→W3=W1)∧Kept (fun q=>q=(w.heap.size+1+1)) W1 W3∧(∃u,Blk W3 (w.heap.size+1+1) 44 #[u])∧(true=true→∃Ax qa ex,(Value.agg #[.slice gQ st2.length c10])=.agg #[.slice Ax st2.length qa]∧CR (fun q=>q<W1.heap.size) W3 W1.heap.size Ax qa ex st2∧(false=true→Blk W3 (w.heap.size+1+1) 44 #[.slice Ax st2.length qa])):=⟨rfl,fun e=>(by cases e),hk.o.trans (gN hg3),nk.o.imp fun u hu=>hu.grow hg3,fun _=>⟨gQ,c10,MW,rfl,hcr,fun e=>(by cases e)⟩⟩;refine hK.out _ _ (Aw.o _ iR.2.2.1 (iR.2.2.1.blk Fk.o (by omega))) (fun hHeld=>?_)
    try simp only[gz,aH]
    have d_:=IH ⟨true,false,false,(Value.agg #[.slice gQ st2.length c10])⟩ _ (show (2:Nat)<3 from by decide) iR;dsimp only at d_;simp only[gz,aH] at d_;exact d_
   ·show wpAnyH _ _ _ _ _ 2 #[true,true,true,true,true,true,false,false] _ _
    try simp only[gz,aH]
    refine aK 6 (fun K hK=>?_);obtain⟨-,hW,hk,nk,h4⟩:=hI;replace hW:=aa hW;replace hk:=aa hk;replace nk:=aa nk;replace h4:=aa h4;obtain⟨gQ,c10,MW,rfl,hcr,-⟩:=h4.o rfl;obtain⟨u,tO⟩:=nk.o;have qD:=tO.cell;have hof:=tO.frozen;go_simp;clear qD hof;have hk3:=hk.o.set (p:=⟨(w.heap.size+1+1),0,none⟩) rfl (.slice gQ st2.length c10);have ajg:=CR.old hcr (au _) ((cZ (S:=fun q=>q<W1.heap.size) W).set (p:=⟨(w.heap.size+1+1),0,none⟩) ajf.o.1 (.slice gQ st2.length c10));have aaY:=tO.aY 0 (.slice gQ st2.length c10)
    have iR:((!true||true)&&(!false||true))=true∧(true=false→(W.setCell ⟨(w.heap.size+1+1),0,none⟩ (.slice gQ st2.length c10))=W1)∧Kept (fun q=>q=(w.heap.size+1+1)) W1 (W.setCell ⟨(w.heap.size+1+1),0,none⟩ (.slice gQ st2.length c10))∧(∃u,Blk (W.setCell ⟨(w.heap.size+1+1),0,none⟩ (.slice gQ st2.length c10)) (w.heap.size+1+1) 44 #[u])∧(true=true→∃Ax qa ex,(Value.agg #[.slice gQ st2.length c10])=.agg #[.slice Ax st2.length qa]∧CR (fun q=>q<W1.heap.size) (W.setCell ⟨(w.heap.size+1+1),0,none⟩ (.slice gQ st2.length c10)) W1.heap.size Ax qa ex st2∧(true=true→Blk (W.setCell ⟨(w.heap.size+1+1),0,none⟩ (.slice gQ st2.length c10)) (w.heap.size+1+1) 44 #[.slice Ax st2.length qa])):=⟨rfl,fun e=>(by cases e),hk3,⟨_,aaY⟩,fun _=>⟨gQ,c10,MW,rfl,ajg,fun _=>aaY⟩⟩
    refine hK.out _ _ (Aw.o _ iR.2.2.1 (iR.2.2.1.blk Fk.o (by omega))) (fun hHeld=>?_)
    try simp only[gz,aH]
    have d_:=IH ⟨true,true,false,(Value.agg #[.slice gQ st2.length c10])⟩ _ (show (1:Nat)<2 from by decide) iR;dsimp only at d_;simp only[gz,aH] at d_;exact d_
   ·show wpAnyH _ _ _ _ _ 1 #[true,true,true,true,true,true,true,false] _ _
    try simp only[gz,aH]
    refine aK 7 (fun K hK=>?_);obtain⟨-,hW,hk,nk,h4⟩:=hI;replace hW:=aa hW;replace hk:=aa hk;replace nk:=aa nk;replace h4:=aa h4;have hbr:=hk.o.blk Fk.o (by omega);have hrc:=hbr.cell;have hrf:=hbr.frozen;go_simp;clear hrc hrf;rw[MP hbr rfl,MP hbr rfl,MP hbr rfl,MP hbr rfl];have iR:((!true||true)&&(!true||true))=true∧(true=false→W=W1)∧Kept (fun q=>q=(w.heap.size+1+1)) W1 W∧(∃u,Blk W (w.heap.size+1+1) 44 #[u])∧(true=true→∃Ax qa ex,y4=.agg #[.slice Ax st2.length qa]∧CR (fun q=>q<W1.heap.size) W W1.heap.size Ax qa ex st2∧(true=true→Blk W (w.heap.size+1+1) 44 #[.slice Ax st2.length qa])):=⟨rfl,hW.o,hk.o,nk.o,h4.o⟩;refine hK.out _ _ (Aw.o _ iR.2.2.1 (iR.2.2.1.blk Fk.o (by omega))) (fun hHeld=>?_)
    try simp only[gz,aH]
    have d_:=IH ⟨true,true,true,y4⟩ _ (show (0:Nat)<1 from by decide) iR;dsimp only at d_;simp only[gz,aH] at d_;exact d_
   show wpAnyH _ _ _ _ _ 0 #[true,true,true,true,true,true,true,true] _ _
   try simp only[gz,aH]
   clear IH;obtain⟨-,hW,hk,nk,h4⟩:=hI;replace hW:=aa hW;replace hk:=aa hk;replace nk:=aa nk;replace h4:=aa h4;obtain⟨gQ,c10,MW,rfl,hcr,tO⟩:=h4.o rfl;have ajh:=aa (tO rfl);have aji:=aa (hk.o.blk Fk.o (by omega));have ajj:=aa (CR.Xj hcr);have xZ:=aa (VR.B_ (aaX.o.kept kK hk.o (fun q hq=>Or.inr hq) (fun g hg e=>by injection hg with hg;exact Jg.o.2 (hg.trans e))) (fun g hg e=>by
    injection hg with hg;rcases e with e | e
    ·exact Jg.o.1 (hg.trans e)
    exact Jg.o.2 (hg.trans e)) (by have:=tA.o;omega))
   have vw:=aa (show Grow w W from dN.o.below.trans ((vI.o.below (B:=w.heap.size) dN.o.size (fun q hq=>by omega)).trans (hk.o.below (B:=w.heap.size) (aV dN.o.size Fl.o) (fun q hq=>by omega))));clear hW hk h4 hcr tO;refine cG ?_;go_wp2_with fail;refine leaves_cons (f:=41) (args:=#[.pointer (some ⟨w.heap.size,0,none⟩),.pointer (some ⟨w.heap.size+1+1,0,none⟩),.pointer (some ⟨w.heap.size+1+1+1,0,none⟩)]) (by simp) (by simp[go_sem]) ?_;refine(ahY w.heap.size (w.heap.size+1+1) (w.heap.size+1+1+1) _).mono ?_;rintro r u' w'' ⟨rfl,rfl,rfl⟩;exact⟨_,ai7 vw.o j3.o ajh.o (by rw[← Tu.o];exact aji.o) ajj.o (by exact xZ.o) rfl rfl⟩
  all_goals
   try simp only[gz,aH]
   first
    | (have:=(⟨yP,yQ⟩:a1=false∧a5=false);refine bC [1,5] ?_)
    | (have:=(⟨yP,yQ⟩:a1=false∧a5=true);refine bC [1] ?_)
    | (have:=(⟨yP,yQ,CW⟩:a1=true∧a5=false∧a3=false);refine bC [3,5] ?_)
    | (have:=(CW:a3=true);refine bC [5] ?_)
    | (have:=(⟨yP,yQ⟩:a1=true∧a5=true);refine bC [3] ?_)
   try
    refine fC (i:=1) (fun K hK=>?_) ?_
    have nR:=fun(y1:Value) (y2:Value) (y5:Value) (y3:Value) (W:World)=>IH ⟨true,a5,a3,y1,y2,y5,y3⟩ W
    subst yP yQ CW
    obtain⟨-,h1,h5,h3,hW⟩:=hI
    replace h1:=aa h1
    replace h5:=aa h5
    replace h3:=aa h3
    have pV:=aa (show Blk W (w.heap.size+1+1+1) 31 (cS 0 0 A6 hs.length c6 0) from by rw[hW];first | exact yO.o | exact yO.o.grow ((ah W0).alloc _))
    have hW2:=px hW
    simp only[Bh,Bi] at hW2
    clear hW
    subst hW2
    have hr:=(pV.o).cell 2
    go_simp
    clear hr
    refine hK.out _ _ (trivial) (fun hHeld=>?_)
    try simp only[gz,aH]
    refine ai 2 ?_
    have d_:=nR (Value.slice A6 hs.length c6) (Value.int .i64 (hs.length:Int)) y5 y3 _ (nu rfl) (⟨rfl,fun _=>⟨rfl,rfl⟩,h5.o,h3,rfl⟩)
    dsimp only at d_
    simp only[gz,aH] at d_
    exact d_
   try
    refine fC (i:=3) (fun K hK=>?_) ?_
    have nR:=fun(y1:Value) (y2:Value) (y5:Value) (y3:Value) (W:World)=>IH ⟨a1,a5,true,y1,y2,y5,y3⟩ W
    subst yP yQ CW
    obtain⟨-,h1,h5,h3,hW⟩:=hI
    replace h1:=aa h1
    replace h5:=aa h5
    replace h3:=aa h3
    have pV:=aa (show Blk W (w.heap.size+1+1+1) 31 (cS 0 0 A6 hs.length c6 0) from by rw[hW];first | exact yO.o | exact yO.o.grow ((ah W0).alloc _))
    have hW2:=px hW
    simp only[Bh,Bi] at hW2
    clear hW
    subst hW2
    obtain⟨rfl,rfl⟩:=h1.o rfl
    have hmk:=Fi.o
    go_simp
    clear hmk
    refine hK.out _ _ (trivial) (fun hHeld=>?_)
    try simp only[gz,aH]
    have d_:=nR (Value.slice A6 hs.length c6) (Value.int .i64 (hs.length:Int)) y5 (Value.slice (some ⟨W0.heap.size,0,none⟩) 0 hs.length) _ (nu rfl) (⟨rfl,fun _=>⟨rfl,rfl⟩,h5.o,fun _=>rfl,rfl⟩)
    dsimp only at d_
    simp only[gz,aH] at d_
    exact d_
   try
    refine fC (i:=5) (fun K hK=>?_) ?_
    have nR:=fun(y1:Value) (y2:Value) (y5:Value) (y3:Value) (W:World)=>IH ⟨a1,true,a3,y1,y2,y5,y3⟩ W
    subst yP yQ CW
    obtain⟨-,h1,h5,h3,hW⟩:=hI
    replace h1:=aa h1
    replace h5:=aa h5
    replace h3:=aa h3
    have pV:=aa (show Blk W (w.heap.size+1+1+1) 31 (cS 0 0 A6 hs.length c6 0) from by rw[hW];first | exact yO.o | exact yO.o.grow ((ah W0).alloc _))
    have hW2:=px hW
    simp only[Bh,Bi] at hW2
    clear hW
    subst hW2
    have hr:=(pV.o).cell 2
    go_simp
    clear hr
    refine hK.out _ _ (trivial) (fun hHeld=>?_)
    try simp only[gz,aH]
    have d_:=nR y1 y2 (Value.slice A6 hs.length c6) y3 _ (nu rfl) (⟨rfl,h1.o,fun _=>rfl,h3,rfl⟩)
    dsimp only at d_
    simp only[gz,aH] at d_
    exact d_
   exact dM
theorem Tz(N cap:Nat)(A:Option Addr)(st st':List Co)(r:Rp)(q:Rq)(ck cl ch cx:Cv)(w:World)(hst:cQ w A cap st)(hok:cz N st)(hN:N≤1000000)(hR:sD q)(hT:dz w)(hM:kD w)
 (hk:In w q.key ck) (hl:In w q.low cl) (hh:In w q.high ch) (hx:In w q.doc cx) (h:∀x,qN N st q x→mU st x=(st',r)) :
 Calls prog 18 #[.agg #[.slice A st.length cap],.agg (b9 q.aM q.aw q.index q.path q.unique ck cl ch cx q.n)] w (yG true w st' r):=by
 refine(aaM N cap A st q ck cl ch cx w hst hok hN hR (fun W hg=>⟨hT.grow hg,hM.grow hg⟩) hk hl hh hx).mono ?_;rintro e w' ⟨x,hx,hg,A5,c5,dA,dc,h1,h2,h3⟩;rw[h x hx] at h1 h2 h3;exact⟨hg,A5,c5,dA,dc,h1,h2,fun _=>h3⟩
theorem ka0:h_ [] (pR 1 nA)=.ok (sX [] [],0,[]):=by
 refine(afD rfl |>.trans ?_);unfold qK;have h1:V.name nA=true:=by decide +kernel
 rw[show (pR 1 nA).aw=nA from rfl,h1,ak (by decide),ak (show ¬ cr (aP []) nA=true from by decide),ak (by decide)];rfl
theorem ka1:∀x,qN N [] (pR 1 nA) x→mU [] x=(sX [] [],Rp.zero):=fun x hx=>by
 rw[hx.one (by decide) (by decide),ka0];rfl
theorem ka2:∀x,qN N (sX [] []) (zS 3 nA (dV 1 5)) x→mU (sX [] []) x=(sX [dV 1 5] [],Rp.zero):=fun x hx=>by
 rw[hx.one (fun _=>by rw[show (zS 3 nA (dV 1 5)).aw=nA from rfl,XX]) (by rintro(h | h)<;>cases h),XY rfl,afF rfl (afC 5 (by decide)) rfl (fun h=>by cases h.1)];rfl
theorem oW:IsV C V.zero Cv.zero:=by
 unfold V.zero;rw[IsV];exact⟨rfl,rfl,rfl,rfl,rfl,by decide,by decide,by decide,by simp,by simp,by simp,by simp,by simp,by simp,⟨rfl,fun h=>by simp at h⟩,fun i hi=>by simp at hi,fun i hi=>by simp at hi⟩
theorem nS:V.zero.count≤20000:=by unfold V.zero;rw[sZ];decide
theorem ajk(i x:Nat):(dV i x).count≤20000:=by unfold dV;rw[sZ];simp[afs]
theorem TA:V.zero.fit:=by unfold V.zero;rw[V.fit];exact⟨by decide,fun x h=>by simp at h,fun x h=>by simp at h⟩
theorem ajl(d:Int)(c:ByteArray):sD (pR d c):=⟨nS,nS,nS,nS,TA⟩
theorem ajm(d:Int)(c:ByteArray){x:V}(h:x.count≤20000)(hf:x.fit):sD (zS d c x):=⟨nS,nS,nS,h,hf⟩
theorem InL.TB{v:V}{c:Cv}(h:In w v c):InL (w.alloc (.cells c.cells 27)) (some ⟨w.heap.size,0,none⟩) 1 [v]:=by
 have hg:=(ah w).alloc (.cells c.cells 27);have hB:=az w 27 c.cells;have h':=h.grow hg;have hlt:=hB.lt;unfold InL In;rw[IsV];refine⟨rfl,rfl,rfl,rfl,rfl,by decide,by decide,by decide,by simp,by simp,by simp,by simp,by simp,by simp,⟨rfl,fun h=>by simp at h⟩,fun i hi=>?_,fun i hi=>by simp at hi⟩;obtain rfl:i=0:=by simp at hi;omega
 exact⟨w.heap.size,0,c,rfl,⟨⟨hB.cell 0,aR _,hlt⟩,⟨hB.cell 1,aR _,hlt⟩,⟨hB.cell 2,aR _,hlt⟩,⟨hB.cell 3,aR _,hlt⟩,⟨hB.cell 4,aR _,hlt⟩⟩,h'⟩
theorem cQ.at_{cap:Nat}(h:cQ w A cap st)(i:Nat)(hi:i<st.length):∃bk o e,A=some ⟨bk,o,none⟩∧bk<w.heap.size∧qL w e st[i]∧(∀k v,e.cells.toList[k]?=some v→k<3→w.cell? ⟨bk,o+i*3+k,none⟩=some v):=by
 obtain⟨hc,es,h1,h2⟩:=h;have hel:i<es.length:=by rw[h1.1];exact hi
 obtain⟨bk,o,hA,hcell⟩:=h2.2 (by omega);have hf:∀k v,es[i].cells.toList[k]?=some v→k<3→bQ w 0 w.heap.size ⟨bk,o+(i*3+k),none⟩ v:=fun k v hv hk =>
  hcell (i*3+k) v (by rw[cY,mV _ 3 (fun _=>rfl) es i k hk es[i] (bH hel)];exact hv)
 refine⟨bk,o,es[i],hA,(hf 0 _ rfl (by omega)).2.2,h1.at_ hel hi,fun k v hv hk=>?_⟩;rw[lu];exact(hf k v hv hk).1
theorem ajn(w:World)(hT:dz w)(hM:kD w):Calls prog 13 #[] w fun e w'=>e=.returned (.bool true)∧Grow w w':=by
 have HT:=aa hT;have HM:=aa hM;have H1:=aa (Tz 0 0 none [] _ _ (pR 1 nA) Cv.zero Cv.zero Cv.zero Cv.zero w (cQ.nil w) cz.nil (by omega) (ajl _ _) hT hM oW oW oW oW ka1);clear hT hM;go_enter func13,ntmps13;go_wp2_with fail;refine H1.o.mono ?_;rintro e w1 ⟨hg1,A1,c1,vO,vP,rfl,aaZ,aa0⟩;have aO:=aa hg1;have j5:=aa aaZ;have TC:=aa (aa0 rfl);clear hg1 aaZ aa0;have cP:=aa ((az w1 44 #[.slice A1 (sX [] []).length c1]).alloc (.cells #[.int .i64 Rp.zero.e,.int .i64 Rp.zero.n,.slice vO Rp.zero.ag.length vP,.int .i64 Rp.zero.eX] 31));have bf:=aa (cM (w:=w1.alloc (.cells #[.slice A1 (sX [] []).length c1] 44)) (g:=w1.heap.size+1) (by simp) 31 (cS Rp.zero.e Rp.zero.n vO Rp.zero.ag.length vP Rp.zero.eX))
 have HG2:=aa ((aO.o.alloc (.cells #[.slice A1 (sX [] []).length c1] 44)).alloc (.cells #[.int .i64 Rp.zero.e,.int .i64 Rp.zero.n,.slice vO Rp.zero.ag.length vP,.int .i64 Rp.zero.eX] 31));have CX:=aa (j5.o.grow (((ah w1).alloc (.cells #[.slice A1 (sX [] []).length c1] 44)).alloc (.cells #[.int .i64 Rp.zero.e,.int .i64 Rp.zero.n,.slice vO Rp.zero.ag.length vP,.int .i64 Rp.zero.eX] 31)));have CY:=aa (TC.o.grow (((ah w1).alloc (.cells #[.slice A1 (sX [] []).length c1] 44)).alloc (.cells #[.int .i64 Rp.zero.e,.int .i64 Rp.zero.n,.slice vO Rp.zero.ag.length vP,.int .i64 Rp.zero.eX] 31)));have ajo:=aa (show cz 1 (sX [] []) from En cz.nil TA nS ka0);go_wp2_with fail;refine dg ?_
 refine cW (S:=fun w'=>w'.cell? ⟨w1.heap.size,0,none⟩=some (.slice A1 (sX [] []).length c1)) (by kernel_rfl) ((cP.o.grow (ah _).drew).cell 0) (fun hHeld=>?_);replace cP:=aa (cP.o.grow (ah _).drew);replace bf:=aa (bf.o.grow (ah _).drew);replace HG2:=aa (HG2.o.drew);replace CX:=aa (CX.o.grow (ah _).drew);replace CY:=aa (CY.o.grow (ah _).drew);generalize ((w1.alloc (.cells #[.slice A1 (sX [] []).length c1] 44)).alloc (.cells #[.int .i64 Rp.zero.e,.int .i64 Rp.zero.n,.slice vO Rp.zero.ag.length vP,.int .i64 Rp.zero.eX] 31)).drew=W0 at cP bf HG2 CX CY hHeld ⊢;have fS:=aa (fun(W:World) (hg:Grow W0 W)=>(cP.o.grow hg).cell 0)
 have j3:=aa (fun(W:World) (hg:Grow W0 W) (A:Option Addr) (hx:In W (dV 1 5) (yD A 2))=>Tz 1 c1 A1 _ _ _ (zS 3 nA (dV 1 5)) Cv.zero Cv.zero Cv.zero (yD A 2) W (CX.o.grow hg) ajo.o (by omega) (ajm _ _ (ajk 1 5) (afz (by decide) (by decide))) (HT.o.grow (HG2.o.trans hg)) (HM.o.grow (HG2.o.trans hg)) oW oW oW hx ka2);refine ai 0 ?_;refine ahT (b:=3) (c:=1) (f1:=9) (Sj:=#[.int .i64 1,.int .i64 5]) (bb:=true) (P:=fun s r=>s=sX [dV 1 5] []∧r=Rp.zero) (by rfl) (by rfl) (by rfl) (by rfl) (by rfl) ⟨⟨by rfl,by rfl,by rfl⟩,⟨_,_,_,by rfl⟩,⟨_,_,_,by rfl⟩,⟨_,_,_,by rfl⟩,⟨_,_,_,by rfl⟩,⟨_,_,_,by rfl⟩,⟨_,_,_,by rfl⟩,⟨_,_,_,by rfl⟩⟩ (by kernel_rfl) (by kernel_rfl) (by kernel_rfl) (by decide) (fun W hg=>fS.o W hg) (fun W=>by kernel_rfl) (fun W hg=>?_)
 refine(YR 1 5 1 5 rfl rfl (by decide) (by decide) W).mono ?_;rintro ee W3 ⟨Ae,rfl,hin,hg3⟩;refine⟨_,(Value.agg (b9 3 ⟨#[97]⟩ ⟨#[]⟩ ⟨#[]⟩ false Cv.zero Cv.zero Cv.zero (yD Ae 2) 0)),18,#[.agg #[.slice A1 (sX [] []).length c1],(Value.agg (b9 3 ⟨#[97]⟩ ⟨#[]⟩ ⟨#[]⟩ false Cv.zero Cv.zero Cv.zero (yD Ae 2) 0))],rfl,hg3,fun W=>by kernel_rfl,fun W=>by kernel_rfl,fun W2 hg2=>(j3.o W2 (hg.trans (hg3.trans hg2)) Ae (hin.jf.grow hg2)).mono fun e w' h=>⟨_,_,⟨rfl,rfl⟩,h⟩,?_⟩;rintro s9 r9 W A dA c dc gs gr ⟨rfl,rfl⟩ ⟨CZ,hgr,hne,ym,hbs,hbr,hst,bA⟩;clear hin hg3 hg;simp only[fA,vK,uh,ui,pA,Act.put,Oe,N2,J1];obtain⟨bk,o,e5,hA,hbk,aA,hcell⟩:=hst.at_ 0 (by decide);subst hA;have MT:e5.dn=1:=aA.dn;have vB:=hcell 1 _ rfl (by omega);rw[MT] at vB
 have bI:=aa (HG2.o.trans ym);have ajp:=aa ym;have gH:=aa (bA rfl);have HEI:=aa (show InL W e5.dA e5.dc [dV 1 5] from aA.ag);have rP:=aa (fun(W':World) (hg:Grow W W')=>show (∀k v,(cS Rp.zero.e Rp.zero.n vO Rp.zero.ag.length vP Rp.zero.eX)[k]?=some v→W'.cell? ⟨w1.heap.size+1,k,none⟩=some v)∧(∀k v,(cS Rp.zero.e Rp.zero.n dA Rp.zero.ag.length dc Rp.zero.eX)[k]?=some v→W'.cell? ⟨gr,k,none⟩=some v)∧W'.cell? ⟨gs,0,none⟩=some (.slice (some ⟨bk,o,none⟩) 1 c)∧W'.cell? ⟨bk,o+1,none⟩=some (.slice e5.dA 1 e5.dc) from
  ⟨fun k v h=>((bf.o.grow (ym.trans hg)).cell k).trans h,fun k v h=>((hbr.grow hg).cell k).trans h,(hbs.grow hg).cell 0,(hg.below.cell (p:=⟨bk,o+1,none⟩) hbk).trans (by simpa using vB)⟩)
 clear CZ hgr hne ym hbs hbr hst bA hbk aA hcell MT vB hHeld;go_wp2_with fail;refine dg ?_;refine cW (S:=fun w'=>(∀k v,(cS Rp.zero.e Rp.zero.n vO Rp.zero.ag.length vP Rp.zero.eX)[k]?=some v→w'.cell? ⟨w1.heap.size+1,k,none⟩=some v)∧(∀k v,(cS Rp.zero.e Rp.zero.n dA Rp.zero.ag.length dc Rp.zero.eX)[k]?=some v→w'.cell? ⟨gr,k,none⟩=some v)∧w'.cell? ⟨gs,0,none⟩=some (.slice (some ⟨bk,o,none⟩) 1 c)∧w'.cell? ⟨bk,o+1,none⟩=some (.slice e5.dA 1 e5.dc)) (by kernel_rfl) (rP.o _ (ah _).drew) (fun hHeld=>?_);have a_:=aa (bI.o.trans (ah W).drew);have MX:=aa (gH.o.grow (ah W).drew);have aa1:=aa (CY.o.grow ((ajp.o.trans (ah W).drew)));have HE5:=aa (HEI.o.grow (ah W).drew)
 have Ay:=aa (fun(W':World) (hg:Grow W.drew W')=>rP.o W' ((ah W).drew.trans hg));clear rP;generalize W.drew=W5 at a_ MX aa1 HE5 Ay hHeld ⊢;have hcl:((1:Nat):Int)=1:=rfl;refine ai 0 (hy:=bU fun w ay=>by obtain⟨hS1,gT,MZ,M0⟩:=ay;have q0:=hS1 0 _ rfl;have q1:=hS1 1 _ rfl;have q2:=hS1 2 _ rfl;have q3:=hS1 3 _ rfl;have p0:=gT 0 _ rfl;have p1:=gT 1 _ rfl;have p2:=gT 2 _ rfl;have p3:=gT 3 _ rfl;clear hS1 gT;go_simp;try rfl) ?_;refine ai 1 ?_;refine aK 2 (fun K hK=>?_);have hC:=Rt Rp.zero Rp.zero vO none vP 0 W5 (aa1.o.grow (ah W5)) (vo _);go_simp;go_at_call 23;refine hC.mono ?_;rintro ee W6 ⟨x6,rfl,hx,hg⟩;obtain rfl:x6=true:=hx.2 rfl;have aW:=aa (wG (ah W5) hg);clear hC hx hg;refine aT hK (Ay.o _ aW.o) (fun hHeld=>?_);refine ai 3 ?_
 refine ai 4 (hy:=bU fun w ay=>by obtain⟨hS1,gT,MZ,M0⟩:=ay;have q0:=hS1 0 _ rfl;have q1:=hS1 1 _ rfl;have q2:=hS1 2 _ rfl;have q3:=hS1 3 _ rfl;have p0:=gT 0 _ rfl;have p1:=gT 1 _ rfl;have p2:=gT 2 _ rfl;have p3:=gT 3 _ rfl;clear hS1 gT;go_simp;try rfl) ?_;refine ai 5 ?_;refine aK 6 (fun K hK=>?_);have hC:=Rt Rp.zero Rp.zero dA none dc 0 W6 (MX.o.grow aW.o) (vo _);go_simp;go_at_call 23;refine hC.mono ?_;rintro ee W7 ⟨x7,rfl,hx,hg⟩;obtain rfl:x7=true:=hx.2 rfl;have aX:=aa (wG aW.o hg);clear hC hx hg;refine aT hK (Ay.o _ aX.o) (fun hHeld=>?_);refine ai 7 ?_;refine ai 8 ?_;refine ai 9 ?_
 refine ai 10 (hy:=bU fun w ay=>by obtain⟨hS1,gT,MZ,M0⟩:=ay;have q0:=hS1 0 _ rfl;have q1:=hS1 1 _ rfl;have q2:=hS1 2 _ rfl;have q3:=hS1 3 _ rfl;have p0:=gT 0 _ rfl;have p1:=gT 1 _ rfl;have p2:=gT 2 _ rfl;have p3:=gT 3 _ rfl;clear hS1 gT;go_simp;try rfl) ?_;refine ai 11 ?_;refine ai 12 ?_;refine ai 13 ?_;refine ai 14 ?_;refine ai 15 ?_;refine ai 16 (hy:=bU fun w ay=>by obtain⟨hS1,gT,MZ,M0⟩:=ay;have q0:=hS1 0 _ rfl;have q1:=hS1 1 _ rfl;have q2:=hS1 2 _ rfl;have q3:=hS1 3 _ rfl;have p0:=gT 0 _ rfl;have p1:=gT 1 _ rfl;have p2:=gT 2 _ rfl;have p3:=gT 3 _ rfl;clear hS1 gT;go_simp;try rfl) ?_;refine ai 17 ?_;refine ai 18 ?_
 refine ai 19 (hy:=bU fun w ay=>by obtain⟨hS1,gT,MZ,M0⟩:=ay;have q0:=hS1 0 _ rfl;have q1:=hS1 1 _ rfl;have q2:=hS1 2 _ rfl;have q3:=hS1 3 _ rfl;have p0:=gT 0 _ rfl;have p1:=gT 1 _ rfl;have p2:=gT 2 _ rfl;have p3:=gT 3 _ rfl;clear hS1 gT;go_simp;try rfl) ?_;refine aK 20 (fun K hK=>?_);have hC:=YR 1 5 1 5 rfl rfl (by decide) (by decide) W7;go_simp;go_at_call 9;refine hC.mono ?_;rintro ee W8 ⟨Ae,rfl,hin,hg⟩;have bR:=aa (aX.o.trans hg);have ajq:=aa hin.jf;clear hC hin hg;refine aT hK (Ay.o _ bR.o) (fun hHeld=>?_);refine aK 21 (fun K hK=>?_);go_simp;have iZ:=aa (InL.TB ajq.o);have dN:=aa (bR.o.alloc (.cells (yD Ae 2).cells 27))
 have HL9:=aa (L6 [dV 1 5] [dV 1 5] e5.dA (some ⟨W8.heap.size,0,none⟩) e5.dc 1 (W8.alloc (.cells (yD Ae 2).cells 27)) (HE5.o.grow dN.o) iZ.o);refine aT hK (Ay.o _ dN.o) (fun hHeld=>?_);refine aK 22 (fun K hK=>?_);go_simp;go_at_call 19;refine HL9.o.mono ?_;rintro ee W10 ⟨x10,rfl,hx,hg⟩;obtain rfl:x10=true:=hx.2 rfl;have ET:=aa (dN.o.trans hg);clear hx hg;refine aT hK (Ay.o _ ET.o) (fun hHeld=>?_);refine ai 23 ?_;refine ai 24 ?_;refine cG ?_;clear hHeld;go_wp2_with fail;go_ret;exact⟨rfl,a_.o.trans ET.o⟩
end Go.Proofs.YtndjopkdbdcmdaaGreatDoor
