/- Part 14 of the proof of pfinds_card. -/
import Derived.Test.YtndjopkdbdcmdaaGreatDoorPfi12
set_option linter.unusedVariables false
set_option linter.unusedSimpArgs false
set_option maxRecDepth 100000
set_option maxHeartbeats 12800000
open Go.Proofs.Tryz
namespace Go.Proofs.YtndjopkdbdcmdaaGreatDoor
section
open Go.RowKit
theorem ae2(N B mb cap:Nat)(A:Option Addr)(es:List Cc)(st:List Co)(q:Rq)(ck cl ch cx:Cv)(w:World)(h:fg w B mb A cap es st q ck cl ch cx)(hok:dX N st)(hN:N≤1000000)(hf:cK (bh st) q.aA=true)(gL:cK (gj (bD st q.aA)) q.index=false)(LF:∀W,Below B w W→eP W∧mJ W)(hlc:q.low.count≤20000)(Qt:q.high.count≤20000) :
 Calls prog 86 #[.pointer (some ⟨mb,0,none⟩)] w (qN w B mb (qK st q)):=by
 have hs:st.length≤140737488355328:=fg.short hok;have hT:=(LF w (jZ _ _)).1;have Dr:=(LF w (jZ _ _)).2;have HM:=aa h;have cP:=aa hok;skip;obtain⟨gb,hA,hgb,hgl,hne⟩:=h.gb hf;obtain⟨⟨nm,dA,dn,dc,xA,xn,xc⟩,he,aR,hcell⟩:=h.co hf hA;obtain⟨c,hc⟩:∃c,bD st q.aA=c:=⟨_,rfl⟩;have hmem:=(lU hf).2.1;have hlt:=(lU hf).2.2.2;have uB:bV (bh st) q.aA<es.length:=by rw[h.el];exact hlt
 rw[hc] at aR hmem;have xM:=hok.co c hmem;have hnd:=xM.nd;have hnx:=xM.nx;have HC:=aa (WQ h hs hf hA);have HF:=aa hf;have qX:=aa hgb;have cM:=aa hne;have qY:=aa hgl;have LG:=aa hA;have LH:=aa he;have sK:=aa aR;have Bv:=aa xM;have xN:=aa hcell;have iJ:=aa hc;obtain⟨P,hP⟩:∃P,bV (bh st) q.aA=P:=⟨_,rfl⟩;have HP:=aa hP;rw[hP] at HC LH xN hlt uB;have lZ:=aa hlt;have al5:=aa uB;have Bw:=aa (fun(w1:World) (hg:Grow w w1)=>show w1.cell? ⟨gb,P*3,none⟩=some (.string nm)∧w1.cell? ⟨gb,P*3+1,none⟩=some (.slice dA c.ag.length dc)∧w1.cell? ⟨gb,P*3+2,none⟩=some (.slice xA c.aq.length xc) from
  ⟨(hg.below.cell (p:=⟨gb,P*3,none⟩) hgl).trans (xN.o 0 (.string nm) rfl),(hg.below.cell (p:=⟨gb,P*3+1,none⟩) hgl).trans ((xN.o 1 (.slice dA dn dc) rfl).trans (by rw[show dn=c.ag.length from aR.dn])),(hg.below.cell (p:=⟨gb,P*3+2,none⟩) hgl).trans ((xN.o 2 (.slice xA xn xc) rfl).trans (by rw[show xn=c.aq.length from aR.xn]))⟩)
 have eY:=aa (fun(w1:World) (hg:Grow w w1)=>ad1 (P:=P) (gb:=gb) (h.grow hg) (aR.grow h.le hg) (fun i v hi=>(hg.below.cell (p:=⟨gb,P*3+i,none⟩) hgl).trans (xN.o i v hi)) (df hgl hg.size) (by omega));have ae3:=aa (fun(w1:World) (hg:Grow w w1)=>zj q.low w1 cl hlc (hT.grow hg) ((h.low.lL h.le).grow hg));have ae4:=aa (fun(w1:World) (hg:Grow w w1)=>zj q.high w1 ch Qt (hT.grow hg) ((h.high.lL h.le).grow hg));have ue:=aa (In.k_ (h.low.lL h.le));have Dm:=aa (In.k_ (h.high.lL h.le));have HTB:=aa LF;have HT:=aa hT;have Qu:=aa Dr;have Qv:=aa hlc;have Hj:=aa Qt;have Hk:=gL;rw[hc] at Hk;obtain⟨FF,DN⟩:∃b,b=false:=⟨_,rfl⟩;rw[← DN] at Hk;obtain⟨I,hI⟩:∃b,bV (gj c) q.index=b:=⟨_,rfl⟩;rw[Hk,hI] at eY;have jt:=aa Hk
 have HI:=aa hI;clear h hok hf hA he aR hcell hc xM hmem hP hlt uB hT Dr LF hlc Qt gL Hk hI;go_enter func86,ntmps86;go_wp2_with fail;refine HC.o.mono ?_;rintro e w1 ⟨rfl,hg1⟩;have aO:=aa hg1;clear hg1;go_wp2_with fail;refine(eY.o w1 aO.o).mono ?_;rintro e w2 ⟨rfl,hg2⟩;have HG2:=aa (aO.o.trans hg2);have lV:=aa (HM.o.grow HG2.o);have hm:=lV.o.blk.cell;clear hg2;have ae5:(FF=true∨q.index=⟨#[]⟩)∨(FF=false∧q.index≠⟨#[]⟩):=by
  cases FF
  ·rcases Classical.em (q.index=⟨#[]⟩) with h | h
   ·exact .inl (.inr h)
   exact .inr ⟨rfl,h⟩
  exact .inl (.inl rfl)
 rcases ae5 with uJ | ⟨pM,Xz⟩
 rotate_left
 ·subst pM;have Qw:q.index.toList.isEmpty=false:=by
   rcases hx:q.index.toList.isEmpty with _ | _
   ·rfl
   exfalso;apply Xz;apply PG;rw[← toList_data];simpa using hx
  have XA:¬ q.index.toList=[]:=by simpa using Qw
  go_wp2_with fail;refine(AV 5 w2).mono ?_;rintro e w3 ⟨rfl,rfl⟩;go_wp2_with fail;exact⟨rfl,zB (HG2.o.below.mono HM.o.le) (by unfold qK;rw[ai (by rw[HF.o];decide),iJ.o,aw ⟨jt.o,Xz⟩])⟩
 have hx:FF=true→q.index≠⟨#[]⟩:=fun ht e=>by
  have hmem:=(Bh Bv.o.aq q.index).1 (by rw[jt.o];exact ht);obtain⟨x,hx,hxe⟩:=j3.1 hmem;have hn:=Bv.o.gj x hx;rw[hxe,e] at hn;exact absurd hn (by decide)
 subst DN;have qZ:q.index=⟨#[]⟩:=by rcases uJ with h | h;cases h;exact h
 have XA:q.index.toList=[]:=by rw[qZ,toList_data]
 have Qw:q.index.toList.isEmpty=true:=by rw[XA,List.isEmpty_nil]
 have uz:=aa qZ;have Hm:=aa (show ¬ (cK (gj c) q.index=false∧q.index≠⟨#[]⟩) from fun h=>h.2 uz.o);clear qZ uJ hx;by_cases tV:1≤q.n
 case neg =>
  have al6:decide (1≤q.n)=false:=by simp;omega
  go_wp2_with fail;refine(tY 5 w2).mono ?_;rintro e w3 ⟨rfl,rfl⟩;go_wp2_with fail;refine(AV 1 w2).mono ?_;rintro e w3 ⟨rfl,rfl⟩;go_wp2_with fail;exact⟨rfl,zB (HG2.o.below.mono HM.o.le) (by unfold qK;rw[ai (by rw[HF.o];decide),iJ.o,ai Hm.o,aw (by omega)])⟩
 by_cases Qx:q.n≤64
 case neg =>
  have al7:decide (q.n≤64)=false:=by simp;omega
  go_wp2_with fail;refine(tY 5 w2).mono ?_;rintro e w3 ⟨rfl,rfl⟩;go_wp2_with fail;refine(AV 1 w2).mono ?_;rintro e w3 ⟨rfl,rfl⟩;go_wp2_with fail;exact⟨rfl,zB (HG2.o.below.mono HM.o.le) (by unfold qK;rw[ai (by rw[HF.o];decide),iJ.o,ai Hm.o,aw (by omega)])⟩
 go_wp2_with fail;refine(tY 5 w2).mono ?_;rintro e w3 ⟨rfl,rfl⟩;go_wp2_with fail;refine(tY 1 w2).mono ?_;rintro e w3 ⟨rfl,rfl⟩;have Qy:=aa tV;have Qz:=aa Qx;clear tV Qx;go_wp2_with fail;go_big_quiet (fail);have aP:=aa (HG2.o.drewN nq);have pY:=aa (HM.o.grow aP.o);generalize w2.drewN nq=w3 at aP pY ⊢;clear hm;have al8:=ad_ cl ch;have al9:=aea cl ch;go_wp2_with fail;go_loopg [61] 3 (fun gk i wr=>∃j:Nat,j≤2∧gk+j=3∧i=.int .i64 j∧(0<j→ei q.low=0)∧(1<j→ei q.high=0)∧Grow w3 wr);exact⟨0,ba _,rfl,rfl,fun h=>absurd h (by omega),fun h=>absurd h (by omega),ah w3⟩;obtain⟨j,hj,hg,rfl,hb1,hb2,hgr⟩:=hrel;obtain⟨gk',rfl⟩:=bS gk (by omega);have aQ:=aa hb1;have aG:=aa hb2;have aH:=aa hgr;have aY:=aa (aP.o.trans hgr);clear hb1 hb2 hgr
 have QA:j=0∨j=1∨j=2:=by omega
 rcases QA with rfl | rfl | rfl
 ·have hv:=(aD wr 27 cl.cells).cell;have aZ:=aa (aY.o.alloc (.cells cl.cells 27));have Hn:=aa (aH.o.alloc (.cells cl.cells 27));by_cases hk:cl.k=0
  ·have zt:(cl.k != 0)=false:=by simp[hk]
   have BE:ei q.low=0:=by unfold ei;rw[aw (by rw[← ue.o];exact hk)]
   clear hk;go_wp2_with fail;go_roundg gk';exact⟨1,by omega,by omega,by go_num,fun _=>BE,fun h=>absurd h (by omega),Hn.o⟩;omega
  have zt:(cl.k != 0)=true:=by simp[hk]
  have Bx:ei q.low=q.low.good:=by unfold ei;rw[ai (by rw[← ue.o];exact hk)]
  obtain⟨G,hG⟩:∃g,q.low.good=g:=⟨_,rfl⟩;have aC:=aa (ae3.o _ aZ.o);rw[hG] at aC Bx;have Bz:=aa Bx;clear hk hG Bx;go_wp2_with fail;refine aC.o.mono ?_;rintro e w5 ⟨rfl,bP⟩;have bN:=aa (aZ.o.trans bP);have QB:=aa (Hn.o.trans bP);clear bP hv;by_cases hz:G=0
  ·subst hz;go_wp2_with fail;refine(OC w5).mono ?_;rintro e w6 ⟨rfl,rfl⟩;have BE:=Bz.o;go_wp2_with fail;go_roundg gk';exact⟨1,by omega,by omega,by go_num,fun _=>BE,fun h=>absurd h (by omega),QB.o⟩;omega
  go_wp2_with fail;refine(Vi G hz w5).mono ?_;rintro e w6 ⟨rfl,rfl⟩;go_wp2_with fail;exact⟨rfl,zB (bN.o.below.mono HM.o.le) (by unfold qK;rw[ai (by rw[HF.o];decide),iJ.o,ai Hm.o,ai (by have:=Qy.o;have:=Qz.o;omega),aw (by rw[Bz.o];exact hz),Bz.o])⟩
 ·have hv:=(aD wr 27 ch.cells).cell;have aZ:=aa (aY.o.alloc (.cells ch.cells 27));have Hn:=aa (aH.o.alloc (.cells ch.cells 27));by_cases hk:ch.k=0
  ·have zt:(ch.k != 0)=false:=by simp[hk]
   have BE:ei q.high=0:=by unfold ei;rw[aw (by rw[← Dm.o];exact hk)]
   clear hk;go_wp2_with fail;go_roundg gk';exact⟨2,by omega,by omega,by go_num,fun _=>aQ.o (by omega),fun _=>BE,Hn.o⟩;omega
  have zt:(ch.k != 0)=true:=by simp[hk]
  have Bx:ei q.high=q.high.good:=by unfold ei;rw[ai (by rw[← Dm.o];exact hk)]
  obtain⟨G,hG⟩:∃g,q.high.good=g:=⟨_,rfl⟩;have aC:=aa (ae4.o _ aZ.o);rw[hG] at aC Bx;have Bz:=aa Bx;clear hk hG Bx;go_wp2_with fail;refine aC.o.mono ?_;rintro e w5 ⟨rfl,bP⟩;have bN:=aa (aZ.o.trans bP);have QB:=aa (Hn.o.trans bP);clear bP hv;by_cases hz:G=0
  ·subst hz;go_wp2_with fail;refine(OC w5).mono ?_;rintro e w6 ⟨rfl,rfl⟩;have BE:=Bz.o;go_wp2_with fail;go_roundg gk';exact⟨2,by omega,by omega,by go_num,fun _=>aQ.o (by omega),fun _=>BE,QB.o⟩;omega
  go_wp2_with fail;refine(Vi G hz w5).mono ?_;rintro e w6 ⟨rfl,rfl⟩;go_wp2_with fail;exact⟨rfl,zB (bN.o.below.mono HM.o.le) (by unfold qK;rw[ai (by rw[HF.o];decide),iJ.o,ai Hm.o,ai (by have:=Qy.o;have:=Qz.o;omega),ai (by rw[aQ.o (by omega)];simp),aw (by rw[Bz.o];exact hz),Bz.o])⟩
 have oV:=aa (HM.o.grow aY.o);have sI:=aa (aQ.o (by omega));have QC:=aa (aG.o (by omega));have hm:=oV.o.blk.cell;obtain⟨ae6,XB,ae7⟩:=Bw.o wr aY.o;obtain⟨wl,hwl⟩:∃wl:World,wl=wr:=⟨_,rfl⟩;subst hwl;have qU:=aa (((sK.o.grow HM.o.le aY.o).r (S:=fun k=>k=mb) oV.o.le (fun k hk=>hk ▸ HM.o.lo) (fun g hg e=>by
  obtain⟨ds,r1,-⟩:=(sK.o.grow HM.o.le aY.o).ag;exact ez r1 oV.o.blk (by decide) (e ▸ hg)) (fun g hg e=>ez (sK.o.grow HM.o.le aY.o).aq oV.o.blk (by decide) (e ▸ hg)) (by omega)).ag)
 have Eb:=aa (show zo c q=c.ag by unfold zo;rw[aw uz.o]);obtain⟨ds,hds⟩:∃d,c.ag=d:=⟨_,rfl⟩;have HDS:=aa (show ∀d∈ds,d∈c.ag from fun d hd=>hds ▸ hd);rw[hds] at qU Eb XB;have al_:ds.length≤N:=hds ▸ hnd;clear hds;go_wp2_with fail;clear ae6 XB ae7 hm;go_loopg [117] (ds.length+1) (fun gk i wr=>∃(j:Nat) (A6:Option Addr) (c6:Nat) (hs:List Cv),j≤ds.length∧gk+j=ds.length+1∧i=.int .i64 j∧Kept (fun k=>k=mb) wl wr∧Blk wr mb 96 (ad9 A st.length cap q.bj q.aA q.index q.path q.unique ck cl ch cx q.n 0 A6 hs.length c6) ∧
  VR (fun k=>k=mb) wr wl.heap.size A6 c6 hs (oc c q ds j))
 exact⟨0,none,0,[],ba _,rfl,rfl,dU _ _,oV.o.blk,by
  rw[show oc c q ds 0=[] by unfold oc;simp];exact GR.nil _⟩
 obtain⟨j,A6,c6,bl,hj,hg,rfl,Ec,Ho,fE⟩:=hrel;obtain⟨gk',rfl⟩:=bS gk (by omega);have oh:=aa Ec;have sM:=aa Ho;have jJ:=aa fE;have sN:=aa (show bl.length=(oc c q ds j).length from fE.two.1);have rf:=aa (show bl.length≤j from by rw[fE.two.1];exact aeb _ _ _ _);have xO:=aa (show Below B w wr from (aY.o.below.mono HM.o.le).trans (Ec.below oV.o.le (fun k hk=>hk ▸ HM.o.lo)));have ae8:=aa (fun(W:World) (hg:Grow wr W)=>show Below B w W from xO.o.trans (hg.below.mono (bn HM.o.le xO.o.size)));clear Ec Ho fE;by_cases hlt:j<ds.length
 ·obtain⟨nW,o2,y,ha,⟨e0,e1,e2,e3,e4⟩,hy⟩:=(qU.o.mono (C':=WU (fun k=>k=mb) wr wl.heap.size) (fun p u hp=>⟨(lh oh.o (fun _ h=>h) p u hp).1,hp.2.1,hp.2.2⟩)).WV j hlt;dsimp only[kH] at ha;subst ha;have XC:=aa (show IsV (eD wr (fun q=>bw A6=some q∨q=mb)) ds[j] y from fw (fun p u hp=>⟨hp.1,df hp.2.1 oh.o.size,fun hq=>by
   rcases hq with hq | hq
   ·have:=(bO jJ.o.row p.block (by rw[bH];exact hq)).1;have:=hp.2.1;omega
   exact hp.2.2 hq⟩) _ _ hy)
  have Ed:=aa (show wr.heap.size≠mb from fun e=>by have:=sM.o.lt;omega);have d0:=e0.1;have d1:=e1.1;have d2:=e2.1;have d3:=e3.1;have d4:=e4.1;have Ea:=aa (show In wr ds[j] y from PX.lL hy oh.o.size);have Ee:=Bv.o.ag _ (HDS.o _ (aW hlt));have Ef:=aa Ee;obtain⟨i0,hi0,hK,hkey,-,-⟩:=Ee.id;have uk:=aa (Vl ds[j] y wr (wr.alloc (.cells y.cells 27)) ((ah wr).alloc _) Ea.o);rw[hi0] at uk;have Du:=aa hi0;have ae9:=(aD wr 27 y.cells).cell;clear e0 e1 e2 e3 e4 hy Ee hkey;go_wp2_with fail;refine uk.o.mono ?_;rintro e w5 ⟨bP,ci,t,u,rfl,hu,XD⟩;have xo:u=i0∧t=true:=by
   rcases XD with ⟨h,ht⟩ | ⟨h,-⟩
   ·injection h with h;exact⟨h.symm,ht⟩
   cases h
  obtain⟨rfl,rfl⟩:=xo;have HU:=aa hu;have bN:=aa (((ah wr).alloc (.cells y.cells 27)).trans bP);have ae_:=aa ((aD wr 27 y.cells).grow bP);have XE:=aa (sM.o.grow bN.o);have LI:=XE.o.cell;clear hu XD bP d0 d1 d2 d3 d4 ae9;have jK:=aa (aD w5 27 ci.cells);have dR:=aa (XE.o.alloc (.cells ci.cells 27));have bp:=aa (bN.o.alloc (.cells ci.cells 27));have jL:=aa (ae_.o.alloc (.cells ci.cells 27));have HVV:=aa (show sj q (sk c q) ds[j]=u from by unfold sj;rw[aw uz.o,Du.o];rfl);have nE:=aa (HU.o.grow bp.o);have HVC:=aa (bn (GK Du.o) Ef.o.count);have BA:=dR.o.cell;go_wp2_with fail;clear LI BA
  have HWI:=aa (fun(W:World) (hi:In W u ci) (hg:Grow wr W)=>show Calls prog 128 #[ci.agg,cl.agg,ch.agg] W fun e w'=>e=.returned (.bool (fQ (sj q (sk c q) ds[j]) q.low q.high))∧Grow W w' from by
   rw[HVV.o];have hb:=ae8.o W hg;exact acs u q.low q.high ci cl ch W (zi HVC.o hi) (zi Qv.o (HM.o.low.lL HM.o.le)) (zi Hj.o (HM.o.high.lL HM.o.le)) (HTB.o W hb).1 hi ((HM.o.low.below hb (ay _) (ay _)).lL (bn HM.o.le hb.size)) ((HM.o.high.below hb (ay _) (ay _)).lL (bn HM.o.le hb.size)))
  rcases Decidable.em (bl.length<q.n.toNat) with xP | xP
  ·have QD:(bl.length:Int)<q.n:=by omega
   have nG:=aa xP;clear xP;refine dN ?_
   refine dO (S:=fun w'=>w'.cell? ⟨mb,29,none⟩=some (.slice A6 bl.length c6)∧w'.cell? ⟨mb,26,none⟩=some (.int .i64 q.n)∧w'.cell? ⟨mb,11,none⟩=some (.int .i64 cl.k)∧w'.cell? ⟨mb,12,none⟩=some (.int .u64 cl.n)∧w'.cell? ⟨mb,13,none⟩=some (.slice cl.aB cl.nB cl.cB)∧w'.cell? ⟨mb,14,none⟩=some (.slice cl.aL cl.nL cl.cL)∧w'.cell? ⟨mb,15,none⟩=some (.slice cl.aF cl.nF cl.cF)∧w'.cell? ⟨mb,16,none⟩=some (.int .i64 ch.k)∧w'.cell? ⟨mb,17,none⟩=some (.int .u64 ch.n)∧w'.cell? ⟨mb,18,none⟩=some (.slice ch.aB ch.nB ch.cB)∧w'.cell? ⟨mb,19,none⟩=some (.slice ch.aL ch.nL ch.cL)∧w'.cell? ⟨mb,20,none⟩=some (.slice ch.aF ch.nF ch.cF)∧w'.cell? ⟨w5.heap.size,0,none⟩=some (.int .i64 ci.k)∧w'.cell? ⟨w5.heap.size,1,none⟩=some (.int .u64 ci.n)∧w'.cell? ⟨w5.heap.size,2,none⟩=some (.slice ci.aB ci.nB ci.cB)∧w'.cell? ⟨w5.heap.size,3,none⟩=some (.slice ci.aL ci.nL ci.cL)∧w'.cell? ⟨w5.heap.size,4,none⟩=some (.slice ci.aF ci.nF ci.cF)) (by kernel_rfl) (⟨dR.o.cell 29,dR.o.cell 26,dR.o.cell 11,dR.o.cell 12,dR.o.cell 13,dR.o.cell 14,dR.o.cell 15,dR.o.cell 16,dR.o.cell 17,dR.o.cell 18,dR.o.cell 19,dR.o.cell 20,jK.o.cell 0,jK.o.cell 1,jK.o.cell 2,jK.o.cell 3,jK.o.cell 4⟩) (fun hHeld=>?_)
   replace jK:=aa jK.o.drew;replace dR:=aa dR.o.drew;replace bp:=aa bp.o.drew;replace jL:=aa jL.o.drew;replace nE:=aa (nE.o.grow ((ah _).drew));generalize (w5.alloc (.cells ci.cells 27)).drew=W6 at jK dR bp jL nE hHeld ⊢;refine aj 0 ?_;refine aj 1 ?_;refine aj 2 ?_;refine aj 3 ?_;refine eB 4 ?_;refine aj 5 ?_;refine aj 6 ?_;refine aj 7 ?_;refine aj 8 ?_;refine aj 9 ?_;refine eB 10 ?_;refine aj 11 ?_;refine aj 12 ?_;refine eB 13 ?_;refine aj 14 ?_;refine aj 15 ?_;refine aj 16 ?_;refine aj 17 ?_;refine eB 18 ?_;refine aj 19 ?_;refine aj 20 ?_;refine aj 21 ?_;refine aj 22 ?_;refine eB 23 ?_;refine aK 24 (fun K hK=>?_);go_simp;go_at_call 128;refine(HWI.o W6 nE.o bp.o).mono ?_;rintro ee w7 ⟨rfl,b_⟩;replace jK:=aa (jK.o.grow b_);replace dR:=aa (dR.o.grow b_)
   replace bp:=aa (bp.o.trans b_);replace jL:=aa (jL.o.grow b_);clear b_;refine hK.out _ _ ⟨dR.o.cell 29,dR.o.cell 26,dR.o.cell 11,dR.o.cell 12,dR.o.cell 13,dR.o.cell 14,dR.o.cell 15,dR.o.cell 16,dR.o.cell 17,dR.o.cell 18,dR.o.cell 19,dR.o.cell 20,jK.o.cell 0,jK.o.cell 1,jK.o.cell 2,jK.o.cell 3,jK.o.cell 4⟩ (fun hHeld=>?_);clear hK K
   try simp only[ak]
   refine aj 25 ?_;refine cz ?_;clear hHeld QD;obtain⟨WB,QE⟩:∃b,fQ (sj q (sk c q) ds[j]) q.low q.high=b:=⟨_,rfl⟩;rw[QE];have Hp:=aa QE;clear QE
   cases WB with
   | false =>
    go_wp2_with fail;go_roundg gk';exact⟨j+1,A6,c6,bl,by omega,by omega,by go_num,oh.o.trans (gJ bp.o),dR.o,by rw[WX hlt (.inr Hp.o)];exact jJ.o.grow jI bp.o⟩;omega
   | true =>
    go_wp2_with fail;refine dN ?_;refine dO (S:=fun w'=>w'.cell? ⟨wr.heap.size,0,none⟩=some (.int .i64 y.k)∧w'.cell? ⟨wr.heap.size,1,none⟩=some (.int .u64 y.n)∧w'.cell? ⟨wr.heap.size,2,none⟩=some (.slice y.aB y.nB y.cB)∧w'.cell? ⟨wr.heap.size,3,none⟩=some (.slice y.aL y.nL y.cL)∧w'.cell? ⟨wr.heap.size,4,none⟩=some (.slice y.aF y.nF y.cF)) (by kernel_rfl) (⟨jL.o.cell 0,jL.o.cell 1,jL.o.cell 2,jL.o.cell 3,jL.o.cell 4⟩) (fun hHeld=>?_);replace dR:=aa dR.o.drew;replace bp:=aa bp.o.drew;replace jL:=aa jL.o.drew;generalize w7.drew=V at dR bp jL hHeld ⊢;obtain⟨zJ,hv0,hv1,hv2,hv3⟩:=info_parts oO;have Eg:=aa hv0;have Eh:=aa hv1;have Ei:=aa hv2;have Ej:=aa hv3;clear hv0 hv1 hv2 hv3;refine aj 0 ?_;refine aj 1 ?_;refine aj 2 ?_
    refine aj 3 ?_;refine eB 5 ?_;refine bZ [4,7] ?_;refine eK (fun K hK=>?_) (eK (fun K hK=>?_) bY)
    ·have Hq:=dR.o.cell;go_simp;refine hK.out _ _ ⟨jL.o.cell 0,jL.o.cell 1,jL.o.cell 2,jL.o.cell 3,jL.o.cell 4⟩ (fun hHeld=>?_);clear hK K Hq
     try simp only[ak]
     refine aj 6 ?_;refine aK 7 (fun K hK=>?_);go_simp;have LJ:=aa (dR.o.alloc (.cells Cv.zero.cells 27));have aZ:=aa (bp.o.alloc (.cells Cv.zero.cells 27));have ll:=aa (jL.o.alloc (.cells Cv.zero.cells 27));refine hK.out _ _ ⟨ll.o.cell 0,ll.o.cell 1,ll.o.cell 2,ll.o.cell 3,ll.o.cell 4⟩ (fun hHeld=>?_);clear hK K
     try simp only[ak]
     refine aK 8 (fun K hK=>?_);have Hr:=aa (jJ.o.grow jI aZ.o);refine jg (by rfl) (.tmp 168) (.tmp 171) 24 24 (by rfl) wl.heap.size 27 zJ _ 5 88 jv Eg.o Eh.o Ei.o Ej.o (by rfl) (.slice A6 bl.length c6) bl.length (dG bl) (by rfl) Hr.o.row _ 1 Cv.zero.cells.toList (by rfl) (Src.Qk (W:=V) Cv.zero 27 rfl) (by have:=rf.o;omega) (by simp only[maxLen];have:=rf.o;omega) (bn oh.o.size aZ.o.size) ?_;intro A7 c7 w8 cN cS kP;obtain⟨g7,QF,Hs,iK,uK,BC,Ht,uL,-,-⟩:=kL cN (by omega);subst Hs;have uM:∀k,Value.ownBlock (.slice A6 bl.length c6)=some k→wl.heap.size≤k∧k<wr.heap.size:=fun k hk=>⟨(bO jJ.o.row k hk).1,(bO jJ.o.row k hk).2⟩
     have j6:=aa iK;have aX:=aa (show g7≠wr.heap.size from by
      rw[bH,bH] at kP;rcases kP with h1 | h1
      ·have:=(uM g7 (by rw[bH,← h1];rfl)).2;omega
      have h2:g7=(V.alloc (.cells Cv.zero.cells 27)).heap.size:=mU h1;have:=ll.o.lt;omega)
     have xQ:=aa (D5 (oh.o.trans (gJ aZ.o)) cS (fun k hk=>(uM k hk).1));have nH:=aa (ll.o.own cS (fun k hk e=>by have:=(uM k hk).2;omega));have oW:=aa (LJ.o.own cS (fun k hk e=>by rw[bH,e] at hk;exact ez jJ.o.row sM.o (by decide) hk));have wF:=aa (show w8.there g7 (bl.length*5) 5 from fun k hk=>jM uK (bl.length*5+k) (by rw[uL];omega));have xR:=aa (show g7≠mb from fun e=>ez cN oW.o (by decide) (by rw[e];rfl));have QG:=aa (show (w8.setCell ⟨mb,29,none⟩ (.slice (some ⟨g7,0,none⟩) (bl.length+1) c7)).there g7 (bl.length*5) 5 from fun k hk=>jM ((Ap w8 ⟨mb,29,none⟩ _ g7 xR.o).trans uK) (bl.length*5+k) (by rw[uL];omega))
     have oX:=aa (WW (d:=y) (v:=ds[j]) Hr.o (fw (lh (gJ (S:=fun _=>False) aZ.o) fun q hq=>hq.elim) _ _ XC.o) cN rfl cS kP);clear cN cS kP uK BC Ht uL uM iK;have afa:(bl.length:Int)<(bl.length:Int)+1:=by omega
     refine hK.out _ _ ⟨nH.o.cell 0,nH.o.cell 1,nH.o.cell 2,nH.o.cell 3,nH.o.cell 4⟩ (fun hHeld=>?_);clear hK K
     try simp only[ak]
     refine aj 9 ?_;refine aj 11 ?_;refine aj 12 ?_;refine aj 13 ?_;refine bZ [10,14] ?_;refine eK (fun K hK=>?_) (eK (fun K hK=>?_) bY)
     ·rw[aw (by rfl)];refine C3 27 (.tmp 173) (.tmp 169) rfl g7 (bl.length*5) y.cells rfl rfl wF.o (by kernel_rfl) (by simp[Value.oneCell']) ?_;have eZ:=aa (jF g7 (some g7) rfl y.cells.toList w8 (bl.length*5));generalize w8.setCells g7 (bl.length*5) y.cells.toList=w9 at eZ oX ⊢;have BD:=aa (D5 xQ.o eZ.o (fun k hk=>by cases hk;exact j6.o));have l5:=aa (nH.o.own eZ.o (fun k hk e=>by cases hk;exact aX.o e));have oY:=aa (oW.o.own eZ.o (fun k hk e=>by cases hk;exact xR.o e));have BF:=oY.o.cell;have jN:=oY.o.frozen;refine hK.out _ _ ⟨l5.o.cell 0,l5.o.cell 1,l5.o.cell 2,l5.o.cell 3,l5.o.cell 4⟩ (fun hHeld=>?_);clear hK K
      try simp only[ak]
      refine aK 14 (fun K hK=>?_);go_simp;have BG:=aa (oY.o.bf 29 (.slice (some ⟨g7,0,none⟩) (bl.length+1) c7));have BH:=aa (BD.o.set (p:=⟨mb,29,none⟩) rfl (.slice (some ⟨g7,0,none⟩) (bl.length+1) c7));have jO:=aa (l5.o.far (p:=⟨mb,29,none⟩) Ed.o (.slice (some ⟨g7,0,none⟩) (bl.length+1) c7));have BI:=aa (oX.o.kept jI (qW (S:=fun k=>k=mb) (dU _ w9) (p:=⟨mb,29,none⟩) rfl (.slice (some ⟨g7,0,none⟩) (bl.length+1) c7)) (fun _ h=>h) (fun g hg e=>ez oX.o.row oY.o (by decide) (e ▸ hg)));clear BF jN;refine hK.out _ _ ⟨jO.o.cell 0,jO.o.cell 1,jO.o.cell 2,jO.o.cell 3,jO.o.cell 4⟩ (fun hHeld=>?_);clear hK K
      try simp only[ak]
      refine cz ?_;clear hHeld;go_wp2_with fail;go_roundg gk';have hl:(bl++[y]).length=bl.length+1:=by simp
      refine⟨j+1,some ⟨g7,0,none⟩,c7,bl++[y],by omega,by omega,by go_num,BH.o,by rw[hl];exact BG.o,?_⟩;rw[Lv hlt (by rw[← sN.o];exact nG.o) Hp.o];exact BI.o;omega
     have BF:=oW.o.cell;have jN:=oW.o.frozen;go_simp;clear BF jN;have uN:=aa (nH.o.far (p:=⟨mb,29,none⟩) Ed.o (.slice (some ⟨g7,0,none⟩) (bl.length+1) c7));refine hK.out _ _ ⟨uN.o.cell 0,uN.o.cell 1,uN.o.cell 2,uN.o.cell 3,uN.o.cell 4⟩ (fun hHeld=>?_);clear hK K
     try simp only[ak]
     refine aK 10 (fun K hK=>?_);rw[aw (by rfl)];refine C3 27 (.tmp 173) (.tmp 169) rfl g7 (bl.length*5) y.cells rfl rfl QG.o (by kernel_rfl) (by simp[Value.oneCell']) ?_;rw[PY (p:=⟨mb,29,none⟩) xR.o];have eZ:=aa (jF g7 (some g7) rfl y.cells.toList w8 (bl.length*5));generalize w8.setCells g7 (bl.length*5) y.cells.toList=w9 at eZ oX ⊢;have BD:=aa (D5 xQ.o eZ.o (fun k hk=>by cases hk;exact j6.o));have l5:=aa (nH.o.own eZ.o (fun k hk e=>by cases hk;exact aX.o e));have oY:=aa (oW.o.own eZ.o (fun k hk e=>by cases hk;exact xR.o e));have BG:=aa (oY.o.bf 29 (.slice (some ⟨g7,0,none⟩) (bl.length+1) c7));have BH:=aa (BD.o.set (p:=⟨mb,29,none⟩) rfl (.slice (some ⟨g7,0,none⟩) (bl.length+1) c7))
     have jO:=aa (l5.o.far (p:=⟨mb,29,none⟩) Ed.o (.slice (some ⟨g7,0,none⟩) (bl.length+1) c7));have BI:=aa (oX.o.kept jI (qW (S:=fun k=>k=mb) (dU _ w9) (p:=⟨mb,29,none⟩) rfl (.slice (some ⟨g7,0,none⟩) (bl.length+1) c7)) (fun _ h=>h) (fun g hg e=>ez oX.o.row oY.o (by decide) (e ▸ hg)));refine hK.out _ _ ⟨jO.o.cell 0,jO.o.cell 1,jO.o.cell 2,jO.o.cell 3,jO.o.cell 4⟩ (fun hHeld=>?_);clear hK K
     try simp only[ak]
     refine cz ?_;clear hHeld;go_wp2_with fail;go_roundg gk';have hl:(bl++[y]).length=bl.length+1:=by simp
     refine⟨j+1,some ⟨g7,0,none⟩,c7,bl++[y],by omega,by omega,by go_num,BH.o,by rw[hl];exact BG.o,?_⟩;rw[Lv hlt (by rw[← sN.o];exact nG.o) Hp.o];exact BI.o;omega
    go_simp;have LJ:=aa (dR.o.alloc (.cells Cv.zero.cells 27));have aZ:=aa (bp.o.alloc (.cells Cv.zero.cells 27));have ll:=aa (jL.o.alloc (.cells Cv.zero.cells 27));refine hK.out _ _ ⟨ll.o.cell 0,ll.o.cell 1,ll.o.cell 2,ll.o.cell 3,ll.o.cell 4⟩ (fun hHeld=>?_);clear hK K
    try simp only[ak]
    refine aK 4 (fun K hK=>?_);have Hq:=LJ.o.cell;go_simp;refine hK.out _ _ ⟨ll.o.cell 0,ll.o.cell 1,ll.o.cell 2,ll.o.cell 3,ll.o.cell 4⟩ (fun hHeld=>?_);clear hK K Hq
    try simp only[ak]
    refine aj 6 ?_;refine aK 8 (fun K hK=>?_);have Hr:=aa (jJ.o.grow jI aZ.o);refine jg (by rfl) (.tmp 168) (.tmp 171) 24 24 (by rfl) wl.heap.size 27 zJ _ 5 88 jv Eg.o Eh.o Ei.o Ej.o (by rfl) (.slice A6 bl.length c6) bl.length (dG bl) (by rfl) Hr.o.row _ 1 Cv.zero.cells.toList (by rfl) (Src.Qk (W:=V) Cv.zero 27 rfl) (by have:=rf.o;omega) (by simp only[maxLen];have:=rf.o;omega) (bn oh.o.size aZ.o.size) ?_;intro A7 c7 w8 cN cS kP;obtain⟨g7,QF,Hs,iK,uK,BC,Ht,uL,-,-⟩:=kL cN (by omega);subst Hs;have uM:∀k,Value.ownBlock (.slice A6 bl.length c6)=some k→wl.heap.size≤k∧k<wr.heap.size:=fun k hk=>⟨(bO jJ.o.row k hk).1,(bO jJ.o.row k hk).2⟩
    have j6:=aa iK;have aX:=aa (show g7≠wr.heap.size from by
     rw[bH,bH] at kP;rcases kP with h1 | h1
     ·have:=(uM g7 (by rw[bH,← h1];rfl)).2;omega
     have h2:g7=(V.alloc (.cells Cv.zero.cells 27)).heap.size:=mU h1;have:=ll.o.lt;omega)
    have xQ:=aa (D5 (oh.o.trans (gJ aZ.o)) cS (fun k hk=>(uM k hk).1));have nH:=aa (ll.o.own cS (fun k hk e=>by have:=(uM k hk).2;omega));have oW:=aa (LJ.o.own cS (fun k hk e=>by rw[bH,e] at hk;exact ez jJ.o.row sM.o (by decide) hk));have wF:=aa (show w8.there g7 (bl.length*5) 5 from fun k hk=>jM uK (bl.length*5+k) (by rw[uL];omega));have xR:=aa (show g7≠mb from fun e=>ez cN oW.o (by decide) (by rw[e];rfl));have QG:=aa (show (w8.setCell ⟨mb,29,none⟩ (.slice (some ⟨g7,0,none⟩) (bl.length+1) c7)).there g7 (bl.length*5) 5 from fun k hk=>jM ((Ap w8 ⟨mb,29,none⟩ _ g7 xR.o).trans uK) (bl.length*5+k) (by rw[uL];omega))
    have oX:=aa (WW (d:=y) (v:=ds[j]) Hr.o (fw (lh (gJ (S:=fun _=>False) aZ.o) fun q hq=>hq.elim) _ _ XC.o) cN rfl cS kP);clear cN cS kP uK BC Ht uL uM iK;have afa:(bl.length:Int)<(bl.length:Int)+1:=by omega
    refine hK.out _ _ ⟨nH.o.cell 0,nH.o.cell 1,nH.o.cell 2,nH.o.cell 3,nH.o.cell 4⟩ (fun hHeld=>?_);clear hK K
    try simp only[ak]
    refine aj 9 ?_;refine aj 11 ?_;refine aj 12 ?_;refine aj 13 ?_;refine bZ [10,14] ?_;refine eK (fun K hK=>?_) (eK (fun K hK=>?_) bY)
    ·rw[aw (by rfl)];refine C3 27 (.tmp 173) (.tmp 169) rfl g7 (bl.length*5) y.cells rfl rfl wF.o (by kernel_rfl) (by simp[Value.oneCell']) ?_;have eZ:=aa (jF g7 (some g7) rfl y.cells.toList w8 (bl.length*5));generalize w8.setCells g7 (bl.length*5) y.cells.toList=w9 at eZ oX ⊢;have BD:=aa (D5 xQ.o eZ.o (fun k hk=>by cases hk;exact j6.o));have l5:=aa (nH.o.own eZ.o (fun k hk e=>by cases hk;exact aX.o e));have oY:=aa (oW.o.own eZ.o (fun k hk e=>by cases hk;exact xR.o e));have BF:=oY.o.cell;have jN:=oY.o.frozen;refine hK.out _ _ ⟨l5.o.cell 0,l5.o.cell 1,l5.o.cell 2,l5.o.cell 3,l5.o.cell 4⟩ (fun hHeld=>?_);clear hK K
     try simp only[ak]
     refine aK 14 (fun K hK=>?_);go_simp;have BG:=aa (oY.o.bf 29 (.slice (some ⟨g7,0,none⟩) (bl.length+1) c7));have BH:=aa (BD.o.set (p:=⟨mb,29,none⟩) rfl (.slice (some ⟨g7,0,none⟩) (bl.length+1) c7));have jO:=aa (l5.o.far (p:=⟨mb,29,none⟩) Ed.o (.slice (some ⟨g7,0,none⟩) (bl.length+1) c7));have BI:=aa (oX.o.kept jI (qW (S:=fun k=>k=mb) (dU _ w9) (p:=⟨mb,29,none⟩) rfl (.slice (some ⟨g7,0,none⟩) (bl.length+1) c7)) (fun _ h=>h) (fun g hg e=>ez oX.o.row oY.o (by decide) (e ▸ hg)));clear BF jN;refine hK.out _ _ ⟨jO.o.cell 0,jO.o.cell 1,jO.o.cell 2,jO.o.cell 3,jO.o.cell 4⟩ (fun hHeld=>?_);clear hK K
     try simp only[ak]
     refine cz ?_;clear hHeld;go_wp2_with fail;go_roundg gk';have hl:(bl++[y]).length=bl.length+1:=by simp
     refine⟨j+1,some ⟨g7,0,none⟩,c7,bl++[y],by omega,by omega,by go_num,BH.o,by rw[hl];exact BG.o,?_⟩;rw[Lv hlt (by rw[← sN.o];exact nG.o) Hp.o];exact BI.o;omega
    have BF:=oW.o.cell;have jN:=oW.o.frozen;go_simp;clear BF jN;have uN:=aa (nH.o.far (p:=⟨mb,29,none⟩) Ed.o (.slice (some ⟨g7,0,none⟩) (bl.length+1) c7));refine hK.out _ _ ⟨uN.o.cell 0,uN.o.cell 1,uN.o.cell 2,uN.o.cell 3,uN.o.cell 4⟩ (fun hHeld=>?_);clear hK K
    try simp only[ak]
    refine aK 10 (fun K hK=>?_);rw[aw (by rfl)];refine C3 27 (.tmp 173) (.tmp 169) rfl g7 (bl.length*5) y.cells rfl rfl QG.o (by kernel_rfl) (by simp[Value.oneCell']) ?_;rw[PY (p:=⟨mb,29,none⟩) xR.o];have eZ:=aa (jF g7 (some g7) rfl y.cells.toList w8 (bl.length*5));generalize w8.setCells g7 (bl.length*5) y.cells.toList=w9 at eZ oX ⊢;have BD:=aa (D5 xQ.o eZ.o (fun k hk=>by cases hk;exact j6.o));have l5:=aa (nH.o.own eZ.o (fun k hk e=>by cases hk;exact aX.o e));have oY:=aa (oW.o.own eZ.o (fun k hk e=>by cases hk;exact xR.o e));have BG:=aa (oY.o.bf 29 (.slice (some ⟨g7,0,none⟩) (bl.length+1) c7));have BH:=aa (BD.o.set (p:=⟨mb,29,none⟩) rfl (.slice (some ⟨g7,0,none⟩) (bl.length+1) c7))
    have jO:=aa (l5.o.far (p:=⟨mb,29,none⟩) Ed.o (.slice (some ⟨g7,0,none⟩) (bl.length+1) c7));have BI:=aa (oX.o.kept jI (qW (S:=fun k=>k=mb) (dU _ w9) (p:=⟨mb,29,none⟩) rfl (.slice (some ⟨g7,0,none⟩) (bl.length+1) c7)) (fun _ h=>h) (fun g hg e=>ez oX.o.row oY.o (by decide) (e ▸ hg)));refine hK.out _ _ ⟨jO.o.cell 0,jO.o.cell 1,jO.o.cell 2,jO.o.cell 3,jO.o.cell 4⟩ (fun hHeld=>?_);clear hK K
    try simp only[ak]
    refine cz ?_;clear hHeld;go_wp2_with fail;go_roundg gk';have hl:(bl++[y]).length=bl.length+1:=by simp
    refine⟨j+1,some ⟨g7,0,none⟩,c7,bl++[y],by omega,by omega,by go_num,BH.o,by rw[hl];exact BG.o,?_⟩;rw[Lv hlt (by rw[← sN.o];exact nG.o) Hp.o];exact BI.o;omega
  have QD:¬ (bl.length:Int)<q.n:=by omega
  have afb:decide ((bl.length:Int)<q.n)=false:=by simp;omega
  have nG:=aa xP;clear xP;refine dN ?_
  refine dO (S:=fun w'=>w'.cell? ⟨mb,29,none⟩=some (.slice A6 bl.length c6)∧w'.cell? ⟨mb,26,none⟩=some (.int .i64 q.n)∧w'.cell? ⟨mb,11,none⟩=some (.int .i64 cl.k)∧w'.cell? ⟨mb,12,none⟩=some (.int .u64 cl.n)∧w'.cell? ⟨mb,13,none⟩=some (.slice cl.aB cl.nB cl.cB)∧w'.cell? ⟨mb,14,none⟩=some (.slice cl.aL cl.nL cl.cL)∧w'.cell? ⟨mb,15,none⟩=some (.slice cl.aF cl.nF cl.cF)∧w'.cell? ⟨mb,16,none⟩=some (.int .i64 ch.k)∧w'.cell? ⟨mb,17,none⟩=some (.int .u64 ch.n)∧w'.cell? ⟨mb,18,none⟩=some (.slice ch.aB ch.nB ch.cB)∧w'.cell? ⟨mb,19,none⟩=some (.slice ch.aL ch.nL ch.cL)∧w'.cell? ⟨mb,20,none⟩=some (.slice ch.aF ch.nF ch.cF)∧w'.cell? ⟨w5.heap.size,0,none⟩=some (.int .i64 ci.k)∧w'.cell? ⟨w5.heap.size,1,none⟩=some (.int .u64 ci.n)∧w'.cell? ⟨w5.heap.size,2,none⟩=some (.slice ci.aB ci.nB ci.cB)∧w'.cell? ⟨w5.heap.size,3,none⟩=some (.slice ci.aL ci.nL ci.cL)∧w'.cell? ⟨w5.heap.size,4,none⟩=some (.slice ci.aF ci.nF ci.cF)) (by kernel_rfl) (⟨dR.o.cell 29,dR.o.cell 26,dR.o.cell 11,dR.o.cell 12,dR.o.cell 13,dR.o.cell 14,dR.o.cell 15,dR.o.cell 16,dR.o.cell 17,dR.o.cell 18,dR.o.cell 19,dR.o.cell 20,jK.o.cell 0,jK.o.cell 1,jK.o.cell 2,jK.o.cell 3,jK.o.cell 4⟩) (fun hHeld=>?_)
  replace jK:=aa jK.o.drew;replace dR:=aa dR.o.drew;replace bp:=aa bp.o.drew;replace jL:=aa jL.o.drew;replace nE:=aa (nE.o.grow ((ah _).drew));generalize (w5.alloc (.cells ci.cells 27)).drew=W6 at jK dR bp jL nE hHeld ⊢;refine aj 0 ?_;refine aj 1 ?_;refine aj 2 ?_;refine aj 3 ?_;refine eB 4 ?_;refine aj 5 ?_;refine aj 6 ?_;refine aj 7 ?_;refine aj 8 ?_;refine aj 9 ?_;refine eB 10 ?_;refine aj 11 ?_;refine aj 12 ?_;refine aj 13 (v:=undef) (hy:=Or.inr ⟨by rfl,rfl⟩) ?_;refine aj 14 (v:=undef) (hy:=Or.inr ⟨by rfl,rfl⟩) ?_;refine aj 15 (v:=undef) (hy:=Or.inr ⟨by rfl,rfl⟩) ?_;refine aj 16 (v:=undef) (hy:=Or.inr ⟨by rfl,rfl⟩) ?_;refine aj 17 (v:=undef) (hy:=Or.inr ⟨by rfl,rfl⟩) ?_;refine aj 18 (v:=undef) (hy:=Or.inr ⟨by rfl,rfl⟩) ?_
  refine aj 19 (v:=undef) (hy:=Or.inr ⟨by rfl,rfl⟩) ?_;refine aj 20 (v:=undef) (hy:=Or.inr ⟨by rfl,rfl⟩) ?_;refine aj 21 (v:=undef) (hy:=Or.inr ⟨by rfl,rfl⟩) ?_;refine aj 22 (v:=undef) (hy:=Or.inr ⟨by rfl,rfl⟩) ?_;refine aj 23 (v:=undef) (hy:=Or.inr ⟨by rfl,rfl⟩) ?_;refine aj 24 (v:=undef) (hy:=Or.inr ⟨by rfl,rfl⟩) ?_;refine aj 25 ?_;refine cz ?_;clear hHeld QD afb;go_wp2_with fail;go_roundg gk';exact⟨j+1,A6,c6,bl,by omega,by omega,by go_num,oh.o.trans (gJ bp.o),dR.o,by rw[WX hlt (.inl (by rw[← sN.o];exact nG.o))];exact jJ.o.grow jI bp.o⟩;omega
 have hjl:j=ds.length:=by omega
 subst hjl;have LI:=sM.o.cell;have iU:=sM.o.frozen;go_wp2_with fail;go_end0;have HB:=sM.o.bf 28 (.int .i64 (bl.length:Int));have wG:=oh.o.set (p:=⟨mb,28,none⟩) rfl (.int .i64 (bl.length:Int));have hbl:∀k,k=mb→B≤k:=fun k hk=>hk ▸ HM.o.lo
 have hfull:oc c q ds ds.length=v_ c q:=by unfold oc v_;rw[fS,Eb.o]
 have hvk:=jJ.o.kept jI (qW (S:=fun k=>k=mb) (dU _ wr) (p:=⟨mb,28,none⟩) rfl (.int .i64 (bl.length:Int))) (fun _ h=>h) (fun g hg e=>ez jJ.o.row sM.o (by decide) (e ▸ hg));rw[hfull] at hvk;refine qN.ok (st':=st) (n:=((v_ c q).length:Int)) (ag:=v_ c q) ((aY.o.below.mono HM.o.le).trans (wG.below oV.o.le hbl)) ?_ (df oV.o.lt wG.size) (A:=A) (cap:=cap) (dA:=A6) (dc:=c6) (HB.cell 0) ?_ ((HB.cell 28).trans (by rw[sN.o,hfull];rfl)) ((HB.cell 29).trans (by rw[sN.o,hfull];rfl)) ?_
 ·unfold qK;rw[ai (by rw[HF.o];decide),iJ.o,ai Hm.o,ai (by have:=Qy.o;have:=Qz.o;omega),ai (by rw[sI.o];simp),ai (by rw[QC.o];simp)]
 ·exact oV.o.finish wG (cP.o.dl hN)
 exact VR.Lc hvk (fun g hg e=>ez hvk.row HB (by decide) (e ▸ hg)) (by have h1:=sN.o;rw[hfull] at h1;have h2:=rf.o;omega)
end

section
open Go.RowKit
theorem jx.state{w:World}{g:Nat}{T:TypeId}{A:Option Addr}{l c:Nat}(ho:Blk w g T #[.slice A l c]):jx w (fun q=>q=g):=by
 intro p u hp hc;obtain⟨g',o,pr⟩:=p;have hp':g'=g:=hp;subst hp'
 cases pr with
 | some x =>
  unfold World.cell? at hc;rw[show w.heap[g']?=_ from ho] at hc;simp at hc
 | none =>
  rw[ho.cell] at hc;have ho:o<1:=by
   rcases fh o 1 with h | h
   ·exact h
   rw[tD (by simpa using h)] at hc;cases hc
  obtain rfl:o=0:=by omega
  cases hc
  refine⟨fun n h=>?_,fun n h=>?_,fun s h=>?_⟩<;>cases h
structure D2 (bb:Bool) (W0:World) (st:List Co) (r:Rp) (d5 d9 d10 d11 d12:Bool) (y1 y2 y3 y4:Value) (W:World):Prop where
 g:Grow W0 W
 res:d5=true→∃A c dA dc,y1=.agg #[.slice A st.length c]∧y2=.agg (cO r.e r.n dA r.ag.length dc r.fL)∧dW W A c st∧(bb=true→InL W dA dc r.ag) ∧
  (d9=true→d11=true→∃g,y3=.pointer (some ⟨g,0,none⟩)∧Blk W g 44 #[.slice A st.length c])∧(d10=true→d12=true→∃g,y4=.pointer (some ⟨g,0,none⟩)∧Blk W g 31 (cO r.e r.n dA r.ag.length dc r.fL))
 bs:d9=true→∃g,y3=.pointer (some ⟨g,0,none⟩)∧W0.heap.size≤g∧g<W.heap.size∧(d11=false→Blk W g 44 #[.slice none 0 0])
 br:d10=true→∃g,y4=.pointer (some ⟨g,0,none⟩)∧W0.heap.size≤g∧g<W.heap.size∧(d12=false→Blk W g 31 #[.int .i64 0,.int .i64 0,.slice none 0 0,.int .i64 0])
 ne:d9=true→d10=true→y3≠y4
section
variable {bb:Bool} {W0 W W':World} {st:List Co} {r:Rp} {d5 d9 d10 d11 d12:Bool} {y1 y2 y3 y4:Value}
theorem D2.start(W0:World):D2 bb W0 st r false false false false false undef undef undef undef W0:=⟨ah _,fun e=>(by cases e),fun e=>(by cases e),fun e=>(by cases e),fun e=>(by cases e)⟩
theorem D2.any{st':List Co}{r':Rp}(h:D2 bb W0 st r false d9 d10 false false y1 y2 y3 y4 W):D2 bb W0 st' r' false d9 d10 false false y1 y2 y3 y4 W:=⟨h.g,fun e=>(by cases e),h.bs,h.br,h.ne⟩
theorem D2.grow(h:D2 bb W0 st r d5 d9 d10 d11 d12 y1 y2 y3 y4 W)(hg:Grow W W'):D2 bb W0 st r d5 d9 d10 d11 d12 y1 y2 y3 y4 W':=by
 refine⟨h.g.trans hg,fun e=>?_,fun e=>?_,fun e=>?_,h.ne⟩
 ·obtain⟨A,c,dA,dc,r1,r2,r3,r4,r5,r6⟩:=h.res e;refine⟨A,c,dA,dc,r1,r2,r3.grow hg,fun e=>(r4 e).grow hg,fun e1 e2=>?_,fun e1 e2=>?_⟩
  ·obtain⟨g,k1,k2⟩:=r5 e1 e2;exact⟨g,k1,k2.grow hg⟩
  obtain⟨g,k1,k2⟩:=r6 e1 e2;exact⟨g,k1,k2.grow hg⟩
 ·obtain⟨g,k1,k2,k3,k4⟩:=h.bs e;exact⟨g,k1,k2,df k3 hg.size,fun e=>(k4 e).grow hg⟩
 obtain⟨g,k1,k2,k3,k4⟩:=h.br e;exact⟨g,k1,k2,df k3 hg.size,fun e=>(k4 e).grow hg⟩
theorem D2.call(h:D2 bb W0 st r false d9 d10 false false y1 y2 y3 y4 W)(hg:Grow W W'){A dA:Option Addr}{c dc:Nat}(hs:dW W' A c st)(hd:bb=true→InL W' dA dc r.ag):D2 bb W0 st r true d9 d10 false false (.agg #[.slice A st.length c]) (.agg (cO r.e r.n dA r.ag.length dc r.fL)) y3 y4 W':=by
 have h':=h.grow hg;exact⟨h'.g,fun _=>⟨A,c,dA,dc,rfl,rfl,hs,hd,fun _ e=>(by cases e),fun _ e=>(by cases e)⟩,h'.bs,h'.br,h'.ne⟩
theorem D2.Ek(h:D2 bb W0 st r d5 false d10 false d12 y1 y2 y3 y4 W):D2 bb W0 st r d5 true d10 false d12 y1 y2 (.pointer (some ⟨W.heap.size,0,none⟩)) y4 (W.alloc (.cells #[.slice none 0 0] 44)):=by
 have h':=h.grow ((ah W).alloc (.cells #[.slice none 0 0] 44));refine⟨h'.g,fun e=>?_,fun _=>⟨_,rfl,h.g.size,by simp,fun _=>aD _ _ _⟩,h'.br,fun _ e q=>?_⟩
 ·obtain⟨A,c,dA,dc,r1,r2,r3,r4,r5,r6⟩:=h'.res e;exact⟨A,c,dA,dc,r1,r2,r3,r4,fun _ e=>(by cases e),r6⟩
 obtain⟨g,k1,k2,k3,k4⟩:=h.br e;rw[k1] at q;injection q with q;injection q with q;injection q with q;omega
theorem D2.xS(h:D2 bb W0 st r d5 d9 false d11 false y1 y2 y3 y4 W):D2 bb W0 st r d5 d9 true d11 false y1 y2 y3 (.pointer (some ⟨W.heap.size,0,none⟩)) (W.alloc (.cells #[.int .i64 0,.int .i64 0,.slice none 0 0,.int .i64 0] 31)):=by
 have h':=h.grow ((ah W).alloc (.cells #[.int .i64 0,.int .i64 0,.slice none 0 0,.int .i64 0] 31));refine⟨h'.g,fun e=>?_,h'.bs,fun _=>⟨_,rfl,h.g.size,by simp,fun _=>aD _ _ _⟩,fun e _ q=>?_⟩
 ·obtain⟨A,c,dA,dc,r1,r2,r3,r4,r5,r6⟩:=h'.res e;exact⟨A,c,dA,dc,r1,r2,r3,r4,r5,fun _ e=>(by cases e)⟩
 obtain⟨g,k1,k2,k3,k4⟩:=h.bs e;rw[k1] at q;injection q with q;injection q with q;injection q with q;omega
theorem D2.afc(h:D2 bb W0 st r true true d10 false d12 y1 y2 y3 y4 W){g:Nat}(h3:y3=.pointer (some ⟨g,0,none⟩)){A:Option Addr}{c:Nat}(h1:y1=.agg #[.slice A st.length c]):D2 bb W0 st r true true d10 true d12 y1 y2 y3 y4 (W.setCell ⟨g,0,none⟩ (.slice A st.length c)):=by
 obtain⟨g',k1,k2,k3,k4⟩:=h.bs rfl;rw[h3] at k1;injection k1 with k1;injection k1 with k1;injection k1 with k1;subst k1;have hb:=k4 rfl;have hk:Kept (fun q=>q=g) W (W.setCell ⟨g,0,none⟩ (.slice A st.length c)):=(dU (S:=fun q=>q=g) W).set (p:=⟨g,0,none⟩) rfl _;obtain⟨A',c',dA,dc,r1,r2,r3,r4,r5,r6⟩:=h.res rfl;rw[h1] at r1;simp at r1;obtain⟨rfl,rfl⟩:=r1;have hne:∀g2,d10=true→y4=.pointer (some ⟨g2,0,none⟩)→¬ g2=g:=fun g2 e q e2=>h.ne rfl e (by rw[h3,q,e2])
 refine⟨h.g.below.trans (hk.below h.g.size (fun q hq=>hq ▸ k2)),fun _=>⟨A,c,dA,dc,h1,r2,r3.bare (jx.state hb) hk,fun e=>(r4 e).bare (jx.state hb) hk,fun _ _=>⟨g,h3,hb.bf 0 _⟩,fun e1 e2=>?_⟩,fun _=>⟨g,h3,k2,df k3 hk.size,fun e=>(by cases e)⟩,fun e=>?_,h.ne⟩
 ·obtain⟨g2,q1,q2⟩:=r6 e1 e2;exact⟨g2,q1,hk.blk q2 (hne g2 e1 q1)⟩
 obtain⟨g2,q1,q2,q3,q4⟩:=h.br e;exact⟨g2,q1,q2,df q3 hk.size,fun e'=>hk.blk (q4 e') (hne g2 e q1)⟩
theorem D2.afd(h:D2 bb W0 st r true d9 true d11 false y1 y2 y3 y4 W){g:Nat}(h3:y4=.pointer (some ⟨g,0,none⟩)){dA:Option Addr}{dc:Nat}(h1:y2=.agg (cO r.e r.n dA r.ag.length dc r.fL)) :
 D2 bb W0 st r true d9 true d11 true y1 y2 y3 y4 ((((W.setCell ⟨g,0,none⟩ (.int .i64 r.e)).setCell ⟨g,1,none⟩ (.int .i64 r.n)).setCell ⟨g,2,none⟩ (.slice dA r.ag.length dc)).setCell ⟨g,3,none⟩ (.int .i64 r.fL)):=by
 obtain⟨g',k1,k2,k3,k4⟩:=h.br rfl;rw[h3] at k1;injection k1 with k1;injection k1 with k1;injection k1 with k1;subst k1;have hb:=k4 rfl;have hk:Kept (fun q=>q=g) W ((((W.setCell ⟨g,0,none⟩ (.int .i64 r.e)).setCell ⟨g,1,none⟩ (.int .i64 r.n)).setCell ⟨g,2,none⟩ (.slice dA r.ag.length dc)).setCell ⟨g,3,none⟩ (.int .i64 r.fL)):=
  ((((dU (S:=fun q=>q=g) W).set (p:=⟨g,0,none⟩) rfl _).set (p:=⟨g,1,none⟩) rfl _).set (p:=⟨g,2,none⟩) rfl _).set (p:=⟨g,3,none⟩) rfl _
 obtain⟨A,c,dA',dc',r1,r2,r3,r4,r5,r6⟩:=h.res rfl;rw[h1] at r2;simp at r2;obtain⟨rfl,rfl⟩:=r2;have hne:∀g2,d9=true→y3=.pointer (some ⟨g2,0,none⟩)→¬ g2=g:=fun g2 e q e2=>h.ne e rfl (by rw[h3,q,e2])
 refine⟨h.g.below.trans (hk.below h.g.size (fun q hq=>hq ▸ k2)),fun _=>⟨A,c,dA,dc,r1,h1,r3.bare (jx.PZ hb) hk,fun e=>(r4 e).bare (jx.PZ hb) hk,fun e1 e2=>?_,fun _ _=>⟨g,h3,(((hb.bf 0 _).bf 1 _).bf 2 _).bf 3 _⟩⟩,fun e=>?_,fun _=>⟨g,h3,k2,df k3 hk.size,fun e=>(by cases e)⟩,h.ne⟩
 ·obtain⟨g2,q1,q2⟩:=r5 e1 e2;exact⟨g2,q1,hk.blk q2 (hne g2 e1 q1)⟩
 obtain⟨g2,q1,q2,q3,q4⟩:=h.bs e;exact⟨g2,q1,q2,df q3 hk.size,fun e'=>hk.blk (q4 e') (hne g2 e q1)⟩
theorem D2.done(h:D2 bb W0 st r true true true true true y1 y2 y3 y4 W):∃A c dA dc gs gr,y1=.agg #[.slice A st.length c]∧y2=.agg (cO r.e r.n dA r.ag.length dc r.fL)∧y3=.pointer (some ⟨gs,0,none⟩)∧y4=.pointer (some ⟨gr,0,none⟩)∧W0.heap.size≤gs∧W0.heap.size≤gr∧gs≠gr∧Grow W0 W ∧
 Blk W gs 44 #[.slice A st.length c]∧Blk W gr 31 (cO r.e r.n dA r.ag.length dc r.fL)∧dW W A c st∧(bb=true→InL W dA dc r.ag):=by
 obtain⟨A,c,dA,dc,r1,r2,r3,r4,r5,r6⟩:=h.res rfl;obtain⟨gs,s1,s2⟩:=r5 rfl rfl;obtain⟨gr,t1,t2⟩:=r6 rfl rfl;obtain⟨g,k1,k2,-⟩:=h.bs rfl;obtain⟨g',l1,l2,-⟩:=h.br rfl;have e1:g=gs:=by rw[s1] at k1;injection k1 with k1;injection k1 with k1;injection k1 with k1;exact k1.symm
 have e2:g'=gr:=by rw[t1] at l1;injection l1 with l1;injection l1 with l1;injection l1 with l1;exact l1.symm
 subst e1 e2;exact⟨A,c,dA,dc,g,g',r1,r2,s1,t1,k2,l2,fun e=>h.ne rfl rfl (by rw[s1,t1,e]),h.g,s2,t2,r3,r4⟩
end
def El(bb:Bool)(w:World)(st:List Co)(r:Rp)(e:Ending)(w':World):Prop:=
 Grow w w'∧∃A c dA dc,e=.returned (.tuple #[.agg #[.slice A st.length c],.agg (cO r.e r.n dA r.ag.length dc r.fL)])∧dW w' A c st∧(bb=true→InL w' dA dc r.ag)
section
variable {P:Program} {ops:Array Oper} {Q:Exit→Act→World→Prop} {S:World→Prop}
def fR(b:Nat)(l:List Bool):Array Bool:=(List.replicate b true++l).toArray
theorem ln(b k:Nat)(l:List Bool):(fR b l).setIfInBounds (b+k) true=fR b (l.set k true):=by
 unfold fR;rw[N7,List.set_append_right _ _ (by simp)];simp
def XF:List (List Bool×List Nat):=
 [([false,false,false,false,false,false,false,false],[0,4,5]),([false,false,false,false,true,false,false,false],[0,5]),([false,false,false,false,false,true,false,false],[0,4]),([false,false,false,false,true,true,false,false],[0]),
  ([true,true,true,true,false,false,false,false],[4,5]),([true,true,true,true,true,false,false,false],[5]),([true,true,true,true,false,true,false,false],[4]),([true,true,true,true,true,true,false,false],[6]),([true,true,true,true,true,true,true,false],[7]),([true,true,true,true,true,true,true,true],[])]
def XG:List (List Bool×Nat):=
 [false,true].flatMap fun x=>[false,true].flatMap fun y=>[([true,false,false,false,x,y,false,false],1),([true,true,false,false,x,y,false,false],2),([true,true,true,false,x,y,false,false],3)]
def Hu(ops:Array Oper)(b:Nat)(l9 LK:Nat):Bool:=
 Region.noSelect ops&&XF.all (fun x=>Region.ready .any ops (fR b x.1)==x.2.map (b+·))&&XG.all (fun x=>Region.free .any ops (fR b x.1) (b+x.2)&&(Region.ready .any ops (fR b x.1)).contains (b+x.2)) &&
  (match ops[b]? with | some o=>!(o.looksAt ops).contains l9&&!(o.looksAt ops).contains LK | none=>false)
theorem BJ{a:Act}{i:Nat}{v:Value}(h:i<a.tmps.size):(a.put (some i) v).eval (.tmp i)=v:=by
 simp[Act.put,Act.eval,h]
theorem uO{a:Act}{i j:Nat}{v:Value}(h:i≠j):(a.put (some i) v).eval (.tmp j)=a.eval (.tmp j):=by
 simp[Act.put,Act.eval,Array.getD_eq_getD_getElem?,Array.getElem?_setIfInBounds_ne h]
theorem BK{a:Act}{i:Nat}{v:Value}:(a.put (some i) v).tmps.size=a.tmps.size:=by simp[Act.put]
theorem xU(a:Act){i j:Nat}(u v:Value)(h:i≠j):(a.put (some i) u).put (some j) v=(a.put (some j) v).put (some i) u:=
 Act.put_comm a u v (fun d hd e=>h (by injection hd with hd;injection e with e;rw[hd,e]))
theorem sO{i:Nat}{d:Option Tmp}{op:Op}{t:TypeId}{p:String}{af:Array Edge}{K:Act→World→Prop}{a:Act}{w w':World}{v:Value}(ho:ops[i]?=some ⟨d,op,t,p,af,none⟩)
 (hr:(execOp a.eval ⟨d,op,t,p,af,none⟩).run P w=.ok (.value v) w') (h:K (a.put d v) w'):wpOp P ops Q i K a w:=by
 refine wpOp_step ho fun K' hK=>?_
 rw[aw (by rfl)];unfold Oper.wp;rw[hr,Ko];exact hK _ _ h
theorem XH{i:Nat}{op:Op}{t:TypeId}{p:String}{af:Array Edge}{K:Act→World→Prop}{a:Act}{w w':World}(ho:ops[i]?=some ⟨none,op,t,p,af,none⟩)
 (hr:(execOp a.eval ⟨none,op,t,p,af,none⟩).run P w=.ok .skip w') (h:K a w'):wpOp P ops Q i K a w:=by
 refine wpOp_step ho fun K' hK=>?_
 rw[aw (by rfl)];unfold Oper.wp;rw[hr,Oper.upon_skip];exact hK _ _ h
theorem XI{i:Nat}{d:Option Tmp}{op:Op}{t:TypeId}{p:String}{af:Array Edge}{K:Act→World→Prop}{a:Act}{w:World}{f:FuncId}{args:Array Value}{R:Ending→World→Prop}(ho:ops[i]?=some ⟨d,op,t,p,af,none⟩)
 (hr:(execOp a.eval ⟨d,op,t,p,af,none⟩).run P w=.ok (.enter f args) w) (hC:Calls P f args w R) (h:∀e w',R e w'→∃v,e=.returned v∧K (a.put d v) w'):wpOp P ops Q i K a w:=by
 refine wpOp_step ho fun K' hK=>?_
 rw[aw (by rfl)];unfold Oper.wp;rw[hr,Oper.upon_enter];refine hC.mono fun e w' he=>?_
 obtain⟨v,rfl,hv⟩:=h e w' he;exact hK _ _ hv
end
section
variable {ops:Array Oper} {Q:Exit→Act→World→Prop} {S:World→Prop}
theorem Em{e:Operand→Value}{d:Option Tmp}{t:TypeId}{p:String}{af:Array Edge}{w:World}:(execOp e ⟨d,.alloc 44,t,p,af,none⟩).run prog w=.ok (.value (.pointer (some ⟨w.heap.size,0,none⟩))) (w.alloc (.cells #[.slice none 0 0] 44)):=by
 kernel_rfl
theorem En{e:Operand→Value}{d:Option Tmp}{t:TypeId}{p:String}{af:Array Edge}{w:World}:(execOp e ⟨d,.alloc 31,t,p,af,none⟩).run prog w=.ok (.value (.pointer (some ⟨w.heap.size,0,none⟩))) (w.alloc (.cells #[.int .i64 0,.int .i64 0,.slice none 0 0,.int .i64 0] 31)):=by
 kernel_rfl
theorem afe{x:Act}{i j:Nat}{t:TypeId}{p:String}{af:Array Edge}{w:World}{g:Nat}{A:Option Addr}{l c:Nat}(h1:x.eval (.tmp i)=.pointer (some ⟨g,0,none⟩))(h2:x.eval (.tmp j)=.agg #[.slice A l c])(hb:Blk w g 44 #[.slice none 0 0]) :
 (execOp x.eval ⟨none,.store 44 (.tmp i) (.tmp j),t,p,af,none⟩).run prog w=.ok .skip (w.setCell ⟨g,0,none⟩ (.slice A l c)):=by
 have hbc:=hb.cell;have uI:=hb.frozen;unfold execOp;dsimp only;rw[h1,h2];go_simp
theorem aff{x:Act}{i j:Nat}{t:TypeId}{p:String}{af:Array Edge}{w:World}{g:Nat}{A:Option Addr}{l c:Nat}{e n k:Int}(h1:x.eval (.tmp i)=.pointer (some ⟨g,0,none⟩))(h2:x.eval (.tmp j)=.agg (cO e n A l c k))(hb:Blk w g 31 #[.int .i64 0,.int .i64 0,.slice none 0 0,.int .i64 0]) :
 (execOp x.eval ⟨none,.store 31 (.tmp i) (.tmp j),t,p,af,none⟩).run prog w=.ok .skip ((((w.setCell ⟨g,0,none⟩ (.int .i64 e)).setCell ⟨g,1,none⟩ (.int .i64 n)).setCell ⟨g,2,none⟩ (.slice A l c)).setCell ⟨g,3,none⟩ (.int .i64 k)):=by
 have hbc:=hb.cell;have uI:=hb.frozen;unfold execOp;dsimp only;rw[h1,h2];go_simp
abbrev sP(st:List Co)(A:Option Addr)(c:Nat):Value:=.agg #[.slice A st.length c]
abbrev sQ(r:Rp)(dA:Option Addr)(dc:Nat):Value:=.agg (cO r.e r.n dA r.ag.length dc r.fL)
abbrev pA(g:Nat):Value:=.pointer (some ⟨g,0,none⟩)
def QH(bb:Bool)(W0 W:World)(st:List Co)(r:Rp)(A dA:Option Addr)(c dc gs gr:Nat):Prop:=W0.heap.size≤gs∧W0.heap.size≤gr∧gs≠gr∧Grow W0 W∧Blk W gs 44 #[.slice A st.length c]∧Blk W gr 31 (cO r.e r.n dA r.ag.length dc r.fL)∧dW W A c st∧(bb=true→InL W dA dc r.ag)
structure DoOps (ops:Array Oper) (b s5 s6 s7 s8 s9 dz:Nat) (o5:Oper):Prop where
 o5:ops[b]?=some o5∧o5.dst=some s5∧o5.guard=none
 o6:∃t p e,ops[b+1]?=some ⟨some s6,.move (.tmp s5),t,p,e,none⟩
 o7:∃t p e,ops[b+2]?=some ⟨some s7,.extract (.tmp s6) 0,t,p,e,none⟩
 o8:∃t p e,ops[b+3]?=some ⟨some s8,.extract (.tmp s6) 1,t,p,e,none⟩
 o9:∃t p e,ops[b+4]?=some ⟨some s9,.alloc 44,t,p,e,none⟩
 o10:∃t p e,ops[b+5]?=some ⟨some dz,.alloc 31,t,p,e,none⟩
 o11:∃t p e,ops[b+6]?=some ⟨none,.store 44 (.tmp s9) (.tmp s7),t,p,e,none⟩
 o12:∃t p e,ops[b+7]?=some ⟨none,.store 31 (.tmp dz) (.tmp s8),t,p,e,none⟩
def Hv(s5 s6 s7 s8 s9 dz n:Nat):Bool:=[s5,s6,s7,s8,s9,dz].all (fun s=>Nat.blt s n)&&decide ([s5,s6,s7,s8,s9,dz].Nodup)
theorem XJ{s5 s6 s7 s8 s9 dz n:Nat}(h:Hv s5 s6 s7 s8 s9 dz n=true):((s5<n∧s6<n)∧(s7<n∧s8<n)∧s9<n∧dz<n)∧(s5≠s6∧s5≠s7∧s5≠s8∧s5≠s9∧s5≠dz)∧(s6≠s7∧s6≠s8∧s6≠s9∧s6≠dz)∧(s7≠s8∧s7≠s9∧s7≠dz)∧(s8≠s9∧s8≠dz)∧s9≠dz:=by
 simp[Hv,Nat.blt_eq] at h;omega
variable {bb:Bool} {P:List Co→Rp→Prop} {b s5 s6 s7 s8 s9 dz:Nat} {o5:Oper}
abbrev uP(s5 s6 s7 s8:Nat)(y0 y1 y2:Value)(a:Act):Act:=(((a.put (some s5) y0).put (some s6) y0).put (some s7) y1).put (some s8) y2
theorem LL{s:Nat}{v y0 y1 y2:Value}{a:Act}(h5:s5≠s)(h6:s6≠s)(h7:s7≠s)(h8:s8≠s):(uP s5 s6 s7 s8 y0 y1 y2 a).put (some s) v=uP s5 s6 s7 s8 y0 y1 y2 (a.put (some s) v):=by
 unfold uP;rw[xU _ _ _ h8,xU _ _ _ h7,xU _ _ _ h6,xU _ _ _ h5]
def l6(s9 dz:Nat)(d9 d10:Bool)(y3 y4:Value)(a:Act):Act:=bif d10 then (bif d9 then a.put (some s9) y3 else a).put (some dz) y4 else (bif d9 then a.put (some s9) y3 else a)
abbrev fA(s5 s6 s7 s8:Nat)(st:List Co)(r:Rp)(A dA:Option Addr)(c dc:Nat)(x:Act):Act:=uP s5 s6 s7 s8 (.tuple #[sP st A c,sQ r dA dc]) (sP st A c) (sQ r dA dc) x
abbrev wA(ops:Array Oper)(Q:Exit→Act→World→Prop)(S:World→Prop)(n:Nat)(l:Array Bool)(a:Act)(w:World):Prop:=wpAnyH prog .any ops (NoPanic Q) S n l a w
theorem XK(H:DoOps ops b s5 s6 s7 s8 s9 dz o5)
 (wH:Hu ops b s9 dz=true) {a:Act} (hz:Hv s5 s6 s7 s8 s9 dz a.tmps.size=true)
 {W0:World} {f:FuncId} {args:Array Value} (hrun:∀W,(execOp a.eval o5).run prog W=.ok (.enter f args) W) {G:World→Prop} (hG:∀W W',G W→Grow W W'→G W') (hC:∀W,G W→Calls prog f args W (fun e w'=>∃st r,P st r∧El bb W st r e w')) (hS:∀W,Grow W0 W→S W)
 (hd:∀(st:List Co) (r:Rp) (W:World) (A dA:Option Addr) (c dc gs gr:Nat),P st r→QH bb W0 W st r A dA c dc gs gr →
  Q .normal (fA s5 s6 s7 s8 st r A dA c dc ((a.put (some s9) (pA gs)).put (some dz) (pA gr))) W)
 (d9 d10:Bool) (y3 y4:Value) (W:World) (hI:D2 bb W0 [] Rp.zero false d9 d10 false false undef undef y3 y4 W) (hg0:G W) :
 wA ops Q S (6+(bif d9 then 0 else 1)+(bif d10 then 0 else 1)) (fR b [false,false,false,false,d9,d10,false,false]) (l6 s9 dz d9 d10 y3 y4 a) W:=by
 obtain⟨⟨h5,XL,XM⟩,⟨t6,p6,e6,h6⟩,⟨t7,p7,e7,h7⟩,⟨t8,p8,e8,h8⟩,⟨t9,p9,e9,h9⟩,⟨t10,p10,e10,h10⟩,⟨t11,p11,e11,h11⟩,t12,p12,e12,h12⟩:=H;obtain⟨d5,Eo,t5,p5,e5,g5⟩:=o5;dsimp only at XL XM;subst XL XM;unfold Hu at wH;simp only[il] at wH;obtain⟨⟨⟨hns,hT⟩,hF⟩,hlk⟩:=wH;rw[h5] at hlk;simp only[il,Bool.not_eq_true',← Bool.not_eq_true] at hlk;obtain⟨LM,LN⟩:=hlk;have oZ:∀l rs,(l,rs)∈XF→Region.ready .any ops (fR b l)=rs.map (b+·):=fun l rs h=>by
  have:=nS.1 hT _ h;simpa using this
 have Hw:∀l k,(l,k)∈XG→Region.free .any ops (fR b l) (b+k)=true∧(Region.ready .any ops (fR b l)).contains (b+k)=true:=fun l k h=>by
  have:=nS.1 hF _ h;simpa using this
 obtain⟨⟨⟨z5,z6⟩,⟨z7,z8⟩,z9,z10⟩,⟨n56,n57,n58,n59,QI⟩,⟨n67,n68,n69,QJ⟩,⟨n78,QK,QL⟩,⟨QM,QN⟩,Hy⟩:=XJ hz;have XN:∀cs bb,(⟨some s5,Eo,t5,p5,e5,none⟩:Oper).op≠.select cs bb:=fun cs bb=>N8 hns b _ cs bb h5
 have afg:∀d9 d10 y3 y4 W,(execOp (l6 s9 dz d9 d10 y3 y4 a).eval ⟨some s5,Eo,t5,p5,e5,none⟩).run prog W=.ok (.enter f args) W:=fun d9 d10 y3 y4 W=>by
  have k9:∀(x:Act) y,execOp (x.put (some s9) y).eval (⟨some s5,Eo,t5,p5,e5,none⟩:Oper)=execOp x.eval (⟨some s5,Eo,t5,p5,e5,none⟩:Oper):=fun x y=>execOp_put (ops:=ops) _ XN x (some s9) y (fun d hd hm=>by injection hd with hd;subst hd;exact LM (by simpa using hm))
  have k10:∀(x:Act) y,execOp (x.put (some dz) y).eval (⟨some s5,Eo,t5,p5,e5,none⟩:Oper)=execOp x.eval (⟨some s5,Eo,t5,p5,e5,none⟩:Oper):=fun x y=>execOp_put (ops:=ops) _ XN x (some dz) y (fun d hd hm=>by injection hd with hd;subst hd;exact LN (by simpa using hm))
  unfold l6
  cases d9<;>cases d10<;>simp only[cond_true,cond_false]<;>(try rw[k10])<;>(try rw[k9])<;>exact hrun W
 have L3:∀(st:List Co) (r:Rp),P st r→∀(A dA:Option Addr) (c dc gs gr:Nat) (W:World),D2 bb W0 st r true true true true false (sP st A c) (sQ r dA dc) (pA gs) (pA gr) W →
  wA ops Q S 1 (fR b [true,true,true,true,true,true,true,false]) (fA s5 s6 s7 s8 st r A dA c dc ((a.put (some s9) (pA gs)).put (some dz) (pA gr))) W:=fun st r hp A dA c dc gs gr W hD=>by
  refine qy (oZ _ [7] (by decide)) (by simp) fun i hi=>?_
  obtain rfl:i=b+7:=by simpa using hi
  obtain⟨g,hg,-,-,hb⟩:=hD.br rfl;injection hg with hg;injection hg with hg;injection hg with hg;subst hg;refine XH h12 (aff (g:=gr) (e:=r.e) (n:=r.n) (A:=dA) (l:=r.ag.length) (c:=dc) (k:=r.fL) ?_ ?_ (hb rfl)) ?_
  ·unfold fA uP;rw[uO QN,uO QL,uO QJ,uO QI,BJ (by simp only[BK];exact z10)]
  ·unfold fA uP;rw[BJ (by simp only[BK];exact z8)]
  have eF:=hD.afd rfl rfl;refine⟨hS _ eF.g,?_⟩;rw[ln];refine wpAnyH_done (oZ _ [] (by decide)) (NoPanic.normal ?_) _;obtain⟨A',c',dA',dc',gs',gr',q1,q2,q3,q4,k1,k2,k3,k4,k5,k6,k7,k8⟩:=eF.done;injection q3 with q3;injection q3 with q3;injection q3 with q3;injection q4 with q4;injection q4 with q4;injection q4 with q4;subst q3 q4;simp only[Value.agg.injEq,Array.mk.injEq,List.cons.injEq,Value.slice.injEq,and_true,true_and] at q1;simp only[cO,Value.agg.injEq,Array.mk.injEq,List.cons.injEq,Value.slice.injEq,Value.int.injEq,and_true,true_and] at q2;obtain⟨rfl,rfl⟩:=q1;obtain⟨rfl,rfl⟩:=q2;exact hd st r _ A dA c dc gs gr hp ⟨k1,k2,k3,k4,k5,k6,k7,k8⟩
 have L2:∀(st:List Co) (r:Rp),P st r→∀(A dA:Option Addr) (c dc gs gr:Nat) (W:World),D2 bb W0 st r true true true false false (sP st A c) (sQ r dA dc) (pA gs) (pA gr) W →
  wA ops Q S 2 (fR b [true,true,true,true,true,true,false,false]) (fA s5 s6 s7 s8 st r A dA c dc ((a.put (some s9) (pA gs)).put (some dz) (pA gr))) W:=fun st r hp A dA c dc gs gr W hD=>by
  refine qy (oZ _ [6] (by decide)) (by simp) fun i hi=>?_
  obtain rfl:i=b+6:=by simpa using hi
  obtain⟨g,hg,-,-,hb⟩:=hD.bs rfl;injection hg with hg;injection hg with hg;injection hg with hg;subst hg;refine XH h11 (afe (g:=gs) (A:=A) (l:=st.length) (c:=c) ?_ ?_ (hb rfl)) ?_
  ·unfold fA uP;rw[uO QM,uO QK,uO n69,uO n59,uO (tN Hy),BJ z9]
  ·unfold fA uP;rw[uO (tN n78),BJ (by simp only[BK];exact z7)]
  have eF:=hD.afc rfl rfl;refine⟨hS _ eF.g,?_⟩;rw[ln];exact L3 st r hp A dA c dc gs gr _ eF
 have fin:∀(st:List Co) (r:Rp),P st r→∀(d9 d10:Bool) (A dA:Option Addr) (c dc:Nat) (y3 y4:Value) (W:World),D2 bb W0 st r true d9 d10 false false (sP st A c) (sQ r dA dc) y3 y4 W →
  wA ops Q S (2+(bif d9 then 0 else 1)+(bif d10 then 0 else 1)) (fR b [true,true,true,true,d9,d10,false,false]) (fA s5 s6 s7 s8 st r A dA c dc (l6 s9 dz d9 d10 y3 y4 a)) W:=by
  have tt:∀(st:List Co) (r:Rp),P st r→∀(A dA:Option Addr) (c dc:Nat) (y3 y4:Value) (W:World),D2 bb W0 st r true true true false false (sP st A c) (sQ r dA dc) y3 y4 W →
   wA ops Q S 2 (fR b [true,true,true,true,true,true,false,false]) (fA s5 s6 s7 s8 st r A dA c dc ((a.put (some s9) y3).put (some dz) y4)) W:=fun st r hp A dA c dc y3 y4 W hD=>by
   obtain⟨gs,rfl,-⟩:=hD.bs rfl;obtain⟨gr,rfl,-⟩:=hD.br rfl;exact L2 st r hp A dA c dc gs gr W hD
  have tf:∀(st:List Co) (r:Rp),P st r→∀(A dA:Option Addr) (c dc:Nat) (y3 y4:Value) (W:World),D2 bb W0 st r true true false false false (sP st A c) (sQ r dA dc) y3 y4 W →
   wA ops Q S 3 (fR b [true,true,true,true,true,false,false,false]) (fA s5 s6 s7 s8 st r A dA c dc (a.put (some s9) y3)) W:=fun st r hp A dA c dc y3 y4 W hD=>by
   refine qy (oZ _ [5] (by decide)) (by simp) fun i hi=>?_
   obtain rfl:i=b+5:=by simpa using hi
   refine sO h10 En ?_;have eF:=hD.xS;refine⟨hS _ eF.g,?_⟩;rw[ln,LL QI QJ QL QN];exact tt st r hp A dA c dc _ _ _ eF
  have ft:∀(st:List Co) (r:Rp),P st r→∀(A dA:Option Addr) (c dc:Nat) (y3 y4:Value) (W:World),D2 bb W0 st r true false true false false (sP st A c) (sQ r dA dc) y3 y4 W →
   wA ops Q S 3 (fR b [true,true,true,true,false,true,false,false]) (fA s5 s6 s7 s8 st r A dA c dc (a.put (some dz) y4)) W:=fun st r hp A dA c dc y3 y4 W hD=>by
   refine qy (oZ _ [4] (by decide)) (by simp) fun i hi=>?_
   obtain rfl:i=b+4:=by simpa using hi
   refine sO h9 Em ?_;have eF:=hD.Ek;refine⟨hS _ eF.g,?_⟩;rw[ln,LL n59 n69 QK QM,xU _ _ _ (tN Hy)];exact tt st r hp A dA c dc _ _ _ eF
  intro st r hp d9 d10 A dA c dc y3 y4 W hD
  cases d9<;>cases d10
  ·show wpAnyH _ _ _ _ _ 4 _ (uP s5 s6 s7 s8 _ _ _ a) _;refine qy (oZ _ [4,5] (by decide)) (by simp) fun i hi=>?_
   have hi':i=b+4∨i=b+5:=by simpa using hi
   rcases hi' with rfl | rfl
   ·refine sO h9 Em ?_;have eF:=hD.Ek;refine⟨hS _ eF.g,?_⟩;rw[ln,LL n59 n69 QK QM];exact tf st r hp A dA c dc _ _ _ eF
   refine sO h10 En ?_;have eF:=hD.xS;refine⟨hS _ eF.g,?_⟩;rw[ln,LL QI QJ QL QN];exact ft st r hp A dA c dc _ _ _ eF
  ·exact ft st r hp A dA c dc y3 y4 W hD
  ·exact tf st r hp A dA c dc y3 y4 W hD
  exact tt st r hp A dA c dc y3 y4 W hD
 have xV:∀(d9 d10:Bool) (y3 y4:Value) (W:World),D2 bb W0 [] Rp.zero false d9 d10 false false undef undef y3 y4 W→G W →
  wpOp prog ops (NoPanic Q) b (fun a' w'=>S w'∧wA ops Q S (5+(bif d9 then 0 else 1)+(bif d10 then 0 else 1)) ((fR b [false,false,false,false,d9,d10,false,false]).setIfInBounds b true) a' w') (l6 s9 dz d9 d10 y3 y4 a) W:=fun d9 d10 y3 y4 W hD hg0=>by
  refine XI h5 (afg d9 d10 y3 y4 W) (hC W hg0) fun e w' he=>?_
  obtain⟨st,r,hp,hg,A,c,dA,dc,rfl,hs,hl⟩:=he;have eF:=(hD.any (st':=st) (r':=r)).call hg hs hl;refine⟨_,rfl,hS _ eF.g,?_⟩;have QO:(l6 s9 dz d9 d10 y3 y4 a).tmps.size=a.tmps.size:=by unfold l6;cases d9<;>cases d10<;>simp[BK]
  have e0:=ln b 0 [false,false,false,false,d9,d10,false,false];rw[gf] at e0;rw[e0];clear e0;have f1:=Hw [true,false,false,false,d9,d10,false,false] 1 (by cases d9<;>cases d10<;>decide);have f2:=Hw [true,true,false,false,d9,d10,false,false] 2 (by cases d9<;>cases d10<;>decide);have f3:=Hw [true,true,true,false,d9,d10,false,false] 3 (by cases d9<;>cases d10<;>decide);have iL:5+(bif d9 then 0 else 1)+(bif d10 then 0 else 1)=(2+(bif d9 then 0 else 1)+(bif d10 then 0 else 1))+1+1+1:=by omega
  rw[iL];refine mr (i:=b+1) (v:=.tuple #[sP st A c,sQ r dA dc]) h6 hns f1.1 f1.2 (fun _ _ _ h=>h) (Or.inl ⟨by rfl,fun w _=>?_⟩) (hS _ eF.g) ?_
  ·unfold execOp;dsimp only;rw[BJ (by rw[QO];exact z5)];rfl
  rw[ln];refine mr (i:=b+2) (v:=sP st A c) h7 hns f2.1 f2.2 (fun _ _ _ h=>h) (Or.inl ⟨by rfl,fun w _=>?_⟩) (hS _ eF.g) ?_
  ·unfold execOp;dsimp only;rw[BJ (by rw[BK,QO];exact z6)];rfl
  rw[ln];refine mr (i:=b+3) (v:=sQ r dA dc) h8 hns f3.1 f3.2 (fun _ _ _ h=>h) (Or.inl ⟨by rfl,fun w _=>?_⟩) (hS _ eF.g) ?_
  ·unfold execOp;dsimp only;rw[uO (tN n67),BJ (by rw[BK,QO];exact z6)];rfl
  rw[ln];exact fin st r hp d9 d10 A dA c dc y3 y4 w' eF
 have QP:∀(y3 y4:Value) (W:World),D2 bb W0 [] Rp.zero false true true false false undef undef y3 y4 W→G W→wA ops Q S 6 (fR b [false,false,false,false,true,true,false,false]) (l6 s9 dz true true y3 y4 a) W:=fun y3 y4 W hD hg0=>by
  refine qy (oZ _ [0] (by decide)) (by simp) fun i hi=>?_
  obtain rfl:i=b:=by simpa using hi
  exact xV true true y3 y4 W hD hg0
 have XO:∀(y3 y4:Value) (W:World),D2 bb W0 [] Rp.zero false true false false false undef undef y3 y4 W→G W→wA ops Q S 7 (fR b [false,false,false,false,true,false,false,false]) (l6 s9 dz true false y3 y4 a) W:=fun y3 y4 W hD hg0=>by
  refine qy (oZ _ [0,5] (by decide)) (by simp) fun i hi=>?_
  have hi':i=b∨i=b+5:=by simpa using hi
  rcases hi' with rfl | rfl
  ·exact xV true false y3 y4 W hD hg0
  refine sO h10 En ?_;have eF:=hD.xS;refine⟨hS _ eF.g,?_⟩;rw[ln];exact QP _ _ _ eF (hG _ _ hg0 ((ah W).alloc _))
 have XP:∀(y3 y4:Value) (W:World),D2 bb W0 [] Rp.zero false false true false false undef undef y3 y4 W→G W→wA ops Q S 7 (fR b [false,false,false,false,false,true,false,false]) (l6 s9 dz false true y3 y4 a) W:=fun y3 y4 W hD hg0=>by
  refine qy (oZ _ [0,4] (by decide)) (by simp) fun i hi=>?_
  have hi':i=b∨i=b+4:=by simpa using hi
  rcases hi' with rfl | rfl
  ·exact xV false true y3 y4 W hD hg0
  refine sO h9 Em ?_;have eF:=hD.Ek;refine⟨hS _ eF.g,?_⟩;rw[ln];show wpAnyH _ _ _ _ _ 6 _ ((a.put (some dz) y4).put (some s9) _) _;rw[xU _ _ _ (tN Hy)];exact QP _ _ _ eF (hG _ _ hg0 ((ah W).alloc _))
 cases d9<;>cases d10
 ·show wpAnyH _ _ _ _ _ 8 _ a _;refine qy (oZ _ [0,4,5] (by decide)) (by simp) fun i hi=>?_
  have hi':i=b∨i=b+4∨i=b+5:=by simpa using hi
  rcases hi' with rfl | rfl | rfl
  ·exact xV false false y3 y4 W hI hg0
  ·refine sO h9 Em ?_;have eF:=hI.Ek;refine⟨hS _ eF.g,?_⟩;rw[ln];exact XO _ _ _ eF (hG _ _ hg0 ((ah W).alloc _))
  refine sO h10 En ?_;have eF:=hI.xS;refine⟨hS _ eF.g,?_⟩;rw[ln];exact XP _ _ _ eF (hG _ _ hg0 ((ah W).alloc _))
 ·exact XP _ _ _ hI hg0
 ·exact XO _ _ _ hI hg0
 exact QP _ _ _ hI hg0
theorem afh{listed:Array Bool}{fuel:Nat}(hn:fuel=8)(hl:listed=fR b [false,false,false,false,false,false,false,false])(H:DoOps ops b s5 s6 s7 s8 s9 dz o5)
 (wH:Hu ops b s9 dz=true) {a:Act} (hz:Hv s5 s6 s7 s8 s9 dz a.tmps.size=true)
 {W0:World} {f:FuncId} {args:Array Value} (hrun:∀W,(execOp a.eval o5).run prog W=.ok (.enter f args) W) (hC:∀W,Grow W0 W→Calls prog f args W (fun e w'=>∃st r,P st r∧El bb W st r e w')) (hS:∀W,Grow W0 W→S W)
 (hd:∀(st:List Co) (r:Rp) (W:World) (A dA:Option Addr) (c dc gs gr:Nat),P st r→QH bb W0 W st r A dA c dc gs gr →
  Q .normal (fA s5 s6 s7 s8 st r A dA c dc ((a.put (some s9) (pA gs)).put (some dz) (pA gr))) W) :
 wA ops Q S fuel listed a W0:=by
 subst hn hl;exact XK H wH hz hrun (G:=fun W=>Grow W0 W) (fun _ _ h k=>h.trans k) hC hS hd false false undef undef W0 (D2.start W0) (ah W0)
theorem afi(c:Nat)(l:List Bool):fR c (true::true::l)=fR (c+2) l:=by
 unfold fR;congr 1;rw[List.replicate_succ',List.replicate_succ',nQ,nQ];rfl
def XQ:List (List Bool×List Nat):=
 [([false,false,false,false,false,false,false,false,false,false],[0,6,7]),([false,false,false,false,false,false,true,false,false,false],[0,7]),([false,false,false,false,false,false,false,true,false,false],[0,6]),([false,false,false,false,false,false,true,true,false,false],[0])]
def XR:List (List Bool×Nat):=[false,true].flatMap fun x=>[false,true].map fun y=>([true,false,false,false,false,false,x,y,false,false],1)
def XS(ops:Array Oper)(c:Nat)(l9 LK:Nat):Bool:=
 XQ.all (fun x=>Region.ready .any ops (fR c x.1)==x.2.map (c+·))&&XR.all (fun x=>Region.free .any ops (fR c x.1) (c+x.2)&&(Region.ready .any ops (fR c x.1)).contains (c+x.2)) &&
  (match ops[c]? with | some o=>!(o.looksAt ops).contains l9&&!(o.looksAt ops).contains LK | none=>false)&&(match ops[c+1]? with | some o=>!(o.looksAt ops).contains l9&&!(o.looksAt ops).contains LK | none=>false)
theorem afj{c s1 s2:Nat}{XT XU:Op}{t1 t2:TypeId}{p1 p2:String}{e1 e2:Array Edge}{listed:Array Bool}{fuel:Nat}(hn:fuel=10)(hl:listed=fR c [false,false,false,false,false,false,false,false,false,false])(hb:b=c+2)
 (h1:ops[c]?=some ⟨some s1,XT,t1,p1,e1,none⟩) (h2:ops[c+1]?=some ⟨some s2,XU,t2,p2,e2,none⟩) (H:DoOps ops b s5 s6 s7 s8 s9 dz o5)
 (QQ:XS ops c s9 dz=true) (wH:Hu ops b s9 dz=true) {a:Act} (hz:Hv s5 s6 s7 s8 s9 dz a.tmps.size=true) (tV:(s1≠s9∧s1≠dz)∧s2≠s9∧s2≠dz)
 {W0:World} {f1:FuncId} {QR:Array Value} (hS:∀W,Grow W0 W→S W) (afk:∀W,(execOp a.eval ⟨some s1,XT,t1,p1,e1,none⟩).run prog W=.ok (.enter f1 QR) W)
 (Vx:∀W,Grow W0 W→Calls prog f1 QR W fun e W'=>∃(v v2:Value) (f:FuncId) (args:Array Value),e=.returned v∧Grow W W'∧(∀W,(execOp (a.put (some s1) v).eval ⟨some s2,XU,t2,p2,e2,none⟩).run prog W=.ok (.value v2) W) ∧
  (∀W,(execOp ((a.put (some s1) v).put (some s2) v2).eval o5).run prog W=.ok (.enter f args) W)∧(∀W2,Grow W' W2→Calls prog f args W2 (fun e w'=>∃st r,P st r∧El bb W2 st r e w')) ∧
  (∀(st:List Co) (r:Rp) (W:World) (A dA:Option Addr) (c dc gs gr:Nat),P st r→QH bb W0 W st r A dA c dc gs gr →
  Q .normal (fA s5 s6 s7 s8 st r A dA c dc ((((a.put (some s1) v).put (some s2) v2).put (some s9) (pA gs)).put (some dz) (pA gr))) W)) :
 wA ops Q S fuel listed a W0:=by
 subst hn hl hb;have hns:Region.noSelect ops=true:=by
  unfold Hu at wH;simp only[il] at wH;exact wH.1.1.1
 unfold XS at QQ;simp only[il] at QQ;obtain⟨⟨⟨hT,hF⟩,LP⟩,hlk2⟩:=QQ;rw[h1] at LP;rw[h2] at hlk2;simp only[il,Bool.not_eq_true',← Bool.not_eq_true] at LP hlk2;have oZ:∀l rs,(l,rs)∈XQ→Region.ready .any ops (fR c l)=rs.map (c+·):=fun l rs h=>by
  have:=nS.1 hT _ h;simpa using this
 have Hw:∀l k,(l,k)∈XR→Region.free .any ops (fR c l) (c+k)=true∧(Region.ready .any ops (fR c l)).contains (c+k)=true:=fun l k h=>by
  have:=nS.1 hF _ h;simpa using this
 obtain⟨⟨n19,n1a⟩,n29,n2a⟩:=tV;have Hy:=(XJ hz).2.2.2.2.2;obtain⟨t9,p9,e9,h9⟩:=H.o9;obtain⟨t10,p10,e10,h10⟩:=H.o10;rw[show c+2+4=c+6 from rfl] at h9;rw[show c+2+5=c+7 from rfl] at h10;have XV:∀(o:Oper) (hs:∀cs bb,o.op≠.select cs bb) (LM:¬ (o.looksAt ops).contains s9=true) (LN:¬ (o.looksAt ops).contains dz=true) d9 d10 y3 y4 (x:Act),execOp (l6 s9 dz d9 d10 y3 y4 x).eval o=execOp x.eval o:=fun o hs LM LN d9 d10 y3 y4 x=>by
  have k9:∀(x:Act) y,execOp (x.put (some s9) y).eval o=execOp x.eval o:=fun x y=>execOp_put (ops:=ops) _ hs x (some s9) y (fun d hd hm=>by injection hd with hd;subst hd;exact LM (by simpa using hm))
  have k10:∀(x:Act) y,execOp (x.put (some dz) y).eval o=execOp x.eval o:=fun x y=>execOp_put (ops:=ops) _ hs x (some dz) y (fun d hd hm=>by injection hd with hd;subst hd;exact LN (by simpa using hm))
  unfold l6
  cases d9<;>cases d10<;>simp only[cond_true,cond_false]<;>(try rw[k10])<;>(try rw[k9])
 have XW:∀(s:Nat) (v:Value) d9 d10 y3 y4 (x:Act),s≠s9→s≠dz→(l6 s9 dz d9 d10 y3 y4 x).put (some s) v=l6 s9 dz d9 d10 y3 y4 (x.put (some s) v):=fun s v d9 d10 y3 y4 x q9 zL=>by
  unfold l6
  cases d9<;>cases d10<;>simp only[cond_true,cond_false]<;>(try rw[xU _ _ _ (tN zL)])<;>(try rw[xU _ _ _ (tN q9)])
 have xV:∀(d9 d10:Bool) (y3 y4:Value) (W:World),D2 bb W0 [] Rp.zero false d9 d10 false false undef undef y3 y4 W →
  wpOp prog ops (NoPanic Q) c (fun a' w'=>S w'∧wA ops Q S (7+(bif d9 then 0 else 1)+(bif d10 then 0 else 1)) ((fR c [false,false,false,false,false,false,d9,d10,false,false]).setIfInBounds c true) a' w') (l6 s9 dz d9 d10 y3 y4 a) W:=fun d9 d10 y3 y4 W hD=>by
  refine XI h1 (by rw[XV _ (fun cs bb=>N8 hns c _ cs bb h1) LP.1 LP.2];exact afk W) (Vx W hD.g) fun e w' he=>?_
  obtain⟨v,v2,f,args,rfl,hg,hy,hr,hC,hd⟩:=he;refine⟨_,rfl,hS _ (hD.g.trans hg),?_⟩;have e0:=ln c 0 [false,false,false,false,false,false,d9,d10,false,false];rw[gf] at e0;rw[e0];clear e0;have f1:=Hw [true,false,false,false,false,false,d9,d10,false,false] 1 (by cases d9<;>cases d10<;>decide);have iL:7+(bif d9 then 0 else 1)+(bif d10 then 0 else 1)=(6+(bif d9 then 0 else 1)+(bif d10 then 0 else 1))+1:=by omega
  rw[iL,XW _ _ _ _ _ _ _ n19 n1a];refine mr (i:=c+1) (v:=v2) h2 hns f1.1 f1.2 (fun _ _ _ h=>h) (Or.inl ⟨by rfl,fun w _=>?_⟩) (hS _ (hD.g.trans hg)) ?_
  ·rw[XV _ (fun cs bb=>N8 hns (c+1) _ cs bb h2) hlk2.1 hlk2.2];exact hy w
  dsimp only;rw[XW _ _ _ _ _ _ _ n29 n2a,ln];show wpAnyH _ _ _ _ _ _ (fR c (true::true::[false,false,false,false,d9,d10,false,false])) _ _;rw[afi];exact XK H wH (by simp only[BK];exact hz) hr (G:=fun W=>Grow w' W) (fun _ _ h k=>h.trans k) hC hS hd d9 d10 y3 y4 w' (hD.grow hg) (ah w')
 have tt:∀(y3 y4:Value) (W:World),D2 bb W0 [] Rp.zero false true true false false undef undef y3 y4 W→wA ops Q S 8 (fR c [false,false,false,false,false,false,true,true,false,false]) (l6 s9 dz true true y3 y4 a) W:=fun y3 y4 W hD=>by
  refine qy (oZ _ [0] (by decide)) (by simp) fun i hi=>?_
  obtain rfl:i=c:=by simpa using hi
  exact xV true true y3 y4 W hD
 have tf:∀(y3 y4:Value) (W:World),D2 bb W0 [] Rp.zero false true false false false undef undef y3 y4 W→wA ops Q S 9 (fR c [false,false,false,false,false,false,true,false,false,false]) (l6 s9 dz true false y3 y4 a) W:=fun y3 y4 W hD=>by
  refine qy (oZ _ [0,7] (by decide)) (by simp) fun i hi=>?_
  have hi':i=c∨i=c+7:=by simpa using hi
  rcases hi' with rfl | rfl
  ·exact xV true false y3 y4 W hD
  refine sO h10 En ?_;have eF:=hD.xS;refine⟨hS _ eF.g,?_⟩;rw[ln];exact tt _ _ _ eF
 have ft:∀(y3 y4:Value) (W:World),D2 bb W0 [] Rp.zero false false true false false undef undef y3 y4 W→wA ops Q S 9 (fR c [false,false,false,false,false,false,false,true,false,false]) (l6 s9 dz false true y3 y4 a) W:=fun y3 y4 W hD=>by
  refine qy (oZ _ [0,6] (by decide)) (by simp) fun i hi=>?_
  have hi':i=c∨i=c+6:=by simpa using hi
  rcases hi' with rfl | rfl
  ·exact xV false true y3 y4 W hD
  refine sO h9 Em ?_;have eF:=hD.Ek;refine⟨hS _ eF.g,?_⟩;rw[ln];show wpAnyH _ _ _ _ _ 8 _ ((a.put (some dz) y4).put (some s9) _) _;rw[xU _ _ _ (tN Hy)];exact tt _ _ _ eF
 refine qy (oZ _ [0,6,7] (by decide)) (by simp) fun i hi=>?_
 have hi':i=c∨i=c+6∨i=c+7:=by simpa using hi
 have hI:=D2.start (bb:=bb) (st:=[]) (r:=Rp.zero) W0;rcases hi' with rfl | rfl | rfl
 ·exact xV false false undef undef W0 hI
 ·refine sO h9 Em ?_;have eF:=hI.Ek;refine⟨hS _ eF.g,?_⟩;rw[ln];exact tf _ undef _ eF
 refine sO h10 En ?_;have eF:=hI.xS;refine⟨hS _ eF.g,?_⟩;rw[ln];exact ft undef _ _ eF
end
end
abbrev XX:=@jx.state
end Go.Proofs.YtndjopkdbdcmdaaGreatDoor
