/- Part 16 of the proof of pgets_card. -/
import Derived.Test.YtndjopkdbdcmdaaGreatDoorPge14
set_option linter.unusedVariables false
set_option linter.unusedSimpArgs false
set_option maxRecDepth 100000
set_option maxHeartbeats 12800000
open Go.Proofs.Tryz
open Go.RowKit
namespace Go.Proofs.YtndjopkdbdcmdaaGreatDoor
variable {A A5:Option Addr}{B N c g lo mb vb:Nat}{C:Addr→Value→Prop}{F:Func}{P:Program}{Q:Exit→Act→World→Prop}{S:Nat→Prop}{W w w' w0 w5:World}{a:Act}{af:Array Edge}{ag:List V}{ch ck cl cx:Cv}{cs tmps:Array Value}{es:List Cc}{hs:List Cv}{ops:Array Oper}{p:String}{q:Rq}{rest:List Oper}{st:List Co}{t:TypeId}{u:Value}{x y:Operand}
theorem af0(N B mb cap:Nat)(A:Option Addr)(es:List Cc)(st:List Co)(q:Rq)(ck cl ch cx:Cv)(w:World)(h:dm w B mb A cap es st q ck cl ch cx)(hok:cz N st)(hN:N≤1000000) :
 Calls prog 80 #[.pointer (some ⟨mb,0,none⟩)] w (nJ w B mb (BO st q)):=by
 have hs:st.length≤140737488355328:=yt hok;have HM:=aa h;have bD:=aa hok
 cases hf:cr (aP st) q.aw with
 | false =>
  have HC:=aa (zL h hs hf);have HF:=aa hf;clear h hok hf;go_enter func80,ntmps80;go_wp2_with fail;refine HC.o.mono ?_;rintro e w1 ⟨rfl,hg⟩;go_wp2_with fail;exact⟨rfl,pO (hg.below.mono HM.o.le) (by unfold BO;rw[aD HF.o])⟩
 | true =>
  obtain⟨gb,hA,hgb,hgl,hne⟩:=h.gb hf;have HC:=aa (yr h hs hf hA);have hlt:=(iC hf).2.2.2;have LR:=hok.n;have HF:=aa hf;have jx:=aa hgb;have bS:=aa hne;have lf:=aa hA;have jn:=aa (fun w1 (hg:Grow w w1)=>Xq (h.grow hg) hs);rw[hf] at jn;have ED:=aa (fun w1 (hg:Grow w w1)=>af1 B st.length (bg (aP st) q.aw) cap A (cY es) w1 (Ei es) (kG h.own.row hg) hlt (by omega));obtain⟨P,hP⟩:∃P,bg (aP st) q.aw=P:=⟨_,rfl⟩;have HP:=aa hP;rw[hP] at HC jn ED hlt;have fQ:=aa hlt;clear h hok hf hP hgl hlt hA hgb hne;go_enter func80,ntmps80;go_wp2_with fail;refine HC.o.mono ?_;rintro e w1 ⟨rfl,hg⟩;have HG:=aa hg;clear hg;go_wp2_with fail;refine(jn.o w1 HG.o).mono ?_;rintro e w2 ⟨rfl,hg2⟩;have HG2:=aa (HG.o.trans hg2);have iT:=aa (HM.o.grow HG2.o)
  have hm:=iT.o.blk.cell;have hPi:IntKind.i64.wrap ((P:Int)+1)=(P:Int)+1:=by have:=fQ.o;rw[df];omega
  clear hg2;go_wp2_with fail;refine(ED.o w2 HG2.o).mono ?_;rintro e w3 ⟨rfl,hown,hgr⟩;have hb3:=iT.o.blk.own hgr (fun k hk e=>by rw[bj,e] at hk;exact iT.o.Cf hk);have bn:=aa hb3;have HOWN:=aa hown;have aJ:=aa hgr;have Yi:=hb3.cell;have hf3:=hb3.frozen;clear hown hgr hb3 hm;go_wp2_with fail;go_end0;have hlen:(cT st P).length=st.length-1:=PX fQ.o;have HB:=bn.o.aY 0 (.slice A (st.length-1) cap);have lT:Kept (fun q=>q=mb∨q=gb) w2 (w3.setCell ⟨mb,0,none⟩ (.slice A (st.length-1) cap)):=
   ((pM aJ.o).mono (fun k hk=>.inr (by rw[bj,lf.o] at hk;cases hk;rfl))).set (p:=⟨mb,0,none⟩) (.inl rfl) _
  have Yj:B≤w2.heap.size:=iT.o.le;have tR:∀k,(k=mb∨k=gb)→B≤k:=fun k hk=>by rcases hk with rfl | rfl;exact HM.o.lo;exact jx.o
  refine wY (ag:=[]) (st':=cT st P) ((HG2.o.below.mono HM.o.le).trans (lT.below Yj tR)) (by unfold BO;rw[ak (by rw[HF.o];decide),HP.o]) HB.lt (A:=A) (cap:=cap) (dA:=none) (dc:=0) ((HB.cell 0).trans (by rw[hlen];rfl)) ?_ (HB.cell 28) (HB.cell 29) (vo _);refine Ql (iT.o.own.two.del P) lT Yj tR (iT.o.Qm lf.o (by have:=fQ.o;omega)) (fun c hc=>bD.o.dl hN c (GK hc)) ?_;have hrow:=fG HOWN.o (mr (S:=fun q=>q=mb) (cZ _ w3) (p:=⟨mb,0,none⟩) rfl (.slice A (st.length-1) cap)) (fun g hg e=>iT.o.Cf (e ▸ hg));rw[hlen];rw[show cY (cT es P)=(cY es).take (P*3)++(cY es).drop ((P+1)*3) from (PJ _ 3 (fun _=>rfl) es P).symm];exact hrow
theorem af2{cap P c5:Nat}(h0:dm w B mb A cap es st q ck cl ch cx)(h:dm W B mb A cap es st q ck cl ch cx)(hP:bg (aP st) q.aw=P)(hg:Grow w W)(hok:cz N st)(hN:N≤1000000)
 (hE:qK st q=.ok (cD st (bg (aP st) q.aw) ⟨q.aw,[],[]⟩,0,[])) (hle:P≤st.length)
 (dG:Blk w5 mb 96 (Ce A st.length cap q.aM q.aw q.index q.path q.unique ck cl ch cx q.n))
 (hown:w5.ownsRow B 48 3 (.slice A5 (st.length+1) c5) (st.length+1) ((cY es).take (P*3)++(Cc.cells ⟨q.aw,none,0,0,none,0,0⟩).toList++(cY es).drop (P*3)))
 (hgr:(W.alloc (.cells (Cc.cells ⟨q.aw,none,0,0,none,0,0⟩) 48)).grownBy w5 (Value.ownBlock (.slice A st.length cap)))
 (hat:Value.ownBlock (.slice A5 (st.length+1) c5)=Value.ownBlock (.slice A st.length cap)∨Value.ownBlock (.slice A5 (st.length+1) c5)=some (W.alloc (.cells (Cc.cells ⟨q.aw,none,0,0,none,0,0⟩) 48)).heap.size) :
 nJ w B mb (qK st q) (.returned (.tuple #[])) (w5.setCell ⟨mb,0,none⟩ (.slice A5 (st.length+1) c5)):=by
 have ko:=(ah W).alloc (.cells (Cc.cells ⟨q.aw,none,0,0,none,0,0⟩) 48);have hA:=h.grow ko;have hlen:(cD st P (⟨q.aw,[],[]⟩:Co)).length=st.length+1:=qM;have HB:=dG.aY 0 (.slice A5 (st.length+1) c5);rw[bj] at hgr;rw[bj,bj] at hat
 have lT:Kept (fun k=>k=mb∨ba A=some k) (W.alloc (.cells (Cc.cells ⟨q.aw,none,0,0,none,0,0⟩) 48)) (w5.setCell ⟨mb,0,none⟩ (.slice A5 (st.length+1) c5)):=
  ((pM hgr).mono (fun k hk=>.inr hk)).set (p:=⟨mb,0,none⟩) (.inl rfl) _
 have tR:∀k,(k=mb∨ba A=some k)→B≤k:=fun k hk=>by
  rcases hk with rfl | hk
  ·exact h.lo
  exact(bJ h.own.row k (by rw[bj];exact hk)).1
 have af3:ba A5≠some mb:=fun e=>by
  rcases hat with hat | hat
  ·rw[hat] at e;exact h.Cf e
  rw[hat] at e;injection e with e;have:=hA.lt;omega
 refine wY (ag:=[]) (st':=cD st P ⟨q.aw,[],[]⟩) (((hg.trans ko).below.mono h0.le).trans (lT.below hA.le tR)) (by rw[hE,hP]) HB.lt (A:=A5) (cap:=c5) (dA:=none) (dc:=0) ((HB.cell 0).trans (by rw[hlen];rfl)) ?_ (HB.cell 28) (HB.cell 29) (vo _);refine Ql (S:=fun k=>k=mb∨ba A=some k) ((hA.own.two).ins P (a:=⟨q.aw,none,0,0,none,0,0⟩) ⟨rfl,rfl,rfl,⟨[],jb _ _ _ _,Two.nil⟩,jb _ _ _ _⟩) lT hA.le tR ?_ (fun c hc=>?_) ?_
 ·rintro k (rfl | hk)
  ·exact⟨_,_,hA.blk,by decide,by decide⟩
  rcases hA.own.row.2 with ⟨e,-⟩ | ⟨g,cp,cur,e,-,hgg,-⟩
  ·injection e with e;rw[e] at hk;cases hk
  injection e with e;rw[e] at hk;cases hk;exact⟨_,_,hgg,by decide,by decide⟩
 ·rcases Em.1 hc with rfl | hc
  ·exact aR _
  exact hok.dl hN c hc
 have hrow:=fG hown (mr (S:=fun q=>q=mb) (cZ _ w5) (p:=⟨mb,0,none⟩) rfl (.slice A5 (st.length+1) c5)) (fun g hg e=>af3 (e ▸ hg));rw[hlen];rw[show cY (cD es P ⟨q.aw,none,0,0,none,0,0⟩)=(cY es).take (P*3)++(Cc.cells ⟨q.aw,none,0,0,none,0,0⟩).toList++(cY es).drop (P*3) from (PK _ 3 (fun _=>rfl) es P _).symm];exact hrow
theorem af4(N B mb cap:Nat)(A:Option Addr)(es:List Cc)(st:List Co)(q:Rq)(ck cl ch cx:Cv)(w:World)(h:dm w B mb A cap es st q ck cl ch cx)(hok:cz N st)(hN:N≤1000000)(hT:dz w) :
 Calls prog 79 #[.pointer (some ⟨mb,0,none⟩)] w (nJ w B mb (qK st q)):=by
 have hs:st.length≤140737488355328:=yt hok;have HM:=aa h;have bD:=aa hok;have H16:=aa hok.n;have G7:=aa (QP q.aw w hT);have jn:=aa (fun w1 (hg:Grow w w1)=>Xq (h.grow hg) hs);have hm:=h.blk.cell;have Yk:=aa (show bg (aP st) q.aw≤st.length from by have:=K6 (aP st) q.aw;rwa [dE] at this);obtain⟨NM,Cj⟩:∃b,V.name q.aw=b:=⟨_,rfl⟩;obtain⟨FF,fe⟩:∃b,cr (aP st) q.aw=b:=⟨_,rfl⟩;rw[Cj] at G7;rw[fe] at jn;have oM:=aa Cj;have jg:=aa fe;obtain⟨P,hP⟩:∃P,bg (aP st) q.aw=P:=⟨_,rfl⟩;rw[hP] at jn Yk;have HP:=aa hP;clear h hok hT Cj fe hP;go_enter func79,ntmps79;go_wp2_with fail;refine G7.o.mono ?_;rintro e w1 ⟨rfl,hg⟩;have HG:=aa hg;clear hg hm
 cases NM with
 | false =>
  go_wp2_with fail;refine(oh 4 w1).mono ?_;rintro e w2 ⟨rfl,rfl⟩;go_wp2_with fail;exact⟨rfl,pO (HG.o.below.mono HM.o.le) (by unfold qK;rw[aD oM.o])⟩
 | true =>
  go_wp2_with fail;refine(jK 4 w1).mono ?_;rintro e w2 ⟨rfl,rfl⟩;go_wp2_with fail;refine(jn.o w1 HG.o).mono ?_;rintro e w3 ⟨rfl,hg3⟩;have aG:=aa (HG.o.trans hg3);have eN:=aa (HM.o.grow aG.o);clear hg3
  cases FF with
  | true =>
   go_wp2_with fail;refine(oh 6 w3).mono ?_;rintro e w4 ⟨rfl,rfl⟩;go_wp2_with fail;exact⟨rfl,pO (aG.o.below.mono HM.o.le) (by unfold qK;rw[ak (by rw[oM.o];decide),aD jg.o])⟩
  | false =>
   have hm:=eN.o.blk.cell;by_cases LR:st.length<16
   ·have af5:(st.length:Int)<16:=by omega
    go_wp2_with fail;refine(jK 6 w3).mono ?_;rintro e w4 ⟨rfl,rfl⟩;go_wp2_with fail;refine(jK 19 w3).mono ?_;rintro e w4 ⟨rfl,rfl⟩;have HE:=aa (show qK st q=.ok (cD st (bg (aP st) q.aw) ⟨q.aw,[],[]⟩,0,[]) by unfold qK;rw[ak (by rw[oM.o];decide),ak (by rw[jg.o];decide),ak (by omega)]);have h0:=HM.o;have zY:=Yk;have jz:=aa (show Value.ownBlock (.slice A st.length cap)≠some w3.heap.size from fun e=>by have:=(bJ eN.o.own.row _ e).2;omega);clear hm;go_wp2_with fail;refine dg ?_;refine cW (S:=fun w'=>w'.cell? ⟨mb,2,none⟩=some (.string q.aw)) (by kernel_rfl) (eN.o.blk.cell 2) (fun hHeld=>?_);replace eN:=aa (eN.o.grow ((ah w3).drew));replace aG:=aa (aG.o.drew)
    replace jz:=aa (show Value.ownBlock (.slice A st.length cap)≠some w3.drew.heap.size from jz.o);generalize w3.drew=W at eN aG jz hHeld ⊢;refine ai 0 ?_;refine ai 1 ?_;refine ai 2 ?_;refine ai 3 ?_;refine ai 4 ?_;refine ai 6 ?_;refine ai 7 ?_;refine ai 8 ?_;refine ai 9 ?_;refine ai 10 ?_;refine ai 11 ?_;refine ai 12 ?_;refine bC [5,13] ?_;refine fC (fun K hK=>?_) (fC (fun K hK=>?_) dM)
    focus
     have hm:=eN.o.blk.cell
     go_simp
     refine hK.out _ _ (eN.o.blk.cell 2) (fun hHeld=>?_)
     clear hm
     try simp only[aH]
     refine aK 13 (fun K hK=>?_)
     go_simp
     have qW:=aa (eN.o.grow ((ah W).alloc (.cells (Cc.cells ⟨q.aw,none,0,0,none,0,0⟩) 48)))
     have bt:=aa (aG.o.alloc (.cells (Cc.cells ⟨q.aw,none,0,0,none,0,0⟩) 48))
     refine aT hK (qW.o.blk.cell 2) (fun hHeld=>?_)
    rotate_left
    focus
     go_simp
     have qW:=aa (eN.o.grow ((ah W).alloc (.cells (Cc.cells ⟨q.aw,none,0,0,none,0,0⟩) 48)))
     have bt:=aa (aG.o.alloc (.cells (Cc.cells ⟨q.aw,none,0,0,none,0,0⟩) 48))
     refine aT hK (qW.o.blk.cell 2) (fun hHeld=>?_)
     refine aK 5 (fun K hK=>?_)
     have hm:=qW.o.blk.cell
     go_simp
     refine hK.out _ _ (qW.o.blk.cell 2) (fun hHeld=>?_)
     clear hm
     try simp only[aH]
    all_goals
     refine aK 14 (fun K hK=>?_)
     go_simp
     go_at_call 116
     refine(af6 B st.length P cap W.heap.size A (cY es) (Cc.cells ⟨q.aw,none,0,0,none,0,0⟩).toList _ 48 (Ei es) (by simp[Value.oneCell']) qW.o.own.row zY.o (by have:=H16.o;omega) rfl (az W 48 (Cc.cells ⟨q.aw,none,0,0,none,0,0⟩)) jz.o qW.o.le).mono ?_
     rintro ee w5 ⟨A5,c5,rfl,zO,qP,Ew⟩
     have dG:=qW.o.blk.own qP (fun k hk e=>by rw[bj,e] at hk;exact qW.o.Cf hk)
     have av:=aa dG
     have QS:=aa zO
     have Ha:=aa qP
     have af7:=aa Ew
     have Q5:=dG.cell
     have iY:=dG.frozen
     clear zO qP Ew dG
     refine aT hK (av.o.cell 2) (fun hHeld=>?_)
     refine ai 15 ?_
     refine ai 16 ?_
     refine ai 17 ?_
     refine aK 18 (fun K hK=>?_)
     go_simp
     refine aT hK ((av.o.aY 0 (.slice A5 (st.length+1) c5)).cell 2) (fun hHeld=>?_)
     refine cG ?_
     go_wp2_with fail
     go_end0
     exact af2 h0 eN.o (by rw[HP.o]) aG.o bD.o hN HE.o zY.o av.o QS.o Ha.o af7.o
   have af5:decide ((st.length:Int)<16)=false:=by simp;omega
   go_wp2_with fail;refine(jK 6 w3).mono ?_;rintro e w4 ⟨rfl,rfl⟩;go_wp2_with fail;refine(oh 19 w3).mono ?_;rintro e w4 ⟨rfl,rfl⟩;go_wp2_with fail;exact⟨rfl,pO (aG.o.below.mono HM.o.le) (by unfold qK;rw[ak (by rw[oM.o];decide),ak (by rw[jg.o];decide),aD (by omega)])⟩
theorem Lh.split{k:V}{e:Ending}(h:Lh w ag k e w'):Grow w w'∧(((bl k).2≠0∧e=.panicked (thrown (bl k).2))∨((bl k).2=0∧gL ag (bl k).1=false∧e=.panicked (thrown 17)) ∨
 ∃D,(bl k).2=0∧gL ag (bl k).1=true∧gK ag (bl k).1=D∧D<ag.length∧e=.returned (.int .i64 (D:Nat))):=by
 obtain⟨hg,h | h | ⟨h1,h2,h3⟩⟩:=h
 ·exact⟨hg,.inl h⟩
 ·exact⟨hg,.inr (.inl h)⟩
 exact⟨hg,.inr (.inr ⟨_,h1,h2,rfl,yj h2,h3⟩)⟩
theorem cell_far{a:Addr}{b o:Nat}(h:a.block≠b):(w.setCell ⟨b,o,none⟩ u).cell? a=w.cell? a:=World.cell?_setCell_far _ _ _ _ (fun e=>h e.symm)
theorem af8(N B mb cap:Nat)(A:Option Addr)(es:List Cc)(st:List Co)(q:Rq)(ck cl ch cx:Cv)(w:World)(h:dm w B mb A cap es st q ck cl ch cx)(hok:cz N st)(hN:N≤1000000)(hk:q.key.count≤20000)(hT:dz w) :
 Calls prog 83 #[.pointer (some ⟨mb,0,none⟩)] w (nJ w B mb (wT st q)):=by
 have hs:st.length≤140737488355328:=yt hok;have HM:=aa h;have bD:=aa hok
 cases hf:cr (aP st) q.aw with
 | false =>
  have HC:=aa (zL h hs hf);have HF:=aa hf;clear h hok hf;go_enter func83,ntmps83;go_wp2_with fail;refine HC.o.mono ?_;rintro e w1 ⟨rfl,hg⟩;go_wp2_with fail;exact⟨rfl,pO (hg.below.mono HM.o.le) (by unfold wT;rw[aD HF.o])⟩
 | true =>
  obtain⟨gb,hA,hgb,hgl,hne⟩:=h.gb hf;obtain⟨⟨nm,dA,dn,dc,xA,xn,xc⟩,he,aA,hcell⟩:=h.co hf hA;obtain⟨c,hc⟩:∃c,bX st q.aw=c:=⟨_,rfl⟩;have hmem:=(iC hf).2.1;have hlt:=(iC hf).2.2.2;have iE:bg (aP st) q.aw<es.length:=by rw[h.el];exact hlt
  rw[hc] at aA hmem;have gF:=hok.co c hmem;have hnd:=gF.nd;have hnx:=gF.nx;have HC:=aa (yr h hs hf hA);have HF:=aa hf;have jx:=aa hgb;have bS:=aa hne;have iK:=aa hgl;have lf:=aa hA;have nK:=aa he;have jX:=aa aA;have sk:=aa gF;have iD:=aa hcell;have fY:=aa hc;obtain⟨P,hP⟩:∃P,bg (aP st) q.aw=P:=⟨_,rfl⟩;have HP:=aa hP;rw[hP] at HC nK iD hlt iE;have fQ:=aa hlt;have G8:=aa iE;have Hn:=aa (fun(w1:World) (hg:Grow w w1)=>Xr (h.grow hg) (aA.grow h.le hg) (fun i v hi=>(hg.below.cell (p:=⟨gb,P*3+i,none⟩) hgl).trans (iD.o i v hi)) (bG hgl hg.size) (by omega) (fun d hd=>(gF.ag d hd).count) hk (hT.grow hg))
  have nP:=aa (fun(w1:World) (hg:Grow w w1)=>(hg.below.cell (p:=⟨gb,P*3+1,none⟩) hgl).trans ((iD.o 1 (.slice dA dn dc) rfl).trans (by rw[show dn=c.ag.length from aA.dn])));clear h hok hf hA he aA hcell hc gF hmem hP hlt iE hk hT;go_enter func83,ntmps83;go_wp2_with fail;refine HC.o.mono ?_;rintro e w1 ⟨rfl,hg⟩;have HG:=aa hg;clear hg;go_wp2_with fail;refine cW (S:=fun w'=>w'.cell? ⟨gb,P*3+1,none⟩=some (.slice dA c.ag.length dc)) (by kernel_rfl) (nP.o _ HG.o.drew) (fun hHeld=>?_);have aO:=aa HG.o.drew;generalize w1.drew=W at aO hHeld ⊢;refine je (i:=0) (v:=?_) (by simp only[kR,kT,kU];rfl) (by kernel_rfl) (by kernel_rfl) (by kernel_rfl) (fun _ _ _ h=>vp h) (Or.inl ⟨by rfl,?_⟩) (by assumption) ?_
  rotate_left 1
  ·(intro w hSw;(try dsimp only at hSw);go_simp;try with_reducible rfl)
  try simp only[aH]
  refine je (i:=1) (v:=?_) (by simp only[kR,kT,kU];rfl) (by kernel_rfl) (by kernel_rfl) (by kernel_rfl) (fun _ _ _ h=>vp h) (Or.inl ⟨by rfl,?_⟩) (by assumption) ?_
  rotate_left 1
  ·(intro w hSw;(try dsimp only at hSw);go_simp;try with_reducible rfl)
  try simp only[aH]
  refine je (i:=2) (v:=?_) (by simp only[kR,kT,kU];rfl) (by kernel_rfl) (by kernel_rfl) (by kernel_rfl) (fun _ _ _ h=>vp h) (Or.inl ⟨by rfl,?_⟩) (by assumption) ?_
  rotate_left 1
  ·(intro w hSw;(try dsimp only at hSw);go_simp;try with_reducible rfl)
  try simp only[aH]
  refine je (i:=3) (v:=?_) (by simp only[kR,kT,kU];rfl) (by kernel_rfl) (by kernel_rfl) (by kernel_rfl) (fun _ _ _ h=>vp h) (Or.inl ⟨by rfl,?_⟩) (by assumption) ?_
  rotate_left 1
  ·(intro w hSw;(try dsimp only at hSw);go_simp;try with_reducible rfl)
  try simp only[aH]
  refine je (i:=4) (v:=?_) (by simp only[kR,kT,kU];rfl) (by kernel_rfl) (by kernel_rfl) (by kernel_rfl) (fun _ _ _ h=>vp h) (Or.inl ⟨by rfl,?_⟩) (by assumption) ?_
  rotate_left 1
  ·(intro w hSw;(try dsimp only at hSw);go_simp;try with_reducible rfl)
  try simp only[aH]
  refine je (i:=5) (v:=?_) (by simp only[kR,kT,kU];rfl) (by kernel_rfl) (by kernel_rfl) (by kernel_rfl) (fun _ _ _ h=>vp h) (Or.inl ⟨by rfl,?_⟩) (by assumption) ?_
  rotate_left 1
  ·(intro w hSw;(try dsimp only at hSw);go_simp;try with_reducible rfl)
  try simp only[aH]
  refine je (i:=6) (v:=?_) (by simp only[kR,kT,kU];rfl) (by kernel_rfl) (by kernel_rfl) (by kernel_rfl) (fun _ _ _ h=>vp h) (Or.inl ⟨by rfl,?_⟩) (by assumption) ?_
  rotate_left 1
  ·(intro w hSw;(try dsimp only at hSw);go_simp;try with_reducible rfl)
  try simp only[aH]
  refine aK 7 (fun K hK=>?_);go_simp;go_at_call 123;refine(Hn.o W aO.o).mono ?_;rintro ee w3 hfo;obtain⟨hg3,⟨hz,rfl⟩ | ⟨hz,pG,rfl⟩ | ⟨D,hz,pG,hD,hDl,rfl⟩⟩:=hfo.split
  ·exact⟨rfl,pO (((aO.o.trans hg3)).below.mono HM.o.le) (by unfold wT;rw[ak (by rw[HF.o];decide),aD hz])⟩
  ·exact⟨rfl,pO (((aO.o.trans hg3)).below.mono HM.o.le) (by unfold wT;rw[ak (by rw[HF.o];decide),ak (by simpa using hz),fY.o,aD pG])⟩
  have aG:=aa (aO.o.trans hg3);have Yd:(D:Int)<(c.ag.length:Int):=by omega
  obtain⟨db,y,Ho,LS,Yl,hyv,d0,d1,d2,d3,d4⟩:=(jX.o.grow HM.o.le aG.o).elem D hDl;dsimp only at Ho;subst Ho;have Q6:=aa hyv;have gH:=aa hDl;have nM:=aa hD;have xZ:=aa pG;have HZ:=aa hz;clear hyv hD pG hz hfo;refine aT hK (nP.o _ aG.o) (fun hHeld=>?_);refine je (i:=8) (v:=?_) (by simp only[kR,kT,kU];rfl) (by kernel_rfl) (by kernel_rfl) (by kernel_rfl) (fun _ _ _ h=>vp h) (Or.inl ⟨by rfl,?_⟩) (by assumption) ?_
  rotate_left 1
  ·(intro w hSw;(try dsimp only at hSw);go_simp;try with_reducible rfl)
  try simp only[aH]
  refine aK 9 (fun K hK=>?_);go_simp;refine hK.out _ _ hHeld (fun hHeld=>?_);clear d0 d1 d2 d3 d4
  try simp only[aH]
  refine aK 10 (fun K hK=>?_);go_simp;have eN:=aa (HM.o.grow aG.o);have mA:=aa (eN.o.blk.alloc (.cells y.cells 27));have qU:=mA.o.frozen;have hbc:=mA.o.cell;refine aT hK (nP.o _ (aG.o.alloc _)) (fun hHeld=>?_);refine je (i:=11) (v:=?_) (by simp only[kR,kT,kU];rfl) (by kernel_rfl) (by kernel_rfl) (by kernel_rfl) (fun _ _ _ h=>vp h) (Or.inl ⟨by rfl,?_⟩) (by assumption) ?_
  rotate_left 1
  ·(intro w hSw;(try dsimp only at hSw);go_simp;try with_reducible rfl)
  try simp only[aH]
  refine je (i:=12) (v:=?_) (by simp only[kR,kT,kU];rfl) (by kernel_rfl) (by kernel_rfl) (by kernel_rfl) (fun _ _ _ h=>vp h) (Or.inl ⟨by rfl,?_⟩) (by assumption) ?_
  rotate_left 1
  ·(intro w hSw;(try dsimp only at hSw);go_simp;try with_reducible rfl)
  try simp only[aH]
  refine je (i:=13) (v:=?_) (by simp only[kR,kT,kU];rfl) (by kernel_rfl) (by kernel_rfl) (by kernel_rfl) (fun _ _ _ h=>vp h) (Or.inl ⟨by rfl,?_⟩) (by assumption) ?_
  rotate_left 1
  ·(intro w hSw;(try dsimp only at hSw);go_simp;try with_reducible rfl)
  try simp only[aH]
  refine aK 14 (fun K hK=>?_);go_simp;refine aT hK ((cell_far (by show gb≠mb;exact bS.o)).trans hHeld) (fun hHeld=>?_);refine wpAnyH_done (by kernel_rfl) ?_ _;go_wp2_with fail;go_end0;have HB:=mA.o.aY 29 (.slice (some ⟨w3.heap.size,0,none⟩) 1 1);have hk:=mr (S:=fun k=>k=mb) (cZ _ (w3.alloc (.cells y.cells 27))) (p:=⟨mb,29,none⟩) rfl (.slice (some ⟨w3.heap.size,0,none⟩) 1 1);refine wY (st':=st) (n:=0) (ag:=[c.ag[D]'gH.o]) ((aG.o.alloc _).below.mono HM.o.le |>.trans (hk.below (aV eN.o.le (by simp)) (fun k hk=>hk ▸ HM.o.lo))) ?_ HB.lt (A:=A) (cap:=cap) (dA:=some ⟨w3.heap.size,0,none⟩) (dc:=1) (HB.cell 0) ?_ (HB.cell 28) (HB.cell 29) ?_
  ·unfold wT;rw[ak (by rw[HF.o];decide),ak (by simpa using HZ.o),fY.o,ak (by rw[xZ.o];decide),nM.o,gy,bH gH.o];rfl
  ·exact eN.o.finish ((gN ((ah w3).alloc _)).trans hk) (bD.o.dl hN)
  exact Xu Q6.o eN.o.le hk (fun k hk=>hk ▸ HM.o.lo) (fun e=>by have:=eN.o.lt;omega)
theorem af9(N B mb cap:Nat)(A:Option Addr)(es:List Cc)(st:List Co)(q:Rq)(ck cl ch cx:Cv)(w:World)(h:dm w B mb A cap es st q ck cl ch cx)(hok:cz N st)(hN:N≤1000000)(hk:q.key.count≤20000)(hT:dz w) :
 Calls prog 82 #[.pointer (some ⟨mb,0,none⟩)] w (nJ w B mb (tM st q)):=by
 have hs:st.length≤140737488355328:=yt hok;have HM:=aa h;have bD:=aa hok
 cases hf:cr (aP st) q.aw with
 | false =>
  have HC:=aa (zL h hs hf);have HF:=aa hf;clear h hok hf;go_enter func82,ntmps82;go_wp2_with fail;refine HC.o.mono ?_;rintro e w1 ⟨rfl,hg⟩;go_wp2_with fail;exact⟨rfl,pO (hg.below.mono HM.o.le) (by unfold tM;rw[aD HF.o])⟩
 | true =>
  obtain⟨gb,hA,hgb,hgl,hne⟩:=h.gb hf;obtain⟨⟨nm,dA,dn,dc,xA,xn,xc⟩,he,aA,hcell⟩:=h.co hf hA;obtain⟨c,hc⟩:∃c,bX st q.aw=c:=⟨_,rfl⟩;have hmem:=(iC hf).2.1;have hlt:=(iC hf).2.2.2;have iE:bg (aP st) q.aw<es.length:=by rw[h.el];exact hlt
  rw[hc] at aA hmem;have gF:=hok.co c hmem;have hnd:=gF.nd;have hnx:=gF.nx;have HC:=aa (yr h hs hf hA);have HF:=aa hf;have jx:=aa hgb;have bS:=aa hne;have iK:=aa hgl;have lf:=aa hA;have nK:=aa he;have jX:=aa aA;have sk:=aa gF;have iD:=aa hcell;have fY:=aa hc;obtain⟨P,hP⟩:∃P,bg (aP st) q.aw=P:=⟨_,rfl⟩;have HP:=aa hP;rw[hP] at HC nK iD hlt iE;have fQ:=aa hlt;have G8:=aa iE;have Hn:=aa (fun(w1:World) (hg:Grow w w1)=>Xr (h.grow hg) (aA.grow h.le hg) (fun i v hi=>(hg.below.cell (p:=⟨gb,P*3+i,none⟩) hgl).trans (iD.o i v hi)) (bG hgl hg.size) (by omega) (fun d hd=>(gF.ag d hd).count) hk (hT.grow hg))
  have nP:=aa (fun(w1:World) (hg:Grow w w1)=>(hg.below.cell (p:=⟨gb,P*3+1,none⟩) hgl).trans ((iD.o 1 (.slice dA dn dc) rfl).trans (by rw[show dn=c.ag.length from aA.dn])));clear h hok hf hA he aA hcell hc gF hmem hP hlt iE hk hT;go_enter func82,ntmps82;go_wp2_with fail;refine HC.o.mono ?_;rintro e w1 ⟨rfl,hg⟩;have HG:=aa hg;clear hg;go_wp2_with fail;refine(Hn.o w1 HG.o).mono ?_;rintro ee w3 hfo;obtain⟨hg3,⟨hz,rfl⟩ | ⟨hz,pG,rfl⟩ | ⟨D,hz,pG,hD,hDl,rfl⟩⟩:=hfo.split
  ·go_wp2_with fail;exact⟨rfl,pO (((HG.o.trans hg3)).below.mono HM.o.le) (by unfold tM;rw[ak (by rw[HF.o];decide),aD hz])⟩
  ·go_wp2_with fail;exact⟨rfl,pO (((HG.o.trans hg3)).below.mono HM.o.le) (by unfold tM;rw[ak (by rw[HF.o];decide),ak (by simpa using hz),fY.o,aD pG])⟩
  have aG:=aa (HG.o.trans hg3);have Yd:(D:Int)<(c.ag.length:Int):=by omega
  have hDw:IntKind.i64.wrap ((D:Int)+1)=(D:Int)+1:=by rw[df];omega
  have oO:=aa (jX.o.grow HM.o.le aG.o);obtain⟨db,y,Ho,LS,Yl,hyv,d0,d1,d2,d3,d4⟩:=oO.o.elem D hDl;dsimp only at Ho;subst Ho;have Q6:=aa hyv;have gH:=aa hDl;have nM:=aa hD;have xZ:=aa pG;have HZ:=aa hz;have eN:=aa (HM.o.grow aG.o);have u_:=nP.o _ aG.o;have mA:=aa (eN.o.blk.alloc (.cells y.cells 27));have qU:=mA.o.frozen;have hbc:=mA.o.cell;have af_:gb<w3.heap.size:=bG iK.o aG.o.size;have kM:gb≠mb:=bS.o;have QR:=(cell_far (w:=w3.alloc (.cells y.cells 27)) (a:=⟨gb,P*3+1,none⟩) (b:=mb) (o:=29) (u:=.slice (some ⟨w3.heap.size,0,none⟩) 1 1) kM).trans (((ah w3).alloc (.cells y.cells 27)).below.cell (p:=⟨gb,P*3+1,none⟩) af_ |>.trans u_);obtain⟨cs,hrow,jU⟩:=oO.o.ag;dsimp only at hrow
  obtain⟨cur,iG,-⟩:=eN.o.vq lf.o (by have:=fQ.o;omega);have zZ:=cU hrow eN.o.blk (by decide);have B6:=cU hrow iG (by decide);have lT:=mr (S:=fun k=>k=mb) (gN (S:=fun k=>k=mb) ((ah w3).alloc (.cells y.cells 27))) (p:=⟨mb,29,none⟩) rfl (.slice (some ⟨w3.heap.size,0,none⟩) 1 1);have ED:=aa (aga B c.ag.length D dc (some ⟨db,0,none⟩) (cK cs) _ (BQ cs) (fG hrow lT (fun g hg hs=>zZ (by rw[← hs];exact hg))) hDl (by omega));have HKS:=aa lT;have fK:=aa hrow;have qQ:=aa jU;have oM:=aa zZ;have Cq:=aa B6;have EE:=aa ((iG.alloc (.cells y.cells 27)).far (p:=⟨mb,29,none⟩) kM (.slice (some ⟨w3.heap.size,0,none⟩) 1 1))
  have HKA:=aa (mr (S:=Sx mb gb (some ⟨db,0,none⟩)) (cZ _ (w3.alloc (.cells y.cells 27))) (p:=⟨mb,29,none⟩) (.inl rfl) (.slice (some ⟨w3.heap.size,0,none⟩) 1 1));have ax:=aa (mA.o.aY 29 (.slice (some ⟨w3.heap.size,0,none⟩) 1 1));have agb:=aa QR;clear hyv hD pG hz hfo hg3 hrow jU iG zZ B6 lT;go_wp2_with fail;clear d0 d1 d2 d3 d4 qU hbc u_ QR;refine ED.o.mono ?_;rintro ee w4 ⟨rfl,hown,hgr⟩;have Ym:∀k,Value.ownBlock (.slice (some ⟨db,0,none⟩) c.ag.length dc)=some k→k=db:=fun k hk=>by cases hk;rfl
  have Q7:=aa (EE.o.own hgr (fun k hk e=>Cq.o (by rw[← e,Ym k hk];rfl)));have Q8:=aa (ax.o.own hgr (fun k hk e=>oM.o (by rw[← e,Ym k hk];rfl)));have agc:=Q7.o.frozen;have agd:=(hgr.cell agb.o (fun e=>Cq.o (by rw[bj] at e;exact e.symm)));have HOWN:=aa hown;have aJ:=aa hgr;clear hown hgr;go_wp2_with fail;go_end0;have hk4:Kept (fun k=>k=mb∨ba (some ⟨db,0,none⟩)=some k) w3 w4:=(HKS.o.mono (fun q hq=>.inl hq)).trans ((pM aJ.o).mono (fun q hq=>.inr (by rw[bj] at hq;exact hq)));have kX:=Ls (gb:=gb) (k:=P*3+1) (v:=.slice (some ⟨db,0,none⟩) (c.ag.length-1) dc) hk4 rfl
  have hkA:=(HKA.o.trans ((pM aJ.o).mono (fun q hq=>.inr (.inr (by rw[bj] at hq;exact hq))))).set (p:=⟨gb,P*3+1,none⟩) (.inr (.inl rfl)) (.slice (some ⟨db,0,none⟩) (c.ag.length-1) dc);have tR:∀k,Sx mb gb (some ⟨db,0,none⟩) k→B≤k:=fun k hk=>by
   rcases hk with rfl | rfl | hk
   ·exact HM.o.lo
   ·exact jx.o
   cases hk;exact Yl
  have HB:=Q8.o.far (p:=⟨gb,P*3+1,none⟩) (fun e=>kM e.symm) (.slice (some ⟨db,0,none⟩) (c.ag.length-1) dc);refine wY (st':=st.set P ⟨c.name,cT c.ag D,c.aj⟩) (n:=0) (ag:=[c.ag[D]'gH.o]) ((aG.o.below.mono HM.o.le).trans (kX.below eN.o.le tR)) ?_ (bG eN.o.lt kX.size) (A:=A) (cap:=cap) (dA:=some ⟨w3.heap.size,0,none⟩) (dc:=1) ((HB.cell 0).trans (by rw[gW];rfl)) ?_ (HB.cell 28) (HB.cell 29) ?_
  ·unfold tM;rw[ak (by rw[HF.o];decide),ak (by simpa using HZ.o),fY.o,ak (by rw[xZ.o];decide),nM.o,HP.o,gy,bH gH.o];rfl
  ·refine Lq (e':=⟨nm,some ⟨db,0,none⟩,c.ag.length-1,dc,xA,xn,xc⟩) eN.o lf.o nK.o oO.o fQ.o (R:=some ⟨db,0,none⟩) (.inr (.inl rfl)) kX (bD.o.dl hN) ?_ (Lr eN.o lf.o nK.o oO.o fQ.o (.inr (.inl rfl)) hk4 (by omega) rfl);obtain⟨cur,iG,-⟩:=eN.o.vq lf.o (by have:=fQ.o;omega);exact(eY.aeW oO.o qQ.o eN.o.le kX HM.o.lo jx.o gH.o (cU oO.o.aj eN.o.blk (by decide)) (cU oO.o.aj iG (by decide))
    (fG HOWN.o (mr (S:=fun k=>k=gb) (cZ _ w4) (p:=⟨gb,P*3+1,none⟩) rfl (.slice (some ⟨db,0,none⟩) (c.ag.length-1) dc)) (fun g hg hs=>Cq.o (by rw[← hs];exact hg)))).jf (aV eN.o.le kX.size) (aV (K9 _ _).length_le (by omega))
  refine Xu Q6.o eN.o.le hkA tR ?_;rintro(e | e | e)
  ·have:=eN.o.lt;omega
  ·omega
  have e2:db=w3.heap.size:=nZ e;omega
theorem age(N B mb cap:Nat)(A:Option Addr)(es:List Cc)(st:List Co)(q:Rq)(ck cl ch cx:Cv)(w:World)(h:dm w B mb A cap es st q ck cl ch cx)(hok:cz N st)(hN:N≤1000000) :
 Calls prog 85 #[.pointer (some ⟨mb,0,none⟩)] w (nJ w B mb (zG st q)):=by
 have hs:st.length≤140737488355328:=yt hok;have HM:=aa h;have bD:=aa hok
 cases hf:cr (aP st) q.aw with
 | false =>
  have HC:=aa (zL h hs hf);have HF:=aa hf;clear h hok hf;go_enter func85,ntmps85;go_wp2_with fail;refine HC.o.mono ?_;rintro e w1 ⟨rfl,hg⟩;go_wp2_with fail;exact⟨rfl,pO (hg.below.mono HM.o.le) (by unfold zG;rw[aD HF.o])⟩
 | true =>
  obtain⟨gb,hA,hgb,hgl,hne⟩:=h.gb hf;obtain⟨⟨nm,dA,dn,dc,xA,xn,xc⟩,he,aA,hcell⟩:=h.co hf hA;obtain⟨c,hc⟩:∃c,bX st q.aw=c:=⟨_,rfl⟩;have hmem:=(iC hf).2.1;have hlt:=(iC hf).2.2.2;have iE:bg (aP st) q.aw<es.length:=by rw[h.el];exact hlt
  rw[hc] at aA hmem;have gF:=hok.co c hmem;have hnd:=gF.nd;have hnx:=gF.nx;have HC:=aa (yr h hs hf hA);have HF:=aa hf;have jx:=aa hgb;have bS:=aa hne;have iK:=aa hgl;have lf:=aa hA;have nK:=aa he;have jX:=aa aA;have sk:=aa gF;have iD:=aa hcell;have fY:=aa hc;obtain⟨P,hP⟩:∃P,bg (aP st) q.aw=P:=⟨_,rfl⟩;have HP:=aa hP;rw[hP] at HC nK iD hlt iE;have fQ:=aa hlt;have G8:=aa iE;have ct:=aa (fun(w1:World) (hg:Grow w w1)=>Qn (P:=P) (gb:=gb) (h.grow hg) (aA.grow h.le hg) (fun i v hi=>(hg.below.cell (p:=⟨gb,P*3+i,none⟩) hgl).trans (iD.o i v hi)) (bG hgl hg.size) (by omega))
  have nP:=aa (fun(w1:World) (hg:Grow w w1)=>(hg.below.cell (p:=⟨gb,P*3+2,none⟩) hgl).trans ((iD.o 2 (.slice xA xn xc) rfl).trans (by rw[show xn=c.aj.length from aA.xn])));obtain⟨FF,fe⟩:∃b,cr (gM c) q.index=b:=⟨_,rfl⟩;obtain⟨D,hD⟩:∃b,bg (gM c) q.index=b:=⟨_,rfl⟩;rw[fe,hD] at ct;have jg:=aa fe;have nM:=aa hD;clear h hok hf hA he aA hcell hc gF hmem hP hlt iE fe hD;go_enter func85,ntmps85;go_wp2_with fail;refine HC.o.mono ?_;rintro e w1 ⟨rfl,hg⟩;have HG:=aa hg;clear hg;go_wp2_with fail;refine(ct.o w1 HG.o).mono ?_;rintro e w3 ⟨rfl,hg3⟩;have aG:=aa (HG.o.trans hg3);clear hg3
  cases FF with
  | false =>
   go_wp2_with fail;refine(oh 5 w3).mono ?_;rintro e w4 ⟨rfl,rfl⟩;go_wp2_with fail;exact⟨rfl,pO (aG.o.below.mono HM.o.le) (by unfold zG;rw[ak (by rw[HF.o];decide),fY.o,aD jg.o])⟩
  | true =>
   have hDl:D<c.aj.length:=by have:=El jg.o;rw[nM.o,dE] at this;exact this
   have gH:=aa hDl;have hDw:IntKind.i64.wrap ((D:Int)+1)=(D:Int)+1:=by rw[df];omega
   have oO:=aa (jX.o.grow HM.o.le aG.o);have eN:=aa (HM.o.grow aG.o);have u_:=nP.o _ aG.o;have ED:=aa (agf B c.aj.length D xc xA (dQ c.aj) w3 (zH c.aj) oO.o.aj hDl (by omega));obtain⟨cur,iG,-⟩:=eN.o.vq lf.o (by have:=fQ.o;omega);have EE:=aa iG;have oM:=aa (cU oO.o.aj eN.o.blk (by decide));have Cq:=aa (cU oO.o.aj iG (by decide));have kM:gb≠mb:=bS.o;clear iG;go_wp2_with fail;refine(jK 5 w3).mono ?_;rintro e w4 ⟨rfl,rfl⟩;go_wp2_with fail;have agh:=aa u_;clear u_;refine ED.o.mono ?_;rintro ee w4 ⟨rfl,hown,hgr⟩;have Q7:=aa (EE.o.own hgr (fun k hk e=>Cq.o (by rw[← e,← hk,bj])));have Q8:=aa (eN.o.blk.own hgr (fun k hk e=>oM.o (by rw[← e,← hk,bj])))
   have agc:=Q7.o.frozen;have agd:=(hgr.cell agh.o (fun e=>Cq.o (by rw[bj] at e;exact e.symm)));have HOWN:=aa hown;have aJ:=aa hgr;clear hown hgr;go_wp2_with fail;go_end0;have hk4:Kept (fun k=>k=mb∨ba xA=some k) w3 w4:=(pM aJ.o).mono (fun q hq=>.inr (by rw[bj] at hq;exact hq));have kX:=Ls (gb:=gb) (k:=P*3+2) (v:=.slice xA (c.aj.length-1) xc) hk4 rfl;have tR:∀k,Sx mb gb xA k→B≤k:=fun k hk=>by
    rcases hk with rfl | rfl | hk
    ·exact HM.o.lo
    ·exact jx.o
    exact(zM.le (R:=xA) (.inr (.inr rfl)) oO.o k hk).1
   have HB:=Q8.o.far (p:=⟨gb,P*3+2,none⟩) (fun e=>kM e.symm) (.slice xA (c.aj.length-1) xc);have bA:(cT c.aj D).length=c.aj.length-1:=PX gH.o;refine wY (st':=st.set P ⟨c.name,c.ag,cT c.aj D⟩) (n:=0) (ag:=[]) ((aG.o.below.mono HM.o.le).trans (kX.below eN.o.le tR)) ?_ (bG eN.o.lt kX.size) (A:=A) (cap:=cap) (dA:=none) (dc:=0) ((HB.cell 0).trans (by rw[gW];rfl)) ?_ (HB.cell 28) (HB.cell 29) (vo _)
   ·unfold zG;rw[ak (by rw[HF.o];decide),fY.o,ak (by rw[jg.o];decide),nM.o,HP.o]
   obtain⟨ds,r1,-⟩:=oO.o.ag;have QO:(w4.setCell ⟨gb,P*3+2,none⟩ (.slice xA (c.aj.length-1) xc)).ownsRow B 64 3 (.slice xA (cT c.aj D).length xc) (cT c.aj D).length (dQ (cT c.aj D)):=by
    rw[bA,show dQ (cT c.aj D)=(dQ c.aj).take (D*3)++(dQ c.aj).drop ((D+1)*3) from (PJ _ 3 (fun _=>rfl) c.aj D).symm];exact fG HOWN.o (mr (S:=fun k=>k=gb) (cZ _ w4) (p:=⟨gb,P*3+2,none⟩) rfl _) (fun g hg hs=>Cq.o (by rw[← hs];exact hg))
   refine Lq (e':=⟨nm,dA,dn,dc,xA,c.aj.length-1,xc⟩) eN.o lf.o nK.o oO.o fQ.o (R:=xA) (.inr (.inr rfl)) kX (bD.o.dl hN) ?_ (Lr eN.o lf.o nK.o oO.o fQ.o (.inr (.inr rfl)) hk4 (by omega) rfl);obtain⟨cur,iG,-⟩:=eN.o.vq lf.o (by have:=fQ.o;omega);have:=(eY.Xv (c5:=xc) (A5:=xA) oO.o eN.o.le kX HM.o.lo jx.o (cU r1 eN.o.blk (by decide)) (cU r1 iG (by decide)) QO).jf (aV eN.o.le kX.size) (by show c.ag.length≤_;omega);rw[bA] at this;exact this
section
open Go.RowKit
abbrev Q9(A:Option Addr)(n cap:Nat)(d:Int)(c i p:ByteArray)(u:Bool)(k l h x:Cv)(qn rn:Int)(rA:Option Addr)(rl rc:Nat):Array Value:=
 #[.slice A n cap,.int .i64 d,.string c,.string i,.string p,.bool u,.int .i64 k.k,.int .u64 k.n,.slice k.aB k.nB k.cB,.slice k.aL k.nL k.cL,.slice k.aF k.nF k.cF,
  .int .i64 l.k,.int .u64 l.n,.slice l.aB l.nB l.cB,.slice l.aL l.nL l.cL,.slice l.aF l.nF l.cF,.int .i64 h.k,.int .u64 h.n,.slice h.aB h.nB h.cB,.slice h.aL h.nL h.cL,.slice h.aF h.nF h.cF,
  .int .i64 x.k,.int .u64 x.n,.slice x.aB x.nB x.cB,.slice x.aL x.nL x.cL,.slice x.aF x.nF x.cF,.int .i64 qn,.int .i64 0,.int .i64 rn,.slice rA rl rc,.int .i64 0]
theorem agi(cl ch:Cv)(w:World):(Instr.index 173 (.agg #[.int .i64 cl.k,.int .u64 cl.n,.slice cl.aB cl.nB cl.cB,.slice cl.aL cl.nL cl.cL,.slice cl.aF cl.nF cl.cF,.int .i64 ch.k,.int .u64 ch.n,.slice ch.aB ch.nB ch.cB,.slice ch.aL ch.nL ch.cL,.slice ch.aF ch.nF ch.cF]) (.int .i64 0)).run prog w=.ok cl.agg w:=by kernel_rfl
theorem agj(cl ch:Cv)(w:World):(Instr.index 173 (.agg #[.int .i64 cl.k,.int .u64 cl.n,.slice cl.aB cl.nB cl.cB,.slice cl.aL cl.nL cl.cL,.slice cl.aF cl.nF cl.cF,.int .i64 ch.k,.int .u64 ch.n,.slice ch.aB ch.nB ch.cB,.slice ch.aL ch.nL ch.cL,.slice ch.aF ch.nF ch.cF]) (.int .i64 1)).run prog w=.ok ch.agg w:=by kernel_rfl
theorem IsV.Yn{k:Int}{n:Nat}{b:List UInt8}{l:List V}{f:List (ByteArray×V)}{c:Cv}(h:IsV C (.mk k n b l f) c)(i:Nat)(hil:i<l.length):∃bk o x,c.aL=some ⟨bk,o,none⟩∧kV C bk (o+i*5) x∧IsV C l[i] x:=by
 rw[IsV] at h;exact h.2.2.2.2.2.2.2.2.2.2.2.2.2.2.2.1 i hil
theorem agk{w7:World}{c7:Nat}{l:List V}{d:Cv}{v:V}{zs:List Value}(h:VR S w lo A c hs l)(hv:IsV (dI w (fun q=>ba A=some q∨S q)) v d)(hr:w7.ownsRow lo 27 5 (.slice (some ⟨g,0,none⟩) (hs.length+1) c7) (hs.length+1) (cK hs++zs))(hz:zs.length=5)
 (hg:w.grownBy w7 (Value.ownBlock (.slice A hs.length c))) (hat:Value.ownBlock (.slice (some ⟨g,0,none⟩) (hs.length+1) c7)=Value.ownBlock (.slice A hs.length c)∨Value.ownBlock (.slice (some ⟨g,0,none⟩) (hs.length+1) c7)=some w.heap.size) :
 VR S (w7.setCells g (hs.length*5) d.cells.toList) lo (some ⟨g,0,none⟩) c7 (hs++[d]) (l++[v]):=by
 rw[bj] at hg;rw[bj,bj] at hat
 have hput:=Lt (D:=hs.length) (vs:=d.cells.toList) hr (by omega) rfl;have hk:Kept (fun q=>ba A=some q∨ba (some ⟨g,0,none⟩)=some q) w (w7.setCells g (hs.length*5) d.cells.toList):=
  ((pM hg).mono (fun q hq=>.inl hq)).trans ((pM (mJ g (some g) rfl d.cells.toList w7 (hs.length*5))).mono (fun q hq=>.inr hq))
 have hC:∀p u,dI w (fun q=>ba A=some q∨S q) p u→dI (w7.setCells g (hs.length*5) d.cells.toList) (fun q=>ba (some ⟨g,0,none⟩)=some q∨S q) p u:=fun p u hp=>by
  have hne:ba (some ⟨g,0,none⟩)≠some p.block:=fun e=>by
   rcases hat with h1 | h1
   ·exact hp.2.2 (.inl (by rw[← h1];exact e))
   rw[h1] at e;injection e with e;have:=hp.2.1;omega
  refine⟨(uy (hk.block p.block hp.2.1 (fun hq=>?_))).trans hp.1,bG hp.2.1 hk.size,fun hq=>?_⟩
  ·rcases hq with hq | hq
   ·exact hp.2.2 (.inl hq)
   exact hne hq
  rcases hq with hq | hq
  ·exact hne hq
  exact hp.2.2 (.inr hq)
 refine⟨?_,(h.two.mono fun x y k=>dX hC _ _ k).append (Two.one (dX hC _ _ hv))⟩;have e0:(cK hs).length=hs.length*5:=KY hs;rw[Kp (by omega),rB (by omega),J4 (by rw[bp,e0,hz];omega),oZ] at hput;rw[bp,FM,l7,xJ,fN,nW,l8,Fz,oZ];exact hput
theorem Src.agl{o:Obj}(c:Cv)(e:TypeId):Src prog 5 24 (.slice (some ⟨w.heap.size+1,0,none⟩) 1 1) 1 c.cells.toList ((w.alloc o).alloc (.cells c.cells e)):=by
 have h:=Src.OJ (w:=w.alloc o) c e;rwa [show (w.alloc o).heap.size=w.heap.size+1 by simp] at h
theorem Kept.agm{a:World}{r:Option Nat}(h:Kept S a w)(hg:w.grownBy w' r)(hr:∀k,r=some k→a.heap.size≤k):Kept S a w':=
 ⟨hg.os.trans h.os,hg.tape.trans h.tape,hg.output.trans h.output,aV h.size hg.size,fun k hk hs=>(hg.block k (bG hk h.size) (fun e=>by have:=hr k e.symm;omega)).trans (h.block k hk hs)⟩
theorem Yo:V.zero.count≤20000:=by
 unfold V.zero;rw[sZ];decide
theorem agn(w:World)(p r:Addr)(v u:Value)(h:r.block≠p.block):(w.setCell p v).setCell r u=(w.setCell r u).setCell p v:=by
 unfold World.setCell;congr 1;refine Od fun i=>?_
 simp only[AQ];by_cases h1:r.block=i<;>by_cases h2:p.block=i<;>simp_all
theorem Yp{g:Nat}{p:Addr}(h:g≠p.block):∀{l:List Value} {w:World} {o:Nat} {v:Value},(w.setCell p v).setCells g o l=(w.setCells g o l).setCell p v
 | [],_,_,_=>rfl
 | x::r,w,o,v=>by
  rw[World.setCells,World.setCells,agn w p ⟨g,o,none⟩ v x h];exact Yp h
theorem ago(ty:TypeId)(h:wpList P ops Q (⟨none,.store ty x y,t,p,af,none⟩::rest) a w):wpList P ops Q (⟨none,.store ty x y,t,p,af,none⟩::rest) a w:=h
end
abbrev Q_:=@Kept.agm
theorem agp(N B mb cap:Nat)(A:Option Addr)(es:List Cc)(st:List Co)(q:Rq)(ck cl ch cx:Cv)(w:World)(h:dm w B mb A cap es st q ck cl ch cx)(hok:cz N st)(hN:N≤1000000)(LU:∀W,Below B w W→dz W∧kD W)(hlc:q.low.count≤20000)(Ra:q.high.count≤20000) :
 Calls prog 86 #[.pointer (some ⟨mb,0,none⟩)] w (Es N w B mb):=by
 have hs:st.length≤140737488355328:=yt hok;have hT:=(LU w (jH _ _)).1;have tS:=(LU w (jH _ _)).2;have HM:=aa h;have bD:=aa hok
 cases hf:cr (aP st) q.aw with
 | false =>
  have HC:=aa (zL h hs hf);have HF:=aa hf;clear h hok hf;go_enter func86,ntmps86;go_wp2_with fail;refine HC.o.mono ?_;rintro e w1 ⟨rfl,hg⟩;go_wp2_with fail;exact⟨rfl,vk (hg.below.mono HM.o.le) (by decide)⟩
 | true =>
  obtain⟨gb,hA,hgb,hgl,hne⟩:=h.gb hf;obtain⟨⟨nm,dA,dn,dc,xA,xn,xc⟩,he,aA,hcell⟩:=h.co hf hA;obtain⟨c,hc⟩:∃c,bX st q.aw=c:=⟨_,rfl⟩;have hmem:=(iC hf).2.1;have hlt:=(iC hf).2.2.2;have iE:bg (aP st) q.aw<es.length:=by rw[h.el];exact hlt
  rw[hc] at aA hmem;have gF:=hok.co c hmem;have hnd:=gF.nd;have hnx:=gF.nx;have HC:=aa (yr h hs hf hA);have HF:=aa hf;have jx:=aa hgb;have bS:=aa hne;have iK:=aa hgl;have lf:=aa hA;have nK:=aa he;have jX:=aa aA;have sk:=aa gF;have iD:=aa hcell;have fY:=aa hc;obtain⟨P,hP⟩:∃P,bg (aP st) q.aw=P:=⟨_,rfl⟩;have HP:=aa hP;rw[hP] at HC nK iD hlt iE;have fQ:=aa hlt;have G8:=aa iE;have kL:=aa (fun(w1:World) (hg:Grow w w1)=>show w1.cell? ⟨gb,P*3,none⟩=some (.string nm)∧w1.cell? ⟨gb,P*3+1,none⟩=some (.slice dA c.ag.length dc)∧w1.cell? ⟨gb,P*3+2,none⟩=some (.slice xA c.aj.length xc) from
   ⟨(hg.below.cell (p:=⟨gb,P*3,none⟩) hgl).trans (iD.o 0 (.string nm) rfl),(hg.below.cell (p:=⟨gb,P*3+1,none⟩) hgl).trans ((iD.o 1 (.slice dA dn dc) rfl).trans (by rw[show dn=c.ag.length from aA.dn])),(hg.below.cell (p:=⟨gb,P*3+2,none⟩) hgl).trans ((iD.o 2 (.slice xA xn xc) rfl).trans (by rw[show xn=c.aj.length from aA.xn]))⟩)
  have ct:=aa (fun(w1:World) (hg:Grow w w1)=>Qn (P:=P) (gb:=gb) (h.grow hg) (aA.grow h.le hg) (fun i v hi=>(hg.below.cell (p:=⟨gb,P*3+i,none⟩) hgl).trans (iD.o i v hi)) (bG hgl hg.size) (by omega));have oD:=aa (fun(j:Nat) (hj:j<2)=>show ∃cv:Cv,(∀w1,(Instr.index 173 (.agg #[.int .i64 cl.k,.int .u64 cl.n,.slice cl.aB cl.nB cl.cB,.slice cl.aL cl.nL cl.cL,.slice cl.aF cl.nF cl.cF,.int .i64 ch.k,.int .u64 ch.n,.slice ch.aB ch.nB ch.cB,.slice ch.aL ch.nL ch.cL,.slice ch.aF ch.nF ch.cF]) (.int .i64 (j:Int))).run prog w1=.ok cv.agg w1)∧∃G:Int,∀w1,Grow w w1→Calls prog 20 #[cv.agg] w1 fun e w'=>e=.returned (.int .i64 G)∧Grow w1 w' from by
   match j,hj with
   | 0,_=>exact⟨cl,fun w1=>agi cl ch w1,_,fun w1 hg=>Ea q.low w1 cl hlc (hT.grow hg) ((h.low.jf h.le).grow hg)⟩
   | 1,_=>exact⟨ch,fun w1=>agj cl ch w1,_,fun w1 hg=>Ea q.high w1 ch Ra (hT.grow hg) ((h.high.jf h.le).grow hg)⟩)
  have Yq:=aa (fun(W:World) (hg:Grow w W) (hm:dm W B mb A cap es st q ck cl ch cx)=>((aA.grow h.le hg).r (S:=fun k=>k=mb) hm.le (fun k hk=>hk ▸ h.lo) (fun g hg' e=>by
   obtain⟨ds,r1,-⟩:=(aA.grow h.le hg).ag;exact cU r1 hm.blk (by decide) (e ▸ hg')) (fun g hg' e=>cU (aA.grow h.le hg).aj hm.blk (by decide) (e ▸ hg')) (by omega)).ag)
  have Rb:=aa LU;have HT:=aa hT;have zD:=aa tS;have Rc:=aa hlc;have Re:=aa Ra;obtain⟨FF,fe⟩:∃b,cr (gM c) q.index=b:=⟨_,rfl⟩;obtain⟨I,hI⟩:∃b,bg (gM c) q.index=b:=⟨_,rfl⟩;rw[fe,hI] at ct;have iZ:=aa (fun(h:FF=true)=>show I<c.aj.length from by have:=El (fe.trans h);rw[hI,dE] at this;exact this);clear h hok hf hA he aA hcell hc gF hmem hP hlt iE hT tS LU hlc Ra fe hI;go_enter func86,ntmps86;go_wp2_with fail;refine HC.o.mono ?_;rintro e w1 ⟨rfl,hg1⟩;have aO:=aa hg1;clear hg1;go_wp2_with fail;refine(ct.o w1 aO.o).mono ?_;rintro e w2 ⟨rfl,hg2⟩;have HG2:=aa (aO.o.trans hg2);have iT:=aa (HM.o.grow HG2.o);have hm:=iT.o.blk.cell;clear hg2;go_upto_region 2 with fail;go_cut [] from 25 to 34 (fun wx=>(FF=true∨q.index.toList=[])∧w2=wx)
  case first =>
   rcases FF with _ | _
   ·by_cases xh:q.index.toList=[]
    ·have tZ:q.index.toList.isEmpty=true:=by rw[xh,List.isEmpty_nil]
     have yA:(!q.index.toList.isEmpty)=false:=by rw[tZ];rfl
     go_wp2_with fail;refine(jK 5 w2).mono ?_;rintro e w3 ⟨rfl,rfl⟩;go_wp2_with fail;go_meet;exact⟨.inr xh,rfl⟩
    have tZ:q.index.toList.isEmpty=false:=by simpa using xh
    have yA:(!q.index.toList.isEmpty)=true:=by rw[tZ];rfl
    go_wp2_with fail;refine(oh 5 w2).mono ?_;rintro e w3 ⟨rfl,rfl⟩;go_wp2_with fail;exact⟨rfl,vk (HG2.o.below.mono HM.o.le) (by decide)⟩
   go_wp2_with fail;refine(jK 5 w2).mono ?_;rintro e w3 ⟨rfl,rfl⟩;go_wp2_with fail;go_meet;exact⟨.inl (by trivial),rfl⟩
  obtain⟨lF,rfl⟩:=hcut;go_upto_region 3 with fail;go_cut [] from 35 to 49 (fun wx=>w2=wx)
  case first =>
   obtain⟨b,hb⟩:∃b:Bool,b=(decide (1≤q.n)&&decide (q.n≤64)):=⟨_,rfl⟩;have hbb:(1≤q.n∧q.n≤64∧b=true)∨(1≤q.n∧¬ q.n≤64∧b=false)∨(¬ 1≤q.n∧b=false):=by
    by_cases h1:1≤q.n<;>by_cases h2:q.n≤64<;>simp[h1,h2] at hb<;>simp[h1,h2,hb]
   rcases hbb with ⟨rH,agq,-⟩ | ⟨rH,agq,-⟩ | ⟨rH,-⟩
   ·go_wp2_with fail;refine(jK 1 w2).mono ?_;rintro e w3 ⟨rfl,rfl⟩;go_wp2_with fail;go_meet;rfl
   focus
    have anw:decide (q.n≤64)=false:=by simp;omega
   rotate_left
   focus
    have anx:decide (1≤q.n)=false:=by simp;omega
   all_goals
    go_wp2_with fail
    refine(oh 1 w2).mono ?_
    rintro e w3 ⟨rfl,rfl⟩
    go_wp2_with fail
    exact⟨rfl,vk (HG2.o.below.mono HM.o.le) (by decide)⟩
  obtain rfl:=hcut;go_wp2_with fail;go_big_quiet (fail);have aG:=aa (HG2.o.drewN nq);generalize w2.drewN nq=w3 at aG ⊢;clear hm;go_wp2_with fail;go_loopg [61] 3 (fun gk i wr=>∃j:Nat,j≤2∧gk+j=3∧i=.int .i64 j∧Grow w wr);exact⟨0,aR _,rfl,rfl,aG.o⟩;obtain⟨j,hj,hg,rfl,hgr⟩:=hrel;obtain⟨gk',rfl⟩:=bz gk (by omega);have bI:=aa hgr;clear hgr aG;by_cases hlt:j<2
  ·have anz:(j:Int)<2:=by omega
   obtain⟨cv,yB,G,LP⟩:=oD.o j hlt;have aC:=aa LP;have hv:=(az wr 27 cv.cells).cell;have bt:=aa (bI.o.alloc (.cells cv.cells 27));clear LP;by_cases hk:cv.k=0
   ·have tJ:(cv.k != 0)=false:=by simp[hk]
    clear hk;go_wp2_with fail;go_roundg gk';exact⟨j+1,by omega,by omega,by go_num,bt.o⟩;omega
   have tJ:(cv.k != 0)=true:=by simp[hk]
   clear hk;go_wp2_with fail;refine(aC.o _ bt.o).mono ?_;rintro e w5 ⟨rfl,bK⟩;have a_:=aa (bt.o.trans bK);clear bK hv;by_cases hz:G=0
   ·subst hz;go_wp2_with fail;refine(DN w5).mono ?_;rintro e w6 ⟨rfl,rfl⟩;go_wp2_with fail;go_roundg gk';exact⟨j+1,by omega,by omega,by go_num,a_.o⟩;omega
   go_wp2_with fail;refine(DR G hz w5).mono ?_;rintro e w6 ⟨rfl,rfl⟩;go_wp2_with fail;exact⟨rfl,vk (a_.o.below.mono HM.o.le) hz⟩
  have zt:j=2:=by omega
  subst zt;have sx:=aa (HM.o.grow bI.o);have hm:=sx.o.blk.cell;obtain⟨LI,LJ,LK⟩:=kL.o wr bI.o;obtain⟨wl,hwl⟩:∃wl:World,wl=wr:=⟨_,rfl⟩;subst hwl;go_upto_if 80 with fail;go_cut [7,8,9,10,12] from 80 to 114 (fun d p _ _ _ wx=>∃(dB:Option Addr) (dd:Nat) (ds:List V) (ps:ByteArray),d=.slice dB ds.length dd∧p=.string ps∧ps.size≤200∧(∀d∈ds,gh d)∧ds.length≤N∧Grow wl wx∧IsV (dI wx (fun k=>k=mb)) (.mk 7 0 [] ds []) (js dB ds.length dd))
  case first =>
   by_cases xh:q.index.toList=[]
   ·have tZ:q.index.toList.isEmpty=true:=by rw[xh,List.isEmpty_nil]
    have yA:(!q.index.toList.isEmpty)=false:=by rw[tZ];rfl
    rw[yA];go_wp2_with fail;go_meet;exact⟨dA,dc,c.ag,_,rfl,rfl,by decide,sk.o.ag,hnd,ah _,Yq.o _ bI.o sx.o⟩
   have tZ:q.index.toList.isEmpty=false:=by simpa using xh
   have yA:(!q.index.toList.isEmpty)=true:=by rw[tZ];rfl
   rw[yA];have Cr:=iZ.o (lF.resolve_right xh);have hIi:(I:Int)<(c.aj.length:Int):=by omega
   obtain⟨nN,xo,zW,Hb,lH⟩:=Lp (jX.o.grow HM.o.le bI.o).aj I Cr;dsimp only at zW;obtain⟨xq,su⟩:∃x,c.aj[I]=x:=⟨_,rfl⟩;have hget:c.aj.getD I Ix.zero=xq:=by rw[gy,bH Cr,su];rfl
   have pT:∀i v,xq.cells[i]?=some v→wl.cell? ⟨nN,xo+I*3+i,none⟩=some v:=fun i v hv=>lH i v (by dsimp only;rw[hget];exact hv)
   subst zW;have Yr:=aa (fun(W:World) (hg:Grow wl W)=>show W.cell? ⟨gb,P*3,none⟩=some (.string nm)∧W.cell? ⟨gb,P*3+1,none⟩=some (.slice dA c.ag.length dc)∧W.cell? ⟨gb,P*3+2,none⟩=some (.slice (some ⟨nN,xo,none⟩) c.aj.length xc)∧W.cell? ⟨nN,xo+I*3,none⟩=some (.string xq.name)∧W.cell? ⟨nN,xo+I*3+1,none⟩=some (.string xq.path)∧W.cell? ⟨nN,xo+I*3+2,none⟩=some (.bool xq.uniq) from
    ⟨(kL.o W (bI.o.trans hg)).1,(kL.o W (bI.o.trans hg)).2.1,(kL.o W (bI.o.trans hg)).2.2,(hg.below.cell (p:=⟨nN,xo+I*3,none⟩) Hb).trans (pT 0 (.string xq.name) rfl),(hg.below.cell (p:=⟨nN,xo+I*3+1,none⟩) Hb).trans (pT 1 (.string xq.path) rfl),(hg.below.cell (p:=⟨nN,xo+I*3+2,none⟩) Hb).trans (pT 2 (.bool xq.uniq) rfl)⟩)
   have x1:=pT 1 (.string xq.path) rfl;have yz:=aa (show xq.path.size≤200 from sk.o.path xq (by rw[← su];exact aS Cr));clear lH pT hget su;go_wp2_with fail;clear LI LJ LK hm x1;refine dg ?_;refine cW (S:=fun w'=>w'.cell? ⟨gb,P*3,none⟩=some (.string nm)∧w'.cell? ⟨gb,P*3+1,none⟩=some (.slice dA c.ag.length dc)∧w'.cell? ⟨gb,P*3+2,none⟩=some (.slice (some ⟨nN,xo,none⟩) c.aj.length xc)∧w'.cell? ⟨nN,xo+I*3,none⟩=some (.string xq.name)∧w'.cell? ⟨nN,xo+I*3+1,none⟩=some (.string xq.path)∧w'.cell? ⟨nN,xo+I*3+2,none⟩=some (.bool xq.uniq)) (by kernel_rfl) (Yr.o _ ((ah _).drew)) (fun hHeld=>?_);have lU:=aa (bI.o.drew);have Yt:=aa (sx.o.grow ((ah _).drew));have iK:=aa (show Grow wl wl.drew from (ah _).drew)
   generalize wl.drew=W at lU Yt iK hHeld ⊢;refine ai 0 ?_;refine ai 1 ?_;refine cO 2 ?_;refine ai 3 ?_;refine ai 4 ?_;refine ai 5 ?_;refine cO 6 ?_;refine ai 7 ?_;refine ai 8 ?_;refine cO 9 ?_;refine aK 10 (fun K hK=>?_);go_simp;go_at_call 60;refine(Xz (fun k=>k=mb) W.heap.size nm c.ag dA (some ⟨nN,xo,none⟩) dc c.aj.length xc xq W (dX (fun p u hp=>hp) _ _ (Yq.o W lU.o Yt.o)) (au _) (by have:=yz.o;omega) sk.o.ag (by omega) (HT.o.grow lU.o) (zD.o.grow lU.o)).mono ?_;rintro ee w8 ⟨bW,er,A9,c9,tU,l9,rfl,hen,Yu,Yv⟩;have mZ:=aa hen;have jo:=aa Yv;have Hh:=aa Yu;have LV:=aa bW.size;have bR:=aa (lU.o.trans bW);have Yw:=aa (iK.o.trans bW);clear hen bW Yu Yv;refine aT hK (Yr.o _ Yw.o) (fun hHeld=>?_);refine ai 11 ?_;refine ai 12 ?_
   refine ai 13 ?_;refine ai 14 ?_;refine ai 15 ?_;refine cG ?_;clear hHeld;go_wp2_with fail;go_loopg [7,105] (tU.length+1) (fun gk o i wr=>∃(j:Nat) (A6:Option Addr) (c6:Nat) (cs:List Cv) (l:List V),j≤tU.length∧gk+j=tU.length+1∧i=.int .i64 j∧o=.slice A6 cs.length c6∧VR (fun k=>k=mb) wr w8.heap.size A6 c6 cs l∧(∀d∈l,d∈c.ag)∧cs.length=j∧Grow w8 wr);exact⟨0,none,0,[],[],aR _,rfl,rfl,rfl,GR.nil _,fun _ h=>(by cases h),rfl,ah _⟩;obtain⟨j,A6,c6,cs,l,hj,hg,rfl,rfl,eF,Hp,hcl,hgr⟩:=hrel;obtain⟨gk',rfl⟩:=bz gk (by omega);have jw:=aa eF;have aJ:=aa hgr;have ib:=aa hcl;have Yx:=aa Hp;have hEl:=jo.o;clear eF hgr hcl Hp;by_cases hlt:j<tU.length
   ·have hlt':j<l9.length:=by rw[← mZ.o.two.1];exact hlt
    obtain⟨g,cur,hA,hb,hgg,hnc,hcm,hcs,ht,-⟩:=ju mZ.o.row (by omega);subst hA;have hev:=mZ.o.two.at_ hlt hlt';obtain⟨⟨eb,eA,ec,ez,ed⟩,Cg⟩:∃x,tU[j]=x:=⟨_,rfl⟩;rw[Cg] at hev;have hcell:∀(k:Nat),k<7→∀v,(gD.cells ⟨eb,eA,ec,ez,ed⟩).toList[k]?=some v→wr.cell? ⟨g,j*7+k,none⟩=some v:=fun k hk v hv=>by
     refine(aJ.o.below.cell (p:=⟨g,j*7+k,none⟩) (qq.1 hgg).1).trans (wV hgg ht _ _ ?_);rw[cellsE,mV _ 7 (fun _=>rfl) tU j k hk tU[j] (bH hlt),Cg];exact hv
    have a0:=hcell 0 (by omega) _ rfl;have a1:=hcell 1 (by omega) _ rfl;have a2:=hcell 2 (by omega) _ rfl;have a3:=hcell 3 (by omega) _ rfl;have a4:=hcell 4 (by omega) _ rfl;have a5:=hcell 5 (by omega) _ rfl;have a6:=hcell 6 (by omega) _ rfl;rw[fX] at a0;have QC:=aa (show jv (fun k=>k=mb) wr W.heap.size l9[j] ed from jv.below hev.doc aJ.o LV.o);obtain⟨yw,hv0,hv1,hv2,hv3⟩:=info_parts qB;have Cs:=aa hv0;have Ct:=aa hv1;have Cu:=aa hv2;have Cw:=aa hv3;have lj:=aa ((jw.o.grow kK ((ah wr).alloc (.cells (gD.cells ⟨eb,eA,ec,ez,ed⟩) 115))).grow kK ((ah _).alloc (.cells ed.cells 27)));have bt:=aa ((aJ.o.alloc (.cells (gD.cells ⟨eb,eA,ec,ez,ed⟩) 115)).alloc (.cells ed.cells 27))
    have hsz:w8.heap.size≤((wr.alloc (.cells (gD.cells ⟨eb,eA,ec,ez,ed⟩) 115)).alloc (.cells ed.cells 27)).heap.size:=bt.o.size;clear hcell hev Cg ht hcs hcm hnc hgg hb hv0 hv1 hv2 hv3;go_wp2_with (first | (at_builtin;refine Bj rfl (.tmp 109) (.tmp 112) 24 24 rfl w8.heap.size 27 yw _ 5 88 km Cs.o Ct.o Cu.o Cw.o rfl (.slice A6 cs.length c6) cs.length (cK cs) rfl lj.o.row _ 1 ed.cells.toList rfl (Src.agl ed 27) (by have:=ib.o;omega) (by simp only[maxLen];have:=ib.o;omega) hsz ?_;intro A7 c7 w9 jy Cn EA) | fail);have Rf:∀k,ba A6=some k→w8.heap.size≤k:=fun k hk=>(bJ jw.o.row k (by rw[bj];exact hk)).1
    have qX:=aa (GR.add (f:=vF) (z:=5) kK lj.o (b:=l9[j]) (dX (fun p u hp=>⟨hp.1,by have h1:=hp.2.1;have h2:=bt.o.size;have h3:=LV.o;omega,fun hq=>by
     rcases hq with hq | hq
     ·have h1:=Rf _ hq;have h2:=hp.2.1;have h3:=LV.o;omega
     exact hp.2.2 hq⟩) _ _ (jv.below QC.o (((ah wr).alloc (.cells (gD.cells ⟨eb,eA,ec,ez,ed⟩) 115)).alloc (.cells ed.cells 27)) (aV LV.o aJ.o.size))) jy Cn EA)
    have dN:=aa (bt.o.grown Cn (fun k hk=>Rf k (by rw[bj] at hk;exact hk)));clear jy Cn EA Rf;go_roundg gk';refine⟨j+1,A7,c7,cs++[ed],l++[l9[j]],by omega,by omega,by go_num,by simp,qX.o,fun d hd=>?_,by simp[ib.o],dN.o⟩;rcases qo.1 hd with hd | hd
    ·exact Yx.o d hd
    rw[rz.1 hd];exact Hh.o _ (aS hlt');omega
   have hjl:j=tU.length:=by omega
   subst hjl;have Yy:cs.length=l.length:=jw.o.two.1;have Yz:=aa (show l.length≤N by have:=ib.o;omega);have gH:=aa (VR.list jw.o (fun g hg e=>cU jw.o.row (HM.o.grow (bR.o.trans aJ.o)).blk (by decide) (e ▸ hg)) (by have:=Yz.o;omega));rw[Yy];clear Yy;go_wp2_with fail;go_meet;exact⟨A6,c6,l,xq.path,rfl,rfl,yz.o,fun d hd=>sk.o.ag d (Yx.o d hd),Yz.o,(Yw.o).trans aJ.o,gH.o⟩
  obtain⟨dB,dd,ds,ps,rfl,rfl,hps,hds,anA,hgl,bA⟩:=hcut;rename World=>wk;clear LI LJ LK hm;replace bI:=aa (bI.o.trans hgl);replace sx:=aa (HM.o.grow bI.o);have LW:=aa hps;have gS:=aa hds;have gH:=aa bA;clear hgl hps hds bA;go_wp2_with fail;go_loopg [117] (ds.length+1) (fun gk i wr=>∃(j:Nat) (A6:Option Addr) (c6:Nat) (cH:List Cv) (l6:List V),j≤ds.length∧gk+j=ds.length+1∧i=.int .i64 j∧Kept (fun k=>k=mb) wk wr∧Blk wr mb 96 (Q9 A st.length cap q.aM q.aw q.index q.path q.unique ck cl ch cx q.n 0 A6 cH.length c6) ∧
   VR (fun k=>k=mb) wr wk.heap.size A6 c6 cH l6∧(∀d∈l6,gh d)∧cH.length≤j)
  exact⟨0,none,0,[],[],aR _,rfl,rfl,cZ _ _,sx.o.blk,GR.nil _,fun _ h=>(by cases h),au _⟩;obtain⟨j,A6,c6,cH,l6,hj,hg,rfl,EF,xk,eF,YA,uH⟩:=hrel;obtain⟨gk',rfl⟩:=bz gk (by omega);have sy:=aa EF;have sA:=aa xk;have jw:=aa eF;have Rg:=aa YA;have qZ:=aa uH;have pV:=aa (show Below B w wr from (bI.o.below.mono HM.o.le).trans (EF.below sx.o.le (fun k hk=>hk ▸ HM.o.lo)));have Rh:=aa (fun(W:World) (hg:Grow wr W)=>show Below B w W from pV.o.trans (hg.below.mono (aV HM.o.le pV.o.size)));clear EF xk eF YA uH;by_cases hlt:j<ds.length
  ·obtain⟨tG,o2,y,ha,⟨e0,e1,e2,e3,e4⟩,hy⟩:=(gH.o.mono (C':=Xw (fun k=>k=mb) wr wk.heap.size) (fun p u hp=>⟨(kZ sy.o (fun _ h=>h) p u hp).1,hp.2.1,hp.2.2⟩)).Yn j hlt;dsimp only[js] at ha;subst ha;have HYP:=aa (show IsV (dI wr (fun q=>ba A6=some q∨q=mb)) ds[j] y from dX (fun p u hp=>⟨hp.1,bG hp.2.1 sy.o.size,fun hq=>by
    rcases hq with hq | hq
    ·have:=(bJ jw.o.row p.block (by rw[bj];exact hq)).1;have:=hp.2.1;omega
    exact hp.2.2 hq⟩) _ _ hy)
   have Ri:=aa (show wr.heap.size≠mb from fun e=>by have:=sA.o.lt;omega);have d0:=e0.1;have d1:=e1.1;have d2:=e2.1;have d3:=e3.1;have d4:=e4.1;have yx:=aa (show In wr ds[j] y from jv.jf hy sy.o.size);have LX:=aa (gS.o _ (aS hlt));have oF:=aa (KV ds[j] y wr (wr.alloc (.cells y.cells 27)) ((ah wr).alloc _) yx.o);have Cx:=(az wr 27 y.cells).cell;clear e0 e1 e2 e3 e4 hy;go_wp2_with fail;refine oF.o.mono ?_;rintro e w5 ⟨bK,ci,t,u,rfl,hu,GX⟩;have YB:=aa (show u.count≤20000 from by
    rcases GX with ⟨h,-⟩ | ⟨h,-,h2,-⟩
    ·exact aV (BK h) LX.o.count
    rw[h2];exact Yo)
   have a_:=aa (((ah wr).alloc (.cells y.cells 27)).trans bK);have LY:=aa (((az wr 27 y.cells).grow bK).alloc (.cells ci.cells 27));have Rj:=aa ((az wr 27 y.cells).grow bK).lt;have LZ:=aa (az w5 27 ci.cells);have Hq:=aa ((sA.o.grow a_.o).alloc (.cells ci.cells 27));have aN:=aa (a_.o.alloc (.cells ci.cells 27));have HU:=aa (hu.grow aN.o);have Q5:=Hq.o.cell;clear hu GX bK d0 d1 d2 d3 d4 Cx;go_upto_if 131 with fail;clear Q5;go_cut [] from 131 to 137 (fun wx=>∃(cv:Cv) (u:V),u.count≤20000∧In wx u cv∧Blk wx w5.heap.size 27 cv.cells∧Blk wx mb 96 (Q9 A st.length cap q.aM q.aw q.index q.path q.unique ck cl ch cx q.n 0 A6 cH.length c6)∧Grow wr wx∧Blk wx wr.heap.size 27 y.cells)
   case first =>
    by_cases xh:q.index.toList=[]
    ·have tZ:q.index.toList.isEmpty=true:=by rw[xh,List.isEmpty_nil]
     have yA:(!q.index.toList.isEmpty)=false:=by rw[tZ];rfl
     rw[yA];go_wp2_with fail;go_meet;exact⟨ci,u,YB.o,HU.o,LZ.o,Hq.o,aN.o,LY.o⟩
    have tZ:q.index.toList.isEmpty=false:=by simpa using xh
    have yA:(!q.index.toList.isEmpty)=true:=by rw[tZ];rfl
    rw[yA];have zX:=Hq.o.cell;have hv6:=LY.o.cell;have zF:=aa (PE ds[j] ps y (w5.alloc (.cells ci.cells 27)) (Rb.o _ (Rh.o _ aN.o)).1 (Rb.o _ (Rh.o _ aN.o)).2 LX.o.count (by have:=LW.o;omega) (yx.o.grow aN.o));go_wp2_with fail;clear zX hv6;refine zF.o.mono ?_;rintro e w6 ⟨bE,cp,tp,up,rfl,hup,L1⟩;have HUC:=aa (show up.count≤20000 from by
     rcases L1 with ⟨h,-⟩ | ⟨h,-,h2,-⟩
     ·exact aV (PF h) LX.o.count
     rw[h2];exact Yo)
    have tW:=aa (show w6.there w5.heap.size 0 5 from fun k hk=>mv (LZ.o.grow bE) (0+k) (by simpa using hk));have Hr:=aa (mJ w5.heap.size (some w5.heap.size) rfl cp.cells.toList w6 0);have YC:=aa (show Blk (w6.setCells w5.heap.size 0 cp.cells.toList) w5.heap.size 27 cp.cells from by
     unfold Blk;have:=Ku w5.heap.size 27 cp.cells.toList w6 0 ci.cells (LZ.o.grow bE) (by simp);simpa using this)
    have agr:=aa (aN.o.trans bE);have ags:=aa (Hq.o.grow bE);have agt:=aa (LY.o.grow bE);have Bt:=aa hup;have agu:=aa (show w5.heap.size<(w5.alloc (.cells ci.cells 27)).heap.size from by simp);clear hup L1 bE;go_wp2_with (first
     | ((with_reducible refine ago 27 ?_);refine wpList_store_mid rfl 27 (.tmp 15) (.tmp 136) rfl w5.heap.size 0 cp.cells rfl rfl tW.o (by kernel_rfl) (by simp[Value.oneCell']) ?_;(generalize w6.setCells w5.heap.size 0 cp.cells.toList=w7 at Hr YC ⊢))
     | fail)
    go_meet;exact⟨cp,up,HUC.o,dX jS _ _ (dX (kZ (pM Hr.o) (S:=fun k=>some w5.heap.size=some k) (fun _ h=>h)) _ _ (dX (dI.GD (au _) (fun k hk=>by cases hk;exact .inl agu.o)) _ _ Bt.o)),YC.o,
     ags.o.own Hr.o (fun k hk e=>by cases hk;have h1:=a_.o.size;have h2:=sA.o.lt;omega),agr.o.grown Hr.o (fun k hk=>by cases hk;exact a_.o.size),agt.o.own Hr.o (fun k hk e=>by cases hk;have h1:=Rj.o;omega)⟩
   clear YB HU LZ Hq aN LY;obtain⟨cv,u,tC,YD,hvb,Hs,bE,Cx⟩:=hcut;rename World=>W5;have z_:=aa YD;have jA:=aa hvb;have dt:=aa Hs;have aW:=aa bE;have iL:=aa Cx;have YE:=aa (fun(W:World) (hi:In W u cv) (hg:Grow wr W)=>show Calls prog 128 #[cv.agg,cl.agg,ch.agg] W fun e w'=>∃z,e=.returned (.bool z)∧Grow W w' from by
    have hb:=Rh.o W hg;exact adk u q.low q.high cv cl ch W (D8 tC hi) (D8 Rc.o (HM.o.low.jf HM.o.le)) (D8 Re.o (HM.o.high.jf HM.o.le)) (Rb.o W hb).1 hi ((HM.o.low.below hb (au _) (au _)).jf (aV HM.o.le hb.size)) ((HM.o.high.below hb (au _) (au _)).jf (aV HM.o.le hb.size)))
   clear YD hvb Hs bE Cx tC;go_upto_region 27 with fail;go_cut [163] from 138 to 163 (fun b wx=>∃z,b=.bool z∧Blk wx mb 96 (Q9 A st.length cap q.aM q.aw q.index q.path q.unique ck cl ch cx q.n 0 A6 cH.length c6)∧Grow wr wx∧Blk wx wr.heap.size 27 y.cells)
   case first =>
    rcases F4 (cH.length<q.n.toNat) with Cy | Cy
    ·have Rk:(cH.length:Int)<q.n:=by omega
     clear Cy;refine dg ?_
     refine cW (S:=fun w'=>w'.cell? ⟨mb,29,none⟩=some (.slice A6 cH.length c6)∧w'.cell? ⟨mb,26,none⟩=some (.int .i64 q.n)∧w'.cell? ⟨mb,11,none⟩=some (.int .i64 cl.k)∧w'.cell? ⟨mb,12,none⟩=some (.int .u64 cl.n)∧w'.cell? ⟨mb,13,none⟩=some (.slice cl.aB cl.nB cl.cB)∧w'.cell? ⟨mb,14,none⟩=some (.slice cl.aL cl.nL cl.cL)∧w'.cell? ⟨mb,15,none⟩=some (.slice cl.aF cl.nF cl.cF)∧w'.cell? ⟨mb,16,none⟩=some (.int .i64 ch.k)∧w'.cell? ⟨mb,17,none⟩=some (.int .u64 ch.n)∧w'.cell? ⟨mb,18,none⟩=some (.slice ch.aB ch.nB ch.cB)∧w'.cell? ⟨mb,19,none⟩=some (.slice ch.aL ch.nL ch.cL)∧w'.cell? ⟨mb,20,none⟩=some (.slice ch.aF ch.nF ch.cF)∧w'.cell? ⟨w5.heap.size,0,none⟩=some (.int .i64 cv.k)∧w'.cell? ⟨w5.heap.size,1,none⟩=some (.int .u64 cv.n)∧w'.cell? ⟨w5.heap.size,2,none⟩=some (.slice cv.aB cv.nB cv.cB)∧w'.cell? ⟨w5.heap.size,3,none⟩=some (.slice cv.aL cv.nL cv.cL)∧w'.cell? ⟨w5.heap.size,4,none⟩=some (.slice cv.aF cv.nF cv.cF)) (by kernel_rfl) (⟨dt.o.cell 29,dt.o.cell 26,dt.o.cell 11,dt.o.cell 12,dt.o.cell 13,dt.o.cell 14,dt.o.cell 15,dt.o.cell 16,dt.o.cell 17,dt.o.cell 18,dt.o.cell 19,dt.o.cell 20,jA.o.cell 0,jA.o.cell 1,jA.o.cell 2,jA.o.cell 3,jA.o.cell 4⟩) (fun hHeld=>?_)
     replace jA:=aa jA.o.drew;replace dt:=aa dt.o.drew;replace aW:=aa aW.o.drew;replace iL:=aa iL.o.drew;replace z_:=aa (z_.o.grow ((ah _).drew));generalize W5.drew=W6 at jA dt aW iL z_ hHeld ⊢;refine ai 0 ?_;refine ai 1 ?_;refine ai 2 ?_;refine ai 3 ?_;refine cO 4 ?_;refine ai 5 ?_;refine ai 6 ?_;refine ai 7 ?_;refine ai 8 ?_;refine ai 9 ?_;refine cO 10 ?_;refine ai 11 ?_;refine ai 12 ?_;refine cO 13 ?_;refine ai 14 ?_;refine ai 15 ?_;refine ai 16 ?_;refine ai 17 ?_;refine cO 18 ?_;refine ai 19 ?_;refine ai 20 ?_;refine ai 21 ?_;refine ai 22 ?_;refine cO 23 ?_;refine aK 24 (fun K hK=>?_);go_simp;go_at_call 128;refine(YE.o W6 z_.o aW.o).mono ?_;rintro ee w7 ⟨z,rfl,bw⟩;replace jA:=aa (jA.o.grow bw);replace dt:=aa (dt.o.grow bw);replace aW:=aa (aW.o.trans bw)
     replace iL:=aa (iL.o.grow bw);clear bw;refine hK.out _ _ ⟨dt.o.cell 29,dt.o.cell 26,dt.o.cell 11,dt.o.cell 12,dt.o.cell 13,dt.o.cell 14,dt.o.cell 15,dt.o.cell 16,dt.o.cell 17,dt.o.cell 18,dt.o.cell 19,dt.o.cell 20,jA.o.cell 0,jA.o.cell 1,jA.o.cell 2,jA.o.cell 3,jA.o.cell 4⟩ (fun hHeld=>?_)
     try simp only[aH]
     refine ai 25 ?_;refine cG ?_;clear hHeld Rk;go_wp2_with fail;go_meet;exact⟨_,rfl,dt.o,aW.o,iL.o⟩
    have Rk:¬ (cH.length:Int)<q.n:=by omega
    have agv:decide ((cH.length:Int)<q.n)=false:=by simp;omega
    clear Cy;refine dg ?_
    refine cW (S:=fun w'=>w'.cell? ⟨mb,29,none⟩=some (.slice A6 cH.length c6)∧w'.cell? ⟨mb,26,none⟩=some (.int .i64 q.n)∧w'.cell? ⟨mb,11,none⟩=some (.int .i64 cl.k)∧w'.cell? ⟨mb,12,none⟩=some (.int .u64 cl.n)∧w'.cell? ⟨mb,13,none⟩=some (.slice cl.aB cl.nB cl.cB)∧w'.cell? ⟨mb,14,none⟩=some (.slice cl.aL cl.nL cl.cL)∧w'.cell? ⟨mb,15,none⟩=some (.slice cl.aF cl.nF cl.cF)∧w'.cell? ⟨mb,16,none⟩=some (.int .i64 ch.k)∧w'.cell? ⟨mb,17,none⟩=some (.int .u64 ch.n)∧w'.cell? ⟨mb,18,none⟩=some (.slice ch.aB ch.nB ch.cB)∧w'.cell? ⟨mb,19,none⟩=some (.slice ch.aL ch.nL ch.cL)∧w'.cell? ⟨mb,20,none⟩=some (.slice ch.aF ch.nF ch.cF)∧w'.cell? ⟨w5.heap.size,0,none⟩=some (.int .i64 cv.k)∧w'.cell? ⟨w5.heap.size,1,none⟩=some (.int .u64 cv.n)∧w'.cell? ⟨w5.heap.size,2,none⟩=some (.slice cv.aB cv.nB cv.cB)∧w'.cell? ⟨w5.heap.size,3,none⟩=some (.slice cv.aL cv.nL cv.cL)∧w'.cell? ⟨w5.heap.size,4,none⟩=some (.slice cv.aF cv.nF cv.cF)) (by kernel_rfl) (⟨dt.o.cell 29,dt.o.cell 26,dt.o.cell 11,dt.o.cell 12,dt.o.cell 13,dt.o.cell 14,dt.o.cell 15,dt.o.cell 16,dt.o.cell 17,dt.o.cell 18,dt.o.cell 19,dt.o.cell 20,jA.o.cell 0,jA.o.cell 1,jA.o.cell 2,jA.o.cell 3,jA.o.cell 4⟩) (fun hHeld=>?_)
    replace jA:=aa jA.o.drew;replace dt:=aa dt.o.drew;replace aW:=aa aW.o.drew;replace iL:=aa iL.o.drew;replace z_:=aa (z_.o.grow ((ah _).drew));generalize W5.drew=W6 at jA dt aW iL z_ hHeld ⊢;refine ai 0 ?_;refine ai 1 ?_;refine ai 2 ?_;refine ai 3 ?_;refine cO 4 ?_;refine ai 5 ?_;refine ai 6 ?_;refine ai 7 ?_;refine ai 8 ?_;refine ai 9 ?_;refine cO 10 ?_;refine ai 11 ?_;refine ai 12 ?_;refine ai 13 (v:=undef) (hy:=Or.inr ⟨by rfl,rfl⟩) ?_;refine ai 14 (v:=undef) (hy:=Or.inr ⟨by rfl,rfl⟩) ?_;refine ai 15 (v:=undef) (hy:=Or.inr ⟨by rfl,rfl⟩) ?_;refine ai 16 (v:=undef) (hy:=Or.inr ⟨by rfl,rfl⟩) ?_;refine ai 17 (v:=undef) (hy:=Or.inr ⟨by rfl,rfl⟩) ?_;refine ai 18 (v:=undef) (hy:=Or.inr ⟨by rfl,rfl⟩) ?_;refine ai 19 (v:=undef) (hy:=Or.inr ⟨by rfl,rfl⟩) ?_
    refine ai 20 (v:=undef) (hy:=Or.inr ⟨by rfl,rfl⟩) ?_;refine ai 21 (v:=undef) (hy:=Or.inr ⟨by rfl,rfl⟩) ?_;refine ai 22 (v:=undef) (hy:=Or.inr ⟨by rfl,rfl⟩) ?_;refine ai 23 (v:=undef) (hy:=Or.inr ⟨by rfl,rfl⟩) ?_;refine ai 24 (v:=undef) (hy:=Or.inr ⟨by rfl,rfl⟩) ?_;refine ai 25 ?_;refine cG ?_;clear hHeld Rk agv;go_wp2_with fail;go_meet;exact⟨_,rfl,dt.o,aW.o,iL.o⟩
   clear jA dt aW iL z_ YE;obtain⟨z,rfl,Hs,bE,Cx⟩:=hcut;rename World=>W7;have dt:=aa Hs;have aW:=aa bE;have iL:=aa Cx;clear Hs bE Cx
   cases z with
   | false =>
    go_wp2_with fail;go_roundg gk';exact⟨j+1,A6,c6,cH,l6,by omega,by omega,by go_num,sy.o.trans (gN aW.o),dt.o,jw.o.grow kK aW.o,Rg.o,by have:=qZ.o;omega⟩;omega
   | true =>
    go_wp2_with fail;refine dg ?_;refine cW (S:=fun w'=>w'.cell? ⟨wr.heap.size,0,none⟩=some (.int .i64 y.k)∧w'.cell? ⟨wr.heap.size,1,none⟩=some (.int .u64 y.n)∧w'.cell? ⟨wr.heap.size,2,none⟩=some (.slice y.aB y.nB y.cB)∧w'.cell? ⟨wr.heap.size,3,none⟩=some (.slice y.aL y.nL y.cL)∧w'.cell? ⟨wr.heap.size,4,none⟩=some (.slice y.aF y.nF y.cF)) (by kernel_rfl) (⟨iL.o.cell 0,iL.o.cell 1,iL.o.cell 2,iL.o.cell 3,iL.o.cell 4⟩) (fun hHeld=>?_);replace dt:=aa dt.o.drew;replace aW:=aa aW.o.drew;replace iL:=aa iL.o.drew;generalize W7.drew=V at dt aW iL hHeld ⊢;obtain⟨yw,hv0,hv1,hv2,hv3⟩:=info_parts qB;have Cs:=aa hv0;have Ct:=aa hv1;have Cu:=aa hv2;have Cw:=aa hv3;clear hv0 hv1 hv2 hv3;refine ai 0 ?_;refine ai 1 ?_;refine ai 2 ?_
    refine ai 3 ?_;refine cO 5 ?_;refine bC [4,7] ?_;refine fC (fun K hK=>?_) (fC (fun K hK=>?_) dM)
    focus
     have Cm:=dt.o.cell
     go_simp
     refine hK.out _ _ ⟨iL.o.cell 0,iL.o.cell 1,iL.o.cell 2,iL.o.cell 3,iL.o.cell 4⟩ (fun hHeld=>?_)
     clear Cm
     try simp only[aH]
     refine ai 6 ?_
     refine aK 7 (fun K hK=>?_)
     go_simp
     have Rl:=aa (dt.o.alloc (.cells Cv.zero.cells 27))
     have bt:=aa (aW.o.alloc (.cells Cv.zero.cells 27))
     have lj:=aa (iL.o.alloc (.cells Cv.zero.cells 27))
     refine hK.out _ _ ⟨lj.o.cell 0,lj.o.cell 1,lj.o.cell 2,lj.o.cell 3,lj.o.cell 4⟩ (fun hHeld=>?_)
     try simp only[aH]
    rotate_left
    focus
     go_simp
     have Rl:=aa (dt.o.alloc (.cells Cv.zero.cells 27))
     have bt:=aa (aW.o.alloc (.cells Cv.zero.cells 27))
     have lj:=aa (iL.o.alloc (.cells Cv.zero.cells 27))
     refine hK.out _ _ ⟨lj.o.cell 0,lj.o.cell 1,lj.o.cell 2,lj.o.cell 3,lj.o.cell 4⟩ (fun hHeld=>?_)
     try simp only[aH]
     refine aK 4 (fun K hK=>?_)
     have Cm:=Rl.o.cell
     go_simp
     refine hK.out _ _ ⟨lj.o.cell 0,lj.o.cell 1,lj.o.cell 2,lj.o.cell 3,lj.o.cell 4⟩ (fun hHeld=>?_)
     clear Cm
     try simp only[aH]
     refine ai 6 ?_
    all_goals
     refine aK 8 (fun K hK=>?_)
     have YF:=aa (jw.o.grow kK bt.o)
     refine oa (by rfl) (.tmp 168) (.tmp 171) 24 24 (by rfl) wk.heap.size 27 yw _ 5 88 km Cs.o Ct.o Cu.o Cw.o (by rfl) (.slice A6 cH.length c6) cH.length (cK cH) (by rfl) YF.o.row _ 1 Cv.zero.cells.toList (by rfl) (Src.VQ (W:=V) Cv.zero 27 rfl) (by have:=qZ.o;omega) (by simp only[maxLen];have:=qZ.o;omega) (aV sy.o.size bt.o.size) ?_
     intro A7 c7 w8 dD ek sj
     obtain⟨g7,agw,Hk,kI,Ht,Rm,YG,Hu,-,-⟩:=ju dD (by omega)
     subst Hk
     have L4:∀k,Value.ownBlock (.slice A6 cH.length c6)=some k→wk.heap.size≤k∧k<wr.heap.size:=fun k hk=>⟨(bJ jw.o.row k hk).1,(bJ jw.o.row k hk).2⟩
     have jk:=aa kI
     have aX:=aa (show g7≠wr.heap.size from by
      rw[bj,bj] at sj
      rcases sj with h1 | h1
      ·have:=(L4 g7 (by rw[bj,← h1];rfl)).2;omega
      have h2:g7=(V.alloc (.cells Cv.zero.cells 27)).heap.size:=nZ h1
      have:=lj.o.lt
      omega)
     have EG:=aa (Q_ (sy.o.trans (gN bt.o)) ek (fun k hk=>(L4 k hk).1))
     have Aa:=aa (lj.o.own ek (fun k hk e=>by have:=(L4 k hk).2;omega))
     have yC:=aa (Rl.o.own ek (fun k hk e=>by rw[bj,e] at hk;exact cU jw.o.row sA.o (by decide) hk))
     have tW:=aa (show w8.there g7 (cH.length*5) 5 from fun k hk=>mv Ht (cH.length*5+k) (by rw[Hu];omega))
     have L5:=aa (show g7≠mb from fun e=>cU dD yC.o (by decide) (by rw[e];rfl))
     have agx:=aa (show (w8.setCell ⟨mb,29,none⟩ (.slice (some ⟨g7,0,none⟩) (cH.length+1) c7)).there g7 (cH.length*5) 5 from fun k hk=>mv ((C_ w8 ⟨mb,29,none⟩ _ g7 L5.o).trans Ht) (cH.length*5+k) (by rw[Hu];omega))
     have tX:=aa (agk (d:=y) (v:=ds[j]) YF.o (dX (kZ (gN (S:=fun _=>False) bt.o) fun q hq=>hq.elim) _ _ HYP.o) dD rfl ek sj)
     clear dD ek sj Ht Rm YG Hu L4 kI
     have anB:(cH.length:Int)<(cH.length:Int)+1:=by omega
     refine hK.out _ _ ⟨Aa.o.cell 0,Aa.o.cell 1,Aa.o.cell 2,Aa.o.cell 3,Aa.o.cell 4⟩ (fun hHeld=>?_)
     try simp only[aH]
     refine ai 9 ?_
     refine ai 11 ?_
     refine ai 12 ?_
     refine ai 13 ?_
     refine bC [10,14] ?_
     refine fC (fun K hK=>?_) (fC (fun K hK=>?_) dM)
     focus
      rw[aD (by rfl)]
      refine wp_store_mid 27 (.tmp 173) (.tmp 169) rfl g7 (cH.length*5) y.cells rfl rfl tW.o (by kernel_rfl) (by simp[Value.oneCell']) ?_
      have iW:=aa (mJ g7 (some g7) rfl y.cells.toList w8 (cH.length*5))
      generalize w8.setCells g7 (cH.length*5) y.cells.toList=w9 at iW tX ⊢
      have Rn:=aa (Q_ EG.o iW.o (fun k hk=>by cases hk;exact jk.o))
      have qX:=aa (Aa.o.own iW.o (fun k hk e=>by cases hk;exact aX.o e))
      have Cz:=aa (yC.o.own iW.o (fun k hk e=>by cases hk;exact L5.o e))
      have Ro:=Cz.o.cell
      have nQ:=Cz.o.frozen
      refine hK.out _ _ ⟨qX.o.cell 0,qX.o.cell 1,qX.o.cell 2,qX.o.cell 3,qX.o.cell 4⟩ (fun hHeld=>?_)
      try simp only[aH]
      refine aK 14 (fun K hK=>?_)
      go_simp
      have YH:=aa (Cz.o.aY 29 (.slice (some ⟨g7,0,none⟩) (cH.length+1) c7))
      have YI:=aa (Rn.o.set (p:=⟨mb,29,none⟩) rfl (.slice (some ⟨g7,0,none⟩) (cH.length+1) c7))
      have EH:=aa (qX.o.far (p:=⟨mb,29,none⟩) Ri.o (.slice (some ⟨g7,0,none⟩) (cH.length+1) c7))
      have YJ:=aa (tX.o.kept kK (mr (S:=fun k=>k=mb) (cZ _ w9) (p:=⟨mb,29,none⟩) rfl (.slice (some ⟨g7,0,none⟩) (cH.length+1) c7)) (fun _ h=>h) (fun g hg e=>cU tX.o.row Cz.o (by decide) (e ▸ hg)))
      clear Ro nQ
     rotate_left
     focus
      have Ro:=yC.o.cell
      have nQ:=yC.o.frozen
      go_simp
      clear Ro nQ
      have Hv:=aa (Aa.o.far (p:=⟨mb,29,none⟩) Ri.o (.slice (some ⟨g7,0,none⟩) (cH.length+1) c7))
      refine hK.out _ _ ⟨Hv.o.cell 0,Hv.o.cell 1,Hv.o.cell 2,Hv.o.cell 3,Hv.o.cell 4⟩ (fun hHeld=>?_)
      try simp only[aH]
      refine aK 10 (fun K hK=>?_)
      rw[aD (by rfl)]
      refine wp_store_mid 27 (.tmp 173) (.tmp 169) rfl g7 (cH.length*5) y.cells rfl rfl agx.o (by kernel_rfl) (by simp[Value.oneCell']) ?_
      rw[Yp (p:=⟨mb,29,none⟩) L5.o]
      have iW:=aa (mJ g7 (some g7) rfl y.cells.toList w8 (cH.length*5))
      generalize w8.setCells g7 (cH.length*5) y.cells.toList=w9 at iW tX ⊢
      have Rn:=aa (Q_ EG.o iW.o (fun k hk=>by cases hk;exact jk.o))
      have qX:=aa (Aa.o.own iW.o (fun k hk e=>by cases hk;exact aX.o e))
      have Cz:=aa (yC.o.own iW.o (fun k hk e=>by cases hk;exact L5.o e))
      have YH:=aa (Cz.o.aY 29 (.slice (some ⟨g7,0,none⟩) (cH.length+1) c7))
      have YI:=aa (Rn.o.set (p:=⟨mb,29,none⟩) rfl (.slice (some ⟨g7,0,none⟩) (cH.length+1) c7))
      have EH:=aa (qX.o.far (p:=⟨mb,29,none⟩) Ri.o (.slice (some ⟨g7,0,none⟩) (cH.length+1) c7))
      have YJ:=aa (tX.o.kept kK (mr (S:=fun k=>k=mb) (cZ _ w9) (p:=⟨mb,29,none⟩) rfl (.slice (some ⟨g7,0,none⟩) (cH.length+1) c7)) (fun _ h=>h) (fun g hg e=>cU tX.o.row Cz.o (by decide) (e ▸ hg)))
     all_goals
      refine hK.out _ _ ⟨EH.o.cell 0,EH.o.cell 1,EH.o.cell 2,EH.o.cell 3,EH.o.cell 4⟩ (fun hHeld=>?_)
      try simp only[aH]
      refine cG ?_
      clear hHeld
      go_wp2_with fail
      go_roundg gk'
      have hl:(cH++[y]).length=cH.length+1:=by simp
      refine⟨j+1,some ⟨g7,0,none⟩,c7,cH++[y],l6++[ds[j]],by omega,by omega,by go_num,YI.o,by rw[hl];exact YH.o,YJ.o,fun d hd=>?_,by rw[hl];have:=qZ.o;omega⟩
      rcases qo.1 hd with hd | hd
      ·exact Rg.o d hd
      rw[rz.1 hd];exact LX.o
      omega
  have hjl:j=ds.length:=by omega
  subst hjl;have Q5:=sA.o.cell;have iY:=sA.o.frozen;go_wp2_with fail;go_end0;have HB:=sA.o.aY 28 (.int .i64 (cH.length:Int));have zw:=sy.o.set (p:=⟨mb,28,none⟩) rfl (.int .i64 (cH.length:Int));have hvk:=jw.o.kept kK (mr (S:=fun k=>k=mb) (cZ _ wr) (p:=⟨mb,28,none⟩) rfl (.int .i64 (cH.length:Int))) (fun _ h=>h) (fun g hg e=>cU jw.o.row sA.o (by decide) (e ▸ hg));have agy:cH.length=l6.length:=hvk.two.1;refine⟨_,.inr ⟨st,(cH.length:Int),l6,rfl,bD.o.mono (fJ _),Rg.o,by have:=qZ.o;omega⟩,wY ((bI.o.below.mono HM.o.le).trans (zw.below sx.o.le (fun k hk=>hk ▸ HM.o.lo))) rfl (bG sx.o.lt zw.size) (A:=A) (cap:=cap) (dA:=A6) (dc:=c6) (HB.cell 0) ?_ (HB.cell 28) ((HB.cell 29).trans (by rw[← agy];rfl)) ?_⟩
  ·exact sx.o.finish zw (bD.o.dl hN)
  exact VR.B_ hvk (fun g hg e=>cU hvk.row HB (by decide) (e ▸ hg)) (by have h2:=qZ.o;omega)
theorem InL.YK{cap:Nat}{vs:List V}(h:InL w A cap vs):In w (.mk 0 0 [] vs []) ⟨0,0,none,0,0,A,vs.length,cap,none,0,0⟩:=by
 unfold InL In at *;rw[IsV] at h ⊢;obtain⟨e1,e2,e3,e4,e5,h1',h2',h3,h4,h5,h6,h7,h8,h9,hb,hL,hF⟩:=h;exact⟨rfl,e2,e3,e4,e5,by decide,by decide,h3,h4,h5,h6,h7,h8,h9,hb,hL,hF⟩
theorem L6(l m:List V)(A B:Option Addr)(ca cb:Nat)(w:World)(ha:InL w A ca l)(hb:InL w B cb m) :
 Calls prog 19 #[.slice A l.length ca,.slice B m.length cb] w fun e w'=>∃b,e=.returned (.bool b)∧(b=true↔l=m)∧Grow w w':=by
 have HC:=aa (VJ (.mk 0 0 [] l []) (.mk 0 0 [] m []) w _ _ ha.YK hb.YK);have hs:pC (.mk 0 0 [] l []) (.mk 0 0 [] m [])=true↔l=m:=by
  rw[Ot];constructor
  ·intro h;injection h
  intro h;rw[h]
 have HS:=aa hs;obtain⟨b,hb⟩:∃b,pC (.mk 0 0 [] l []) (.mk 0 0 [] m [])=b:=⟨_,rfl⟩;rw[hb] at HC HS;clear ha hs hb;go_enter func19,ntmps19;go_wp2_with fail;refine HC.o.mono ?_;rintro e w2 ⟨rfl,hg⟩;have HG:=aa hg;clear hg;go_wp2_with fail;go_ret;exact⟨b,rfl,HS.o,HG.o⟩
theorem agz(a b:Rp)(A B:Option Addr)(ca cb:Nat)(w:World)(ha:InL w A ca a.ag)(hb:InL w B cb b.ag) :
 Calls prog 51 #[.agg (cS a.e a.n A a.ag.length ca a.eX),.agg (cS b.e b.n B b.ag.length cb b.eX)] w fun e w'=>∃x,e=.returned (.bool x)∧(x=true↔a=b)∧Grow w w':=by
 have HL:=aa (fun w1 (hg:Grow w w1)=>L6 a.ag b.ag A B ca cb w1 (ha.grow hg) (hb.grow hg));clear ha hb;obtain⟨e,n,ag,cu⟩:=a;obtain⟨e',n',vA,Rs⟩:=b;dsimp only at HL ⊢;have aN:=aa (((ah w).alloc (.cells (cS e n A ag.length ca cu) 31)).alloc (.cells (cS e' n' B vA.length cb Rs) 31));by_cases h1:e=e'
 ·by_cases h2:n=n'
  ·by_cases h3:cu=Rs
   ·subst h1 h2 h3;have q1:(e==e)=true:=by simp
    have q2:(n==n)=true:=by simp
    have q3:(cu==cu)=true:=by simp
    go_enter func51,ntmps51;go_wp2_with fail;refine(HL.o _ aN.o).mono ?_;rintro ee w2 ⟨x,rfl,hx,hg⟩;have HG:=aa hg;have HX:=aa hx;clear hg hx;go_wp2_with fail;go_ret;refine⟨x,rfl,HX.o.trans ⟨fun h=>(by rw[h]),fun h=>(by injection h)⟩,aN.o.trans HG.o⟩
   subst h1 h2;have q1:(e==e)=true:=by simp
   have q2:(n==n)=true:=by simp
   have q3:(cu==Rs)=false:=by simp[h3]
   have HX:=aa h3;clear h3;go_enter func51,ntmps51;go_wp2_with fail;go_ret;exact⟨false,rfl,⟨fun h=>(by cases h),fun h=>by injection h with _ _ _ h;exact absurd h HX.o⟩,aN.o⟩
  subst h1;have q1:(e==e)=true:=by simp
  have q2:(n==n')=false:=by simp[h2]
  have HX:=aa h2;clear h2;go_enter func51,ntmps51;go_wp2_with fail;go_ret;exact⟨false,rfl,⟨fun h=>(by cases h),fun h=>by injection h with _ h;exact absurd h HX.o⟩,aN.o⟩
 have q1:(e==e')=false:=by simp[h1]
 have HX:=aa h1;clear h1;go_enter func51,ntmps51;go_wp2_with fail;go_ret;exact⟨false,rfl,⟨fun h=>(by cases h),fun h=>by injection h with h;exact absurd h HX.o⟩,aN.o⟩
theorem Rt(a b:Rp)(A B:Option Addr)(ca cb:Nat)(w:World)(ha:InL w A ca a.ag)(hb:InL w B cb b.ag) :
 Calls prog 23 #[.agg (cS a.e a.n A a.ag.length ca a.eX),.agg (cS b.e b.n B b.ag.length cb b.eX)] w fun e w'=>∃x,e=.returned (.bool x)∧(x=true↔a=b)∧Grow w w':=by
 have aN:=aa (((ah w).alloc (.cells (cS a.e a.n A a.ag.length ca a.eX) 31)).alloc (.cells (cS b.e b.n B b.ag.length cb b.eX) 31));have HR:=aa (agz a b A B ca cb _ (ha.grow aN.o) (hb.grow aN.o));clear ha hb;go_enter func23,ntmps23;go_wp2_with fail;refine HR.o.mono ?_;rintro ee w2 ⟨x,rfl,hx,hg⟩;have HG:=aa hg;have HX:=aa hx;clear hg hx;go_wp2_with fail;go_ret;exact⟨x,rfl,HX.o,aN.o.trans HG.o⟩
abbrev rf(s:ByteArray)(x:Cv):Array Value:=#[.string s,.int .i64 x.k,.int .u64 x.n,.slice x.aB x.nB x.cB,.slice x.aL x.nL x.cL,.slice x.aF x.nF x.cF]
def L8(v:V):Prop:=∀(w:World) (c c':Cv),In w v c→In w v c'→Calls prog 65 #[c.agg,c'.agg] w fun e w'=>e=.returned (.bool true)∧Grow w w'
theorem YL(k:Int)(n:Nat)(b:List UInt8)(l:List V)(f:List (ByteArray×V))(k1 k2:Int)(n1 n2:Int)(aB aL aF bB bL bF:Option Addr)(m1 m2 c1 cL c2 d1 dL d2 p1 p2:Nat)(w:World)(h:In w (.mk k n b l f) ⟨k1,n1,aB,m1,c1,aL,l.length,cL,aF,p1,c2⟩)(h':In w (.mk k n b l f) ⟨k2,n2,bB,m2,d1,bL,l.length,dL,bF,p2,d2⟩)(hs:∀v∈l,L8 v) :
 Calls prog 64 #[.slice aL l.length cL,.slice bL l.length dL,.func (.func 65) #[] #[]] w fun e w'=>e=.returned (.bool true)∧Grow w w':=by
 obtain⟨_,_,_,_,_,_,-,-,-,-,-,-,-,Cy,-,hfn,-⟩:=h.open;have HH:=aa h;have xm:=aa h';have HS:=aa hs;clear h h' hs;go_enter func64,ntmps64;go_wp2_with fail;go_loopg [17] (l.length+1) (fun gk i wr=>∃j:Nat,j≤l.length∧gk+j=l.length+1∧i=.int .i64 j∧Grow w wr);exact⟨0,aR _,rfl,rfl,ah w⟩;obtain⟨j,hj,hg,rfl,hgr⟩:=hrel;obtain⟨gk',rfl⟩:=bz gk (by omega);have HG:=aa hgr;clear hgr;by_cases hlt:j<l.length
 ·obtain⟨bk,o,x,ha,hbk,e0,e1,e2,e3,e4,hx⟩:=(HH.o.grow HG.o).fh j hlt;obtain⟨pD,o',x',ha',og,uG,xS,e2',e3',Bo,hx'⟩:=(xm.o.grow HG.o).fh j hlt;dsimp only at ha ha';subst ha ha';have HA:=aa ((HG.o.alloc (.cells x.cells 27)).alloc (.cells x'.cells 27));have ha:=((az wr 27 x.cells).alloc (.cells x'.cells 27)).cell;have hb:=(cM (w:=wr.alloc (.cells x.cells 27)) (g:=wr.heap.size+1) (by simp) 27 x'.cells).cell;have HC:=aa (HS.o l[j] (aS hlt) ((wr.alloc (.cells x.cells 27)).alloc (.cells x'.cells 27)) x x' (hx.grow (((ah wr).alloc _).alloc _)) (hx'.grow (((ah wr).alloc _).alloc _)));clear hx hx';go_wp2_with fail;refine HC.o.mono ?_;rintro e w2 ⟨rfl,hg2⟩;have HG2:=aa (HA.o.trans hg2);clear hg2;go_wp2_with fail;go_roundg gk';exact⟨j+1,by omega,by omega,by go_num,HG2.o⟩;omega
 have hjl:j=l.length:=by omega
 subst hjl;go_wp2_with fail;go_ret;exact⟨rfl,HG.o⟩
theorem agA(s:ByteArray)(v:V)(hs:L8 v)(w:World)(x x':Cv)(h:In w v x)(h':In w v x') :
 Calls prog 111 #[.agg #[.string s,.int .i64 x.k,.int .u64 x.n,.slice x.aB x.nB x.cB,.slice x.aL x.nL x.cL,.slice x.aF x.nF x.cF],.agg #[.string s,.int .i64 x'.k,.int .u64 x'.n,.slice x'.aB x'.nB x'.cB,.slice x'.aL x'.nL x'.cL,.slice x'.aF x'.nF x'.cF]] w fun e w'=>e=.returned (.bool true)∧Grow w w':=by
 have HC:=aa (fun(W:World) (hg:Grow w W)=>hs W x x' (h.grow hg) (h'.grow hg));have HG:=aa (((ah w).alloc (.cells (rf s x) 82)).alloc (.cells (rf s x') 82));clear h h' hs;have hq:(s.toList==s.toList)=true:=by simp
 go_enter func111,ntmps111;go_wp2_with fail;refine(HC.o _ HG.o).mono ?_;rintro e w2 ⟨rfl,hg2⟩;have HG2:=aa (HG.o.trans hg2);clear hg2;go_wp2_with fail;go_ret;exact⟨rfl,HG2.o⟩
theorem agB(k:Int)(n:Nat)(b:List UInt8)(l:List V)(f:List (ByteArray×V))(k1 k2:Int)(n1 n2:Int)(aB aL aF bB bL bF:Option Addr)(m1 m2 c1 cL c2 d1 dL d2 p1 p2:Nat)(w:World)(h:In w (.mk k n b l f) ⟨k1,n1,aB,m1,c1,aL,p1,cL,aF,f.length,c2⟩)(h':In w (.mk k n b l f) ⟨k2,n2,bB,m2,d1,bL,p2,dL,bF,f.length,d2⟩)(hs:∀v∈f,L8 v.2) :
 Calls prog 110 #[.slice aF f.length c2,.slice bF f.length d2,.func (.func 111) #[] #[]] w fun e w'=>e=.returned (.bool true)∧Grow w w':=by
 obtain⟨_,_,_,_,_,_,-,-,-,-,-,-,-,Cy,-,hfn,-⟩:=h.open;have HH:=aa h;have xm:=aa h';have HS:=aa hs;clear h h' hs;go_enter func110,ntmps110;go_wp2_with fail;go_loopg [17] (f.length+1) (fun gk i wr=>∃j:Nat,j≤f.length∧gk+j=f.length+1∧i=.int .i64 j∧Grow w wr);exact⟨0,aR _,rfl,rfl,ah w⟩;obtain⟨j,hj,hg,rfl,hgr⟩:=hrel;obtain⟨gk',rfl⟩:=bz gk (by omega);have HG:=aa hgr;clear hgr;by_cases hlt:j<f.length
 ·obtain⟨bk,o,x,ha,hbk,es,-,e0,e1,e2,e3,e4,hx⟩:=(HH.o.grow HG.o).gX j hlt;obtain⟨pD,o',x',ha',og,es',-,uG,xS,e2',e3',Bo,hx'⟩:=(xm.o.grow HG.o).gX j hlt;dsimp only at ha ha';subst ha ha';have HA:=aa ((HG.o.alloc (.cells (rf f[j].1 x) 82)).alloc (.cells (rf f[j].1 x') 82));have ha:=((az wr 82 (rf f[j].1 x)).alloc (.cells (rf f[j].1 x') 82)).cell;have hb:=(cM (w:=wr.alloc (.cells (rf f[j].1 x) 82)) (g:=wr.heap.size+1) (by simp) 82 (rf f[j].1 x')).cell;have HC:=aa (agA f[j].1 f[j].2 (HS.o f[j] (aS hlt)) ((wr.alloc (.cells (rf f[j].1 x) 82)).alloc (.cells (rf f[j].1 x') 82)) x x' (hx.grow (((ah wr).alloc (.cells (rf f[j].1 x) 82)).alloc (.cells (rf f[j].1 x') 82))) (hx'.grow (((ah wr).alloc (.cells (rf f[j].1 x) 82)).alloc (.cells (rf f[j].1 x') 82))))
  obtain⟨s,hs0⟩:∃s,f[j].1=s:=⟨_,rfl⟩;rw[hs0] at es es' HC HA ha hb;clear hx hx' hs0;go_wp2_with fail;refine HC.o.mono ?_;rintro e w2 ⟨rfl,hg2⟩;have HG2:=aa (HA.o.trans hg2);clear hg2;go_wp2_with fail;go_roundg gk';exact⟨j+1,by omega,by omega,by go_num,HG2.o⟩;omega
 have hjl:j=f.length:=by omega
 subst hjl;go_wp2_with fail;go_ret;exact⟨rfl,HG.o⟩
theorem agC(v:V):L8 v:=by
 induction v using V.ind with
 | h k n b l f hl hf =>
  intro w c c' h h';have HH:=aa h;have xm:=aa h';have Hl:=aa hl;have Hf:=aa hf;obtain⟨aB,aL,aF,cB,cL,cF,rfl,-,-,-,-,-,-,-,-,-,hb⟩:=h.open;obtain⟨bB,bL,bF,dB,dL,dF,rfl,-,-,-,-,-,-,-,-,-,hb'⟩:=h'.open;have HB:=aa hb;have jh:=aa hb';clear h h' hb hb' hl hf;have HG:=aa (((ah w).alloc (.cells (Cv.mk k n aB b.length cB aL l.length cL aF f.length cF).cells 27)).alloc (.cells (Cv.mk k n bB b.length dB bL l.length dL bF f.length dF).cells 27));have HA:=aa ((az w 27 (Cv.mk k n aB b.length cB aL l.length cL aF f.length cF).cells).alloc (.cells (Cv.mk k n bB b.length dB bL l.length dL bF f.length dF).cells 27))
  have HD:=aa (cM (w:=w.alloc (.cells (Cv.mk k n aB b.length cB aL l.length cL aF f.length cF).cells 27)) (g:=w.heap.size+1) (by simp) 27 (Cv.mk k n bB b.length dB bL l.length dL bF f.length dF).cells);have HE:=aa (fun(W:World) (hg:Grow w W)=>XF b b aB bB cB dB W (HB.o.grow hg) (jh.o.grow hg));rw[show (b==b)=true by simp] at HE;have HL:=aa (fun(W:World) (hg:Grow w W)=>YL k n b l f k k n n aB aL aF bB bL bF b.length b.length cB cL cF dB dL dF f.length f.length W (HH.o.grow hg) (xm.o.grow hg) (fun v hv=>Hl.o v hv));have HF:=aa (fun(W:World) (hg:Grow w W)=>agB k n b l f k k n n aB aL aF bB bL bF b.length b.length cB cL cF dB dL dF l.length l.length W (HH.o.grow hg) (xm.o.grow hg) (fun v hv=>Hf.o v hv));have ha:=HA.o.cell;have hd:=HD.o.cell;go_enter func65,ntmps65;go_wp2_with fail
  refine(HE.o _ HG.o).mono ?_;rintro e w2 ⟨rfl,rfl⟩;go_wp2_with fail;clear ha hd;refine(HL.o _ HG.o).mono ?_;rintro e w3 ⟨rfl,hg3⟩;have aG:=aa (HG.o.trans hg3);have ha:=(HA.o.grow hg3).cell;have hd:=(HD.o.grow hg3).cell;clear hg3;go_wp2_with fail;refine(HF.o _ aG.o).mono ?_;rintro e w4 ⟨rfl,hg4⟩;have bP:=aa (aG.o.trans hg4);clear hg4;go_wp2_with fail;go_ret;exact⟨rfl,bP.o⟩
theorem agD(xs:List Ix)(A A':Option Addr)(c c':Nat)(w:World)(h:jR w A xs)(h':jR w A' xs)(Cy:xs.length≤140737488355328) :
 Calls prog 66 #[.slice A xs.length c,.slice A' xs.length c'] w fun e w'=>e=.returned (.bool true)∧Grow w w':=by
 have HH:=aa h;have xm:=aa h';clear h h';go_enter func66,ntmps66;go_wp2_with fail;go_loopg [13] (xs.length+1) (fun gk i wr=>∃j:Nat,j≤xs.length∧gk+j=xs.length+1∧i=.int .i64 j∧Grow w wr);exact⟨0,aR _,rfl,rfl,ah w⟩;obtain⟨j,hj,hg,rfl,hgr⟩:=hrel;obtain⟨gk',rfl⟩:=bz gk (by omega);have HG:=aa hgr;by_cases hlt:j<xs.length
 ·obtain⟨bk,o,ha,hbk,e0,e1,e2⟩:=jR.pN (BS HH.o hgr) j hlt;obtain⟨pD,o',ha',og,uG,xS,e2'⟩:=jR.pN (BS xm.o hgr) j hlt;subst ha ha';clear hgr;go_wp2_with fail;go_big_quiet (fail);go_wp2_with fail;go_roundg gk';exact⟨j+1,by omega,by omega,by go_num,HG.o.drewN _⟩;omega
 have hjl:j=xs.length:=by omega
 subst hjl;go_wp2_with fail;go_ret;exact⟨rfl,HG.o⟩
theorem agE(e e':Cc)(c:Co)(w:World)(h:qL w e c)(h':qL w e' c)(hxl:c.aj.length≤140737488355328):Calls prog 63 #[.agg e.cells,.agg e'.cells] w fun e w'=>e=.returned (.bool true)∧Grow w w':=by
 obtain⟨nm,dA,dn,dc,xA,xn,xc⟩:=e;obtain⟨nm',EI,dn',EJ,L9,L_,Ma⟩:=e';obtain⟨rfl,rfl,rfl,-,hd,hx⟩:=h;obtain⟨h1,h2,h3,-,hd',hx'⟩:=h';dsimp only at h1 h2 h3 hd hx hd' hx' ⊢;subst h1 h2 h3;have HD:=aa (fun(W:World) (hg:Grow w W)=>YL 7 0 [] c.ag [] 7 7 0 0 none dA none none EI none 0 0 0 dc 0 0 EJ 0 0 0 W (oc hd hg) (oc hd' hg) (fun v _=>agC v));have HX:=aa (fun(W:World) (hg:Grow w W)=>agD c.aj xA L9 xc Ma W (BS hx hg) (BS hx' hg) hxl);clear hd hx hd' hx';obtain⟨nm,ag,aj⟩:=c;dsimp only at HD HX ⊢;have HG:=aa (((ah w).alloc (.cells #[.string nm,.slice dA ag.length dc,.slice xA aj.length xc] 48)).alloc (.cells #[.string nm,.slice EI ag.length EJ,.slice L9 aj.length Ma] 48))
 have HA:=aa ((az w 48 #[.string nm,.slice dA ag.length dc,.slice xA aj.length xc]).alloc (.cells #[.string nm,.slice EI ag.length EJ,.slice L9 aj.length Ma] 48));have HB:=aa (cM (w:=w.alloc (.cells #[.string nm,.slice dA ag.length dc,.slice xA aj.length xc] 48)) (g:=w.heap.size+1) (by simp) 48 #[.string nm,.slice EI ag.length EJ,.slice L9 aj.length Ma]);have hq:(nm.toList==nm.toList)=true:=by simp
 have ha:=HA.o.cell;have hb:=HB.o.cell;go_enter func63,ntmps63;go_wp2_with fail;clear ha hb;refine(HD.o _ HG.o).mono ?_;rintro e w3 ⟨rfl,hg3⟩;have aG:=aa (HG.o.trans hg3);have ha:=(HA.o.grow hg3).cell;have hb:=(HB.o.grow hg3).cell;clear hg3;go_wp2_with fail;refine(HX.o _ aG.o).mono ?_;rintro e w4 ⟨rfl,hg4⟩;have bP:=aa (aG.o.trans hg4);clear hg4;go_wp2_with fail;go_ret;exact⟨rfl,bP.o⟩
theorem agF(st:List Co)(A A':Option Addr)(c c':Nat)(w:World)(h:cQ w A c st)(h':cQ w A' c' st)(hs:st.length≤1000000∧∀c∈st,c.aj.length≤140737488355328) :
 Calls prog 62 #[.slice A st.length c,.slice A' st.length c',.func (.func 63) #[] #[]] w fun e w'=>e=.returned (.bool true)∧Grow w w':=by
 have Cy:=hs.1;have HH:=aa h;have xm:=aa h';have HS:=aa hs;clear h h' hs;go_enter func62,ntmps62;go_wp2_with fail;go_loopg [17] (st.length+1) (fun gk i wr=>∃j:Nat,j≤st.length∧gk+j=st.length+1∧i=.int .i64 j∧Grow w wr);exact⟨0,aR _,rfl,rfl,ah w⟩;obtain⟨j,hj,hg,rfl,hgr⟩:=hrel;obtain⟨gk',rfl⟩:=bz gk (by omega);have HG:=aa hgr;clear hgr;by_cases hlt:j<st.length
 ·obtain⟨bk,o,x,ha,hbk,hx,kA⟩:=(HH.o.grow HG.o).pN j hlt;obtain⟨pD,o',x',ha',og,hx',Mb⟩:=(xm.o.grow HG.o).pN j hlt;subst ha ha';have e0:=kA 0 _ rfl (by omega);have e1:=kA 1 _ rfl (by omega);have e2:=kA 2 _ rfl (by omega);have uG:=Mb 0 _ rfl (by omega);have xS:=Mb 1 _ rfl (by omega);have e2':=Mb 2 _ rfl (by omega);rw[fX] at e0 uG;clear kA Mb;have HA:=aa ((HG.o.alloc (.cells x.cells 48)).alloc (.cells x'.cells 48));have ha:=((az wr 48 x.cells).alloc (.cells x'.cells 48)).cell;have hb:=(cM (w:=wr.alloc (.cells x.cells 48)) (g:=wr.heap.size+1) (by simp) 48 x'.cells).cell
  have HC:=aa (agE x x' st[j] ((wr.alloc (.cells x.cells 48)).alloc (.cells x'.cells 48)) (hx.mono (eU (((ah wr).alloc _).alloc _).below (au _) (au _) (((ah wr).alloc _).alloc _).size)) (hx'.mono (eU (((ah wr).alloc _).alloc _).below (au _) (au _) (((ah wr).alloc _).alloc _).size)) (HS.o.2 _ (aS hlt)));clear hx hx';go_wp2_with fail;refine HC.o.mono ?_;rintro e w2 ⟨rfl,hg2⟩;have HG2:=aa (HA.o.trans hg2);clear hg2;go_wp2_with fail;go_roundg gk';exact⟨j+1,by omega,by omega,by go_num,HG2.o⟩;omega
 have hjl:j=st.length:=by omega
 subst hjl;go_wp2_with fail;go_ret;exact⟨rfl,HG.o⟩
theorem YM(st:List Co)(A A':Option Addr)(c c':Nat)(w:World)(h:cQ w A c st)(h':cQ w A' c' st)(hs:st.length≤1000000∧∀c∈st,c.aj.length≤140737488355328) :
 Calls prog 33 #[.agg #[.slice A st.length c],.agg #[.slice A' st.length c']] w fun e w'=>e=.returned (.bool true)∧Grow w w':=by
 have HC:=aa (fun(W:World) (hg:Grow w W)=>agF st A A' c c' W (h.grow hg) (h'.grow hg) hs);have HG:=aa (((ah w).alloc (.cells #[.slice A st.length c] 44)).alloc (.cells #[.slice A' st.length c'] 44));clear h h' hs;go_enter func33,ntmps33;go_wp2_with fail;refine(HC.o _ HG.o).mono ?_;rintro e w2 ⟨rfl,hg2⟩;have HG2:=aa (HG.o.trans hg2);clear hg2;go_wp2_with fail;go_ret;exact⟨rfl,HG2.o⟩
section
open Go.RowKit Go.Shelf
abbrev Hw(k n:Int):Cv:=⟨k,n,none,0,0,none,0,0,none,0,0⟩
theorem YN(i:Nat)(hF:F.results=#[ResultVar.cell i 27])(h2:tmps.getD i undef=.pointer (some ⟨vb,0,none⟩))(c:Cv)(hv:Blk W vb 27 c.cells) :
 (results F tmps).run prog W=.ok c.agg W:=by
 have tC:=hv.cell;have h2':tmps[i]?.getD undef=.pointer (some ⟨vb,0,none⟩):=by simpa using h2
 simp[results,hF,go_sem,h2',tC]
theorem YO{n:Nat}(h:n<18446744073709551616):IsV C (iV n) (Hw 3 n):=by
 unfold iV;rw[IsV];exact⟨rfl,rfl,rfl,rfl,rfl,by decide,by decide,h,by simp,by simp,by simp,by simp,by simp,by simp,⟨rfl,fun h=>by simp at h⟩,fun i hi=>by simp at hi,fun i hi=>by simp at hi⟩
theorem YP(n:Nat)(k:Int)(hn:n≤9223372036854775807)(hk:k=n)(w:World):Calls prog 10 #[.int .i64 k] w fun e w'=>e=.returned (Hw 3 n).agg∧Grow w w':=by
 subst hk;have hwr:IntKind.u64.wrap (n:Int)=(n:Int):=IntWalk.u64_in _ (by omega);have HW:=aa hwr;clear hwr;go_enter func10,ntmps10;go_wp2_with fail;exact gV (YN 2 rfl rfl (Hw 3 n) (az w _ _)) rfl ⟨rfl,(ah w).alloc _⟩
abbrev YQ(s:ByteArray)(c:Cv):List Value:=.string s::c.cells.toList
abbrev CA(w w':World)(v:V)(c:Cv):Prop:=IsV (bQ w' w.heap.size w'.heap.size) v c
theorem CA.jf{v:V}{c:Cv}(h:CA w w' v c):In w' v c:=dX (fun _ _ q=>⟨q.1,aR _,q.2.2⟩) _ _ h
theorem CA.mL{n:Nat}{f:List (ByteArray×V)}{xs:List Cv}(hl:f.length=xs.length)(hn:n=f.length)(hsm:f.length≤64)(hs:∀x∈f,x.1.size≤140737488355328)(hB:Blk w g 82 cs)
 (hc:∀i (hi:i<f.length) j v,(YQ f[i].1 (xs[i]'(by omega)))[j]?=some v→cs[i*6+j]?=some v) (h:∀i (hi:i<f.length),IsV (bQ w w0.heap.size w.heap.size) f[i].2 (xs[i]'(by omega))) (h0:w0.heap.size≤g):CA w0 w (.mk 8 0 [] [] f) ⟨8,0,none,0,0,none,0,0,some ⟨g,0,none⟩,n,n⟩:=by
 have hlt:=hB.lt;subst hn;unfold CA;rw[IsV];refine⟨rfl,rfl,rfl,rfl,rfl,by decide,by decide,by decide,by simp,by simp,by simp,by simp,au _,by omega,⟨rfl,fun h=>by simp at h⟩,fun i hi=>by simp at hi,fun i hi=>?_⟩;have hcell:∀j v,(YQ f[i].1 (xs[i]'(by omega)))[j]?=some v→w.cell? ⟨g,0+i*6+j,none⟩=some v:=fun j v hv=>by
  rw[eo,hB.cell];exact hc i hi j v hv
 exact⟨g,0,xs[i]'(by omega),rfl,⟨hcell 0 _ rfl,h0,hlt⟩,hs _ (aS hi),⟨⟨hcell 1 _ rfl,h0,hlt⟩,⟨hcell 2 _ rfl,h0,hlt⟩,⟨hcell 3 _ rfl,h0,hlt⟩,⟨hcell 4 _ rfl,h0,hlt⟩,⟨hcell 5 _ rfl,h0,hlt⟩⟩,h i hi⟩
abbrev yD(A:Option Addr)(n:Nat):Cv:=⟨8,0,none,0,0,none,0,0,A,n,n⟩
theorem YR(i x:Nat)(a b:Int)(ha:a=i)(hb:b=x)(hi:i≤9223372036854775807)(hx:x≤9223372036854775807)(w:World) :
 Calls prog 9 #[.int .i64 a,.int .i64 b] w fun e w'=>∃A,e=.returned (yD A 2).agg∧CA w w' (dV i x) (yD A 2)∧Grow w w':=by
 have D6:=aa (fun W=>YP i a hi ha W);have Gm:=aa (fun W=>YP x b hx hb W);have aN:=aa ((ah w).alloc (.cells Cv.zero.cells 27));have bO:=aa (az w 27 Cv.zero.cells);clear ha hb;go_enter func9,ntmps9;go_wp2_with fail;refine(D6.o _).mono ?_;rintro e w1 ⟨rfl,hg1⟩;have aO:=aa (aN.o.trans hg1);have cP:=aa (bO.o.grow hg1);clear hg1;go_wp2_with fail;refine(Gm.o _).mono ?_;rintro e w2 ⟨rfl,hg2⟩;have HG2:=aa (aO.o.trans hg2);have bf:=aa (cP.o.grow hg2);have bn:=aa ((bf.o).alloc (.cells #[.string ⟨#[95,105,100]⟩,.int .i64 3,.int .u64 i,.slice none 0 0,.slice none 0 0,.slice none 0 0,.string ⟨#[120]⟩,.int .i64 3,.int .u64 x,.slice none 0 0,.slice none 0 0,.slice none 0 0] 82))
 have YS:=aa (az w2 82 #[.string ⟨#[95,105,100]⟩,.int .i64 3,.int .u64 i,.slice none 0 0,.slice none 0 0,.slice none 0 0,.string ⟨#[120]⟩,.int .i64 3,.int .u64 x,.slice none 0 0,.slice none 0 0,.slice none 0 0]);have aG:=aa (HG2.o.alloc (.cells #[.string ⟨#[95,105,100]⟩,.int .i64 3,.int .u64 i,.slice none 0 0,.slice none 0 0,.slice none 0 0,.string ⟨#[120]⟩,.int .i64 3,.int .u64 x,.slice none 0 0,.slice none 0 0,.slice none 0 0] 82));have hbc:=bn.o.cell;have qU:=bn.o.frozen;clear hg2;go_wp2_with fail;clear hbc qU;generalize w2.alloc (.cells #[.string ⟨#[95,105,100]⟩,.int .i64 3,.int .u64 i,.slice none 0 0,.slice none 0 0,.slice none 0 0,.string ⟨#[120]⟩,.int .i64 3,.int .u64 x,.slice none 0 0,.slice none 0 0,.slice none 0 0] 82)=W3 at bn YS aG ⊢;have hne:w2.heap.size≠w.heap.size:=by have:=bf.o.lt;omega
 refine gV (YN 4 rfl rfl (yD (some ⟨w2.heap.size,0,none⟩) 2) (((((bn.o.aY 0 _).aY 1 _).aY 2 _).aY 3 _).aY 4 _)) rfl ⟨_,rfl,?_,((((aG.o.setCell (by simp) _).setCell (by simp) _).setCell (by simp) _).setCell (by simp) _).setCell (by simp) _⟩;refine CA.mL (f:=[(jW,iV i),(nX,iV x)]) (xs:=[Hw 3 i,Hw 3 x]) rfl rfl (by simp) (fun y hy=>?_) (((((YS.o.far (p:=⟨w.heap.size,0,none⟩) hne _).far (p:=⟨w.heap.size,1,none⟩) hne _).far (p:=⟨w.heap.size,2,none⟩) hne _).far (p:=⟨w.heap.size,3,none⟩) hne _).far (p:=⟨w.heap.size,4,none⟩) hne _) (fun k hk j v hv=>?_) (fun k hk=>?_) HG2.o.size
 ·simp at hy;rcases hy with rfl | rfl
  ·show jW.size≤_;decide
  show nX.size≤_;decide
 ·have hk2:k=0∨k=1:=by simp at hk;omega
  rcases hk2 with rfl | rfl
  ·rcases j with _ | _ | _ | _ | _ | _ | j<;>first | exact hv | simp at hv
  rcases j with _ | _ | _ | _ | _ | _ | j<;>first | exact hv | simp at hv
 have hk2:k=0∨k=1:=by simp at hk;omega
 rcases hk2 with rfl | rfl
 ·exact YO (by omega)
 exact YO (by omega)
end
end Go.Proofs.YtndjopkdbdcmdaaGreatDoor
