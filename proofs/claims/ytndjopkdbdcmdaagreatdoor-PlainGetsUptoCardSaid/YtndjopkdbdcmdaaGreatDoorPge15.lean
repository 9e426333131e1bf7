/- Part 15 of the proof of pgets_card. -/
import Derived.Test.YtndjopkdbdcmdaaGreatDoorPge14
set_option linter.unusedVariables false
set_option linter.unusedSimpArgs false
set_option maxRecDepth 100000
set_option maxHeartbeats 12800000
open Go.Proofs.Tryz
open Go.RowKit
namespace Go.Proofs.YtndjopkdbdcmdaaGreatDoor
variable {A A5 A7 A9:Option Addr}{B N c9 lo mb:Nat}{W w w' w5:World}{ag:List V}{aj:List Ix}{ch ck cl cx:Cv}{es:List Cc}{q:Rq}{st:List Co}
theorem afG{cap P gb D c5:Nat}{e:Cc}{c:Co}{x:Ix}(h0:dm w B mb A cap es st q ck cl ch cx)(h:dm W B mb A cap es st q ck cl ch cx)(hA:A=some ⟨gb,0,none⟩)(he:es[P]?=some e)(aA:eY W B e c)(hP:P<st.length)(hne:gb≠mb)(hg:Grow w W)
 (hl:∀c∈st,c.ag.length≤140737488355328) (hcl:c.ag.length≤140737488355328) (hD:D≤c.aj.length) (hr:eJ N (.ok (st.set P ⟨c.name,c.ag,cD c.aj D x⟩,0,[])))
 (hown:w5.ownsRow B 64 3 (.slice A5 (c.aj.length+1) c5) (c.aj.length+1) ((dQ c.aj).take (D*3)++x.cells.toList++(dQ c.aj).drop (D*3)))
 (hgr:W.grownBy w5 (Value.ownBlock (.slice e.xA c.aj.length e.xc))):Es N w B mb (.returned (.tuple #[])) (w5.setCell ⟨gb,P*3+2,none⟩ (.slice A5 (c.aj.length+1) c5)):=by
 obtain⟨cur,iG,tL⟩:=h.vq hA (by omega);obtain⟨ds,r1,-⟩:=aA.ag;have hk4:Kept (fun k=>k=mb∨ba e.xA=some k) W w5:=(pM hgr).mono (fun q hq=>.inr (by rw[bj] at hq;exact hq));have kX:=Ls (gb:=gb) (k:=P*3+2) (v:=.slice A5 (c.aj.length+1) c5) hk4 rfl;have tR:∀k,Sx mb gb e.xA k→B≤k:=fun k hk=>by
  rcases hk with rfl | rfl | hk
  ·exact h.lo
  ·exact tL
  exact(zM.le (R:=e.xA) (.inr (.inr rfl)) aA k hk).1
 have hb4:Blk w5 mb 96 _:=h.blk.own hgr (fun k hk e2=>cU aA.aj h.blk (by decide) (by rw[← e2,← hk,bj]));have HB:=hb4.far (p:=⟨gb,P*3+2,none⟩) (fun e=>hne e.symm) (.slice A5 (c.aj.length+1) c5);have hil:(cD c.aj D x).length=c.aj.length+1:=qM;refine⟨_,hr,wY (st':=st.set P ⟨c.name,c.ag,cD c.aj D x⟩) (n:=0) (ag:=[]) ((hg.below.mono h0.le).trans (kX.below h.le tR)) rfl (bG h.lt kX.size) (A:=A) (cap:=cap) (dA:=none) (dc:=0) ((HB.cell 0).trans (by rw[gW];rfl)) ?_ (HB.cell 28) (HB.cell 29) (vo _)⟩;have hn5:ba A5≠some gb:=fun e2=>cU hown (iG.own hgr (fun k hk e3=>cU aA.aj iG (by decide) (by rw[← e3,← hk,bj]))) (by decide) e2
 have QO:(w5.setCell ⟨gb,P*3+2,none⟩ (.slice A5 (c.aj.length+1) c5)).ownsRow B 64 3 (.slice A5 (cD c.aj D x).length c5) (cD c.aj D x).length (dQ (cD c.aj D x)):=by
  rw[hil,show dQ (cD c.aj D x)=(dQ c.aj).take (D*3)++x.cells.toList++(dQ c.aj).drop (D*3) from (PK _ 3 (fun _=>rfl) c.aj D x).symm];exact fG hown (mr (S:=fun k=>k=gb) (cZ _ w5) (p:=⟨gb,P*3+2,none⟩) rfl _) (fun g hg hs=>hn5 (by rw[← hs];exact hg))
 refine Lq (e':=⟨e.nm,e.dA,e.dn,e.dc,A5,c.aj.length+1,c5⟩) h hA he aA hP (R:=e.xA) (.inr (.inr rfl)) kX hl ?_ (Lr h hA he aA hP (.inr (.inr rfl)) hk4 (by omega) rfl);have:=(eY.Xv (c5:=c5) (A5:=A5) aA h.le kX h.lo tL (cU r1 h.blk (by decide)) (cU r1 iG (by decide)) QO).jf (aV h.le kX.size) hcl;rw[hil] at this;exact this
theorem afH(N B mb cap:Nat)(A:Option Addr)(es:List Cc)(st:List Co)(q:Rq)(ck cl ch cx:Cv)(w:World)(h:dm w B mb A cap es st q ck cl ch cx)(hok:cz N st)(hN:N≤1000000)(hT:dz w)(tS:kD w) :
 Calls prog 84 #[.pointer (some ⟨mb,0,none⟩)] w (Es N w B mb):=by
 have hs:st.length≤140737488355328:=yt hok;have HM:=aa h;have bD:=aa hok;have HT:=aa hT;have zD:=aa tS;have G7:=aa (QP q.index w hT);obtain⟨NM,Cj⟩:∃b,V.name q.index=b:=⟨_,rfl⟩;rw[Cj] at G7;have oM:=aa Cj;have hm:=h.blk.cell;clear Cj hT tS;go_enter func84,ntmps84;go_wp2_with fail;refine G7.o.mono ?_;rintro e w1 ⟨rfl,hg1⟩;have aO:=aa hg1;have fD:=aa (h.grow hg1);clear hm hg1
 cases NM with
 | false =>
  go_wp2_with fail;refine(oh 4 w1).mono ?_;rintro e w2 ⟨rfl,rfl⟩;go_wp2_with fail;exact⟨rfl,vk (aO.o.below.mono HM.o.le) (by decide)⟩
 | true =>
 have hm:=fD.o.blk.cell;by_cases afI:q.path.size≤200
 case neg =>
  have hpi:decide ((q.path.size:Int)≤200)=false:=by simp;omega
  go_wp2_with fail;refine(jK 4 w1).mono ?_;rintro e w2 ⟨rfl,rfl⟩;go_wp2_with fail;refine(oh 2 w1).mono ?_;rintro e w2 ⟨rfl,rfl⟩;go_wp2_with fail;exact⟨rfl,vk (aO.o.below.mono HM.o.le) (by decide)⟩
 have hpi:(q.path.size:Int)≤200:=by omega
 cases hf:cr (aP st) q.aw with
 | false =>
  have HC:=aa (zL fD.o hs hf);have HF:=aa hf;clear hf h hok;go_wp2_with fail;refine(jK 4 w1).mono ?_;rintro e w2 ⟨rfl,rfl⟩;go_wp2_with fail;refine(jK 2 w1).mono ?_;rintro e w2 ⟨rfl,rfl⟩;go_wp2_with fail;refine HC.o.mono ?_;rintro e w2 ⟨rfl,hg⟩;go_wp2_with fail;exact⟨rfl,vk ((aO.o.trans hg).below.mono HM.o.le) (by decide)⟩
 | true =>
  obtain⟨gb,hA,hgb,hgl,hne⟩:=h.gb hf;obtain⟨⟨nm,dA,dn,dc,xA,xn,xc⟩,he,aA,hcell⟩:=h.co hf hA;obtain⟨c,hc⟩:∃c,bX st q.aw=c:=⟨_,rfl⟩;have hmem:=(iC hf).2.1;have hlt:=(iC hf).2.2.2;have iE:bg (aP st) q.aw<es.length:=by rw[h.el];exact hlt
  rw[hc] at aA hmem;have gF:=hok.co c hmem;have hnd:=gF.nd;have hnx:=gF.nx;have HC:=aa (yr h hs hf hA);have HF:=aa hf;have jx:=aa hgb;have bS:=aa hne;have iK:=aa hgl;have lf:=aa hA;have nK:=aa he;have jX:=aa aA;have sk:=aa gF;have iD:=aa hcell;have fY:=aa hc;obtain⟨P,hP⟩:∃P,bg (aP st) q.aw=P:=⟨_,rfl⟩;have HP:=aa hP;rw[hP] at HC nK iD hlt iE;have fQ:=aa hlt;have G8:=aa iE;replace HC:=aa (yr fD.o hs hf hA);rw[HP.o] at HC;have ct:=aa (fun(w1:World) (hg:Grow w w1)=>Qn (P:=P) (gb:=gb) (h.grow hg) (aA.grow h.le hg) (fun i v hi=>(hg.below.cell (p:=⟨gb,P*3+i,none⟩) hgl).trans (iD.o i v hi)) (bG hgl hg.size) (by omega))
  have kL:=aa (fun(w1:World) (hg:Grow w w1)=>show w1.cell? ⟨gb,P*3,none⟩=some (.string nm)∧w1.cell? ⟨gb,P*3+1,none⟩=some (.slice dA c.ag.length dc)∧w1.cell? ⟨gb,P*3+2,none⟩=some (.slice xA c.aj.length xc) from
   ⟨(hg.below.cell (p:=⟨gb,P*3,none⟩) hgl).trans (iD.o 0 (.string nm) rfl),(hg.below.cell (p:=⟨gb,P*3+1,none⟩) hgl).trans ((iD.o 1 (.slice dA dn dc) rfl).trans (by rw[show dn=c.ag.length from aA.dn])),(hg.below.cell (p:=⟨gb,P*3+2,none⟩) hgl).trans ((iD.o 2 (.slice xA xn xc) rfl).trans (by rw[show xn=c.aj.length from aA.xn]))⟩)
  have QQ:=aa (fun(w1:World) (hg:Grow w w1)=>XE nm c.ag dA xA dc c.aj.length xc ⟨q.index,q.path,q.unique⟩ w1 ((aA.grow h.le hg).B_ (aV h.le hg.size) (by omega)) (by show q.path.size<_;omega) gF.ag (by omega) (HT.o.grow hg) (zD.o.grow hg));obtain⟨FF,fe⟩:∃b,cr (gM c) q.index=b:=⟨_,rfl⟩;obtain⟨D,hD⟩:∃b,bg (gM c) q.index=b:=⟨_,rfl⟩;have X0:D≤c.aj.length:=by have:=K6 (gM c) q.index;rw[hD,dE] at this;exact this
  rw[fe,hD] at ct;have jg:=aa fe;have nM:=aa hD;have G9:=aa X0;have qV:=aa (fun(h0:FF=false) (h8:c.aj.length<8)=>show eJ N (.ok (st.set P ⟨c.name,c.ag,cD c.aj D ⟨q.index,q.path,q.unique⟩⟩,0,[])) from by
   have h1:=hok.WX hf (x:=⟨q.index,q.path,q.unique⟩) oM.o afI (by rw[hc];exact fe.trans h0) (by rw[hc];exact h8);rw[hc,hP,show bg (gM c) (Ix.mk q.index q.path q.unique).name=D from hD] at h1;exact eJ.ok h1)
  clear h hok hf hA he aA hcell hc gF hmem hP hlt iE fe hD X0;go_wp2_with fail;refine(jK 4 w1).mono ?_;rintro e w2 ⟨rfl,rfl⟩;go_wp2_with fail;refine(jK 2 w1).mono ?_;rintro e w2 ⟨rfl,rfl⟩;go_wp2_with fail;refine HC.o.mono ?_;rintro e w2 ⟨rfl,hg2⟩;have HG2:=aa (aO.o.trans hg2);clear hg2 hm;go_wp2_with fail;refine(ct.o w2 HG2.o).mono ?_;rintro e w5 ⟨rfl,bK⟩;have a_:=aa (HG2.o.trans bK);have oN:=aa (HM.o.grow a_.o);clear bK
  cases FF with
  | true =>
   go_wp2_with fail;refine(oh 6 w5).mono ?_;rintro e w6 ⟨rfl,rfl⟩;go_wp2_with fail;exact⟨rfl,vk (a_.o.below.mono HM.o.le) (by decide)⟩
  | false =>
   obtain⟨LI,LJ,LK⟩:=kL.o w5 a_.o;by_cases h8:c.aj.length<8
   case neg =>
    have h8i:decide ((c.aj.length:Int)<8)=false:=by simp;omega
    go_wp2_with fail;refine(jK 6 w5).mono ?_;rintro e w6 ⟨rfl,rfl⟩;go_wp2_with fail;refine(oh 19 w5).mono ?_;rintro e w6 ⟨rfl,rfl⟩;go_wp2_with fail;exact⟨rfl,vk (a_.o.below.mono HM.o.le) (by decide)⟩
   have h8i:(c.aj.length:Int)<8:=by omega
   go_wp2_with fail;refine(jK 6 w5).mono ?_;rintro e w6 ⟨rfl,rfl⟩;go_wp2_with fail;refine(jK 19 w5).mono ?_;rintro e w6 ⟨rfl,rfl⟩;clear LI LJ LK;go_wp2_with fail;refine dg ?_;refine cW (S:=fun w'=>w'.cell? ⟨mb,3,none⟩=some (.string q.index)∧w'.cell? ⟨mb,4,none⟩=some (.string q.path)∧w'.cell? ⟨mb,5,none⟩=some (.bool q.unique)) (by kernel_rfl) (⟨oN.o.blk.cell 3,oN.o.blk.cell 4,oN.o.blk.cell 5⟩) (fun hHeld=>?_);replace oN:=aa (oN.o.grow ((ah w5).drew));replace a_:=aa (a_.o.drew);generalize w5.drew=W at oN a_ hHeld ⊢;refine ai 0 ?_;refine ai 1 ?_;refine ai 2 ?_;refine ai 3 ?_;refine cO 4 ?_;refine ai 5 ?_;refine ai 6 ?_;refine ai 7 ?_;refine ai 8 ?_;refine cO 9 ?_;refine ai 10 ?_;refine ai 11 ?_;refine ai 12 ?_;refine ai 13 ?_;refine cO 14 ?_;refine ai 15 ?_
   refine aK 16 (fun K hK=>?_);go_simp;refine hK.out _ _ ⟨(oN.o.blk.alloc _).cell 3,(oN.o.blk.alloc _).cell 4,(oN.o.blk.alloc _).cell 5⟩ (fun hHeld=>?_)
   try simp only[aH]
   refine aK 17 (fun K hK=>?_);go_simp;have tT:=aa (oN.o.grow ((ah W).alloc (.cells #[.string q.index,.string q.path,.bool q.unique] 64)));have aW:=aa (a_.o.alloc (.cells #[.string q.index,.string q.path,.bool q.unique] 64));have Ck:=aa (az W 64 #[.string q.index,.string q.path,.bool q.unique]);refine hK.out _ _ ⟨tT.o.blk.cell 3,tT.o.blk.cell 4,tT.o.blk.cell 5⟩ (fun hHeld=>?_)
   try simp only[aH]
   refine cG ?_;go_wp2_with fail;refine dg ?_;refine cW (S:=fun w'=>w'.cell? ⟨gb,P*3,none⟩=some (.string nm)∧w'.cell? ⟨gb,P*3+1,none⟩=some (.slice dA c.ag.length dc)∧w'.cell? ⟨gb,P*3+2,none⟩=some (.slice xA c.aj.length xc)∧w'.cell? ⟨W.heap.size,0,none⟩=some (.string q.index)∧w'.cell? ⟨W.heap.size,1,none⟩=some (.string q.path)∧w'.cell? ⟨W.heap.size,2,none⟩=some (.bool q.unique)) (by kernel_rfl) (⟨(kL.o _ aW.o.drew).1,(kL.o _ aW.o.drew).2.1,(kL.o _ aW.o.drew).2.2,Ck.o.cell 0,Ck.o.cell 1,Ck.o.cell 2⟩) (fun hHeld=>?_);replace tT:=aa (tT.o.grow ((ah _).drew));replace aW:=aa (aW.o.drew);replace Ck:=aa (Ck.o.drew);generalize (W.alloc (.cells #[.string q.index,.string q.path,.bool q.unique] 64)).drew=W7 at tT aW Ck hHeld ⊢;refine ai 0 ?_
   refine ai 1 ?_;refine cO 2 ?_;refine cO 3 ?_;refine aK 4 (fun K hK=>?_);go_simp;go_at_call 60;refine(QQ.o W7 aW.o).mono ?_;rintro ee w8 ⟨bW,E,A9,c9,tU,l9,rfl,hen,-,hel⟩;have bR:=aa (aW.o.trans bW);have tV:=aa (tT.o.grow bW);have lg:=aa (Ck.o.grow bW);have mZ:=aa hen;have afJ:=aa hel;clear bW hen hel;refine hK.out _ _ ⟨(kL.o _ bR.o).1,(kL.o _ bR.o).2.1,(kL.o _ bR.o).2.2,lg.o.cell 0,lg.o.cell 1,lg.o.cell 2⟩ (fun hHeld=>?_)
   try simp only[aH]
   refine ai 5 ?_;refine ai 6 ?_;refine ai 7 ?_;refine ai 8 ?_;refine ai 9 ?_;refine cG ?_;clear hHeld;by_cases hz:E=0
   case neg =>
    go_wp2_with fail;refine(DR E hz w8).mono ?_;rintro e w9 ⟨rfl,rfl⟩;go_wp2_with fail;exact⟨rfl,vk (bR.o.below.mono HM.o.le) hz⟩
   subst hz;have HXG:=aa (show W.heap.size≠gb from fun e=>by have:=iK.o;have:=a_.o.size;omega);have Ez:=aa (show ba xA≠some W.heap.size from fun e=>by
    have:=(bJ (jX.o.grow HM.o.le a_.o).aj W.heap.size (by rw[bj];exact e)).2;omega)
   go_wp2_with fail;refine(DN w8).mono ?_;rintro e w9 ⟨rfl,rfl⟩;rcases Dm q.unique with hu | hu
   focus
    have hx2:w8.cell? ⟨W.heap.size,2,none⟩=some (.bool true):=by rw[lg.o.cell];rw[hu];rfl
    have zT:=aa (XG _ _ _ c9 A9 tU l9 w8 mZ.o (by have:=afJ.o;omega))
    clear hu
    go_wp2_with fail
    refine zT.o.mono ?_
    rintro e w9 ⟨TW,rfl,lh⟩
    replace bR:=aa (bR.o.trans lh)
    replace tV:=aa (tV.o.grow lh)
    replace lg:=aa (lg.o.grow lh)
    clear lh hx2 mZ zT
    rcases TW with _ | _
    rotate_left
    go_wp2_with fail
    refine(oh 13 w9).mono ?_
    rintro e pS ⟨rfl,rfl⟩
    go_wp2_with fail
    exact⟨rfl,vk (bR.o.below.mono HM.o.le) (by decide)⟩
   rotate_left
   focus
    have hx2:w8.cell? ⟨W.heap.size,2,none⟩=some (.bool false):=by rw[lg.o.cell];rw[hu];rfl
    clear hu mZ
    obtain⟨w9,hw9⟩:∃v:World,v=w8:=⟨_,rfl⟩
    subst hw9
   all_goals
    go_wp2_with fail
    refine(jK 13 w9).mono ?_
    rintro e pS ⟨rfl,rfl⟩
    try clear hx2
    go_wp2_with fail
    refine dg ?_
    refine cW (S:=fun w'=>w'.cell? ⟨W.heap.size,0,none⟩=some (.string q.index)∧w'.cell? ⟨W.heap.size,1,none⟩=some (.string q.path)∧w'.cell? ⟨W.heap.size,2,none⟩=some (.bool q.unique)) (by kernel_rfl) (⟨lg.o.cell 0,lg.o.cell 1,lg.o.cell 2⟩) (fun hHeld=>?_)
    replace tV:=aa (tV.o.grow ((ah _).drew))
    replace bR:=aa (bR.o.drew)
    replace lg:=aa (lg.o.drew)
    generalize w9.drew=V at tV bR lg hHeld ⊢
    refine ai 0 ?_
    refine ai 1 ?_
    refine ai 2 ?_
    refine ai 3 ?_
    refine ai 5 ?_
    refine cO 6 ?_
    refine bC [4,7] ?_
    refine fC (fun K hK=>?_) (fC (fun K hK=>?_) dM)
    focus
     have u_:=(kL.o _ bR.o).2.2
     go_simp
     refine hK.out _ _ ⟨lg.o.cell 0,lg.o.cell 1,lg.o.cell 2⟩ (fun hHeld=>?_)
     clear u_
     try simp only[aH]
     refine aK 7 (fun K hK=>?_)
     go_simp
     have qW:=aa (tV.o.grow ((ah V).alloc (.cells #[.string q.index,.string q.path,.bool q.unique] 64)))
     have bt:=aa (bR.o.alloc (.cells #[.string q.index,.string q.path,.bool q.unique] 64))
     have vz:=aa (lg.o.alloc (.cells #[.string q.index,.string q.path,.bool q.unique] 64))
     have G_:=aa (jX.o.grow HM.o.le bt.o)
     have HLA:=aa (show gb<(V.alloc (.cells #[.string q.index,.string q.path,.bool q.unique] 64)).heap.size from bG iK.o bt.o.size)
     refine hK.out _ _ ⟨vz.o.cell 0,vz.o.cell 1,vz.o.cell 2⟩ (fun hHeld=>?_)
    rotate_left
    focus
     go_simp
     have qW:=aa (tV.o.grow ((ah V).alloc (.cells #[.string q.index,.string q.path,.bool q.unique] 64)))
     have bt:=aa (bR.o.alloc (.cells #[.string q.index,.string q.path,.bool q.unique] 64))
     have vz:=aa (lg.o.alloc (.cells #[.string q.index,.string q.path,.bool q.unique] 64))
     have G_:=aa (jX.o.grow HM.o.le bt.o)
     have HLA:=aa (show gb<(V.alloc (.cells #[.string q.index,.string q.path,.bool q.unique] 64)).heap.size from bG iK.o bt.o.size)
     refine hK.out _ _ ⟨vz.o.cell 0,vz.o.cell 1,vz.o.cell 2⟩ (fun hHeld=>?_)
     try simp only[aH]
     refine aK 4 (fun K hK=>?_)
     have u_:=(kL.o _ bt.o).2.2
     go_simp
     refine hK.out _ _ ⟨vz.o.cell 0,vz.o.cell 1,vz.o.cell 2⟩ (fun hHeld=>?_)
     clear u_
    all_goals
     try simp only[aH]
     refine aK 8 (fun K hK=>?_)
     go_simp
     go_at_call 126
     refine(afK B c.aj.length D xc V.heap.size xA (dQ c.aj) (Ix.cells ⟨q.index,q.path,q.unique⟩).toList _ 64 (zH c.aj) (by simp[Value.oneCell']) G_.o.aj G9.o (by omega) rfl (az V 64 #[.string q.index,.string q.path,.bool q.unique]) (by
      intro e
      have h1:=(bJ (jX.o.grow HM.o.le bR.o).aj V.heap.size e).2
      omega) qW.o.le).mono ?_
     rintro ee w5 ⟨A5,c5,rfl,zO,qP,Ew⟩
     obtain⟨cur,iG,anu⟩:=qW.o.vq lf.o (by have:=fQ.o;omega)
     have afL:=aa (iG.own qP (fun k hk e=>cU G_.o.aj iG (by decide) (by rw[← e,← hk,bj])))
     have zU:=aa (show Blk w5 W.heap.size 64 #[.string q.index,.string q.path,.bool q.unique] from vz.o.own qP (fun k hk e=>Ez.o (by rw[← e,← hk,bj])))
     have anv:=afL.o.frozen
     have QR:=qP.cell (kL.o _ bt.o).2.2 (fun e=>cU G_.o.aj iG (by decide) (by rw[bj] at e;exact e.symm))
     have QS:=aa zO
     have Ha:=aa qP
     clear zO qP Ew iG
     refine hK.out _ _ ⟨zU.o.cell 0,zU.o.cell 1,zU.o.cell 2⟩ (fun hHeld=>?_)
     try simp only[aH]
     refine ai 9 ?_
     refine ai 10 ?_
     refine aK 11 (fun K hK=>?_)
     go_simp
     have QT:=aa (zU.o.far (p:=⟨gb,P*3+2,none⟩) HXG.o (.slice A5 (c.aj.length+1) c5))
     refine hK.out _ _ ⟨QT.o.cell 0,QT.o.cell 1,QT.o.cell 2⟩ (fun hHeld=>?_)
     try simp only[aH]
     refine cG ?_
     go_wp2_with fail
     go_end0
     exact afG HM.o qW.o lf.o nK.o G_.o fQ.o bS.o bt.o (bD.o.dl hN) (by omega) G9.o (qV.o (by trivial) (by omega)) QS.o Ha.o
theorem X3{d:V}:∀{aj:List Ix} {j:Nat} (hj:j<aj.length),(∀i (h:i<aj.length),i<j→(eB aj[i].path d).2.2=0)→(eB aj[j].path d).2.2≠0→rX d aj=(eB aj[j].path d).2.2
 | x::r,0,hj,h,he=>by rw[rX,aD (by simpa using he)];rfl
 | x::r,j+1,hj,h,he=>by
  rw[rX,ak (by have:=h 0 (by simp) (by omega);simpa using this)];exact X3 (aj:=r) (j:=j) (by simpa using hj) (fun i hi hij=>by have:=h (i+1) (by simpa using hi) (by omega);simpa using this) (by simpa using he)
theorem afM{d:V}(h:∀i (hi:i<aj.length),(eB aj[i].path d).2.2=0):rX d aj=0:=
 P5.2 fun x hx=>by obtain⟨i,hi,rfl⟩:=sQ hx;exact h i hi
theorem afN{e:Cc}{c:Co}(aA:eY w B e c)(hB:B≤w.heap.size)(hl:c.ag.length≤1000000000) :
 Calls prog 39 #[.slice e.dA c.ag.length e.dc] w fun r w'=>∃A' c' cs,r=.returned (.slice A' c.ag.length c')∧w'.ownsRow w.heap.size 27 5 (.slice A' c.ag.length c') c.ag.length (cK cs)∧Two (fun v c=>dW w' B v c) c.ag cs∧Grow w w':=by
 obtain⟨cs,h1,h2⟩:=aA.ag;refine(X4 c.ag.length e.dA e.dc (cK cs) w ((lM (S:=fun _=>False) h1 (fun _ _ h=>h)).mono jS) (BQ cs) (by omega)).mono ?_;rintro r w' ⟨A',c',rfl,hown,hg⟩;exact⟨A',c',cs,rfl,hown,h2.mono fun v c hv=>hv.below hg.below hB (au _),hg⟩
abbrev Sp(mb gb k:Nat):Prop:=k=mb∨k=gb
theorem X5{w7 w8 w9:World}{cs:List Cv}{d:V}{cv:Cv}{gb:Nat}(hold:Two (fun v c=>dW w7 B v c) ag cs)(hin:pE w8 w7.heap.size w8.heap.size d cv)(hB:B≤w7.heap.size)(hg:Grow w7 w8)(hk:Kept (fun k=>ba A7=some k) w8 w9)
 (h7:∀g,ba A7=some g→B≤g∧g<w7.heap.size) (h9:∀g,ba A9=some g→(ba A7=some g∨w8.heap.size≤g)) (hmb:B≤mb) (hgb:B≤gb) (ir:mb<w7.heap.size) (hgl:gb<w7.heap.size) :
 Two (fun v c=>IsV (dI w9 (fun q=>ba A9=some q∨Sp mb gb q)) v c) ag cs∧IsV (dI w9 (fun q=>ba A9=some q∨Sp mb gb q)) d cv:=by
 have hz:B≤w8.heap.size:=aV hB hg.size;have hS:∀q,(ba A9=some q∨Sp mb gb q)→B≤q:=fun q hq=>by
  rcases hq with hq | rfl | rfl
  ·rcases h9 q hq with h | h
   ·exact(h7 q h).1
   omega
  ·exact hmb
  exact hgb
 refine⟨hold.mono fun v c hv=>?_,?_⟩
 ·exact(((hv.below hg.below hB (au _)).keep hk hz (fun q hq=>(h7 q hq).1))).PM (aV hz hk.size) hS
 have h1:IsV (dI w8 (fun q=>ba A7=some q∨(ba A9=some q∨Sp mb gb q))) d cv:=dX (dI.GD (au _) fun q hq=>by
  rcases hq with hq | hq | rfl | rfl
  ·exact .inl (h7 q hq).2
  ·rcases h9 q hq with h | h
   ·exact .inl (h7 q h).2
   exact .inr h
  ·exact .inl ir
  exact .inl hgl) _ _ hin.BM
 exact dX (dI.sub fun q hq=>.inr hq) _ _ (dX (kZ hk fun q hq=>.inl hq) _ _ h1)
theorem X6{cap P gb nd:Nat}{w6:World}{e:Cc}{c:Co}{cs':List Cv}{vA:List V}(h:dm W B mb A cap es st q ck cl ch cx)(hA:A=some ⟨gb,0,none⟩)(he:es[P]?=some e)(aA:eY W B e c)(hP:P<st.length)(hne:gb≠mb)
 (hl:∀c∈st,c.ag.length≤140737488355328) (bA:vA.length≤140737488355328) (hV:VR (Sp mb gb) W lo A9 c9 cs' vA) (hlen:vA.length=nd) (zw:Kept (fun k=>k=mb) (W.setCell ⟨gb,P*3+1,none⟩ (.slice A9 nd c9)) w6) :
 Kept (Sx mb gb none) W w6∧cQ w6 A cap (st.set P ⟨c.name,vA,c.aj⟩):=by
 obtain⟨cur,iG,tL⟩:=h.vq hA (by omega);have kX:=Ls (w:=W) (mb:=mb) (R:=none) (gb:=gb) (k:=P*3+1) (v:=.slice A9 nd c9) (cZ _ W) rfl;have hk:Kept (Sx mb gb none) W w6:=kX.trans (zw.mono fun q hq=>.inl hq);refine⟨hk,?_⟩;have hrow:=Lr (e':=⟨e.nm,A9,nd,c9,e.xA,e.xn,e.xc⟩) (k:=1) (v:=.slice A9 nd c9) h hA he aA hP (R:=none) (.inl rfl) (cZ _ W) (by omega) rfl;refine Lq (e':=⟨e.nm,A9,nd,c9,e.xA,e.xn,e.xc⟩) h hA he aA hP (R:=none) (.inl rfl) hk hl ?_ (fG hrow zw (fun g hg hs=>?_))
 ·have hS:∀q,Sx mb gb none q→Sp mb gb q:=fun q hq=>by
   rcases hq with hq | hq | hq
   ·exact .inl hq
   ·exact .inr hq
   cases hq
  have LL:∀g,ba A9=some g→¬ Sp mb gb g:=fun g hg hs=>by
   rcases hs with rfl | rfl
   ·exact cU hV.row h.blk (by decide) hg
   exact cU hV.row iG (by decide) hg
  refine⟨aA.nm,hlen.symm,aA.xn,by rw[← aA.xn];exact(aA.xn ▸ (mW aA.aj).1),?_,?_⟩
  ·rw[← hlen] at *;exact((hV.list LL bA).mono (kZ hk hS)).mono jS
  refine(lM (S:=fun _=>False) (fG aA.aj hk (fun g hg hs=>?_)) (fun _ _ h=>h)).mono jS;rcases hs with rfl | rfl | hs
  ·exact cU aA.aj h.blk (by decide) hg
  ·exact cU aA.aj iG (by decide) hg
  cases hs
 subst hs;exact h.Cf hg
def zV(w:World)(B mb:Nat)(st:List Co)(q:Rq)(e:Ending)(w':World):Prop:=∃r,(r=oH st q∨((bX st q.aw).aj≠[]∧r=.error 13))∧nJ w B mb r e w'
theorem zV.err{k:Int}(hb:Below B w w')(hr:oH st q=.error k):zV w B mb st q (.panicked (thrown k)) w':=⟨_,.inl rfl,pO hb hr⟩
theorem afO{cap P gb nd:Nat}{e:Cc}{c:Co}{cs':List Cv}{vA:List V}{TH:Bool}(h0:dm w B mb A cap es st q ck cl ch cx)(hg:Grow w W)(h:dm W B mb A cap es st q ck cl ch cx)(hA:A=some ⟨gb,0,none⟩)(he:es[P]?=some e)(aA:eY W B e c)(hP:P<st.length)(hne:gb≠mb)(hgb:B≤gb)
 (hl:∀c∈st,c.ag.length≤140737488355328) (bA:vA.length≤140737488355328) (hV:VR (Sp mb gb) W lo A9 c9 cs' vA) (hlen:vA.length=nd) (hr:oH st q=.ok (st.set P ⟨c.name,vA,c.aj⟩,if TH=true then 1 else 0,[])) :
 zV w B mb st q (.returned (.tuple #[])) (cond TH ((W.setCell ⟨gb,P*3+1,none⟩ (.slice A9 nd c9)).setCell ⟨mb,28,none⟩ (.int .i64 1)) (W.setCell ⟨gb,P*3+1,none⟩ (.slice A9 nd c9))):=by
 have cP:=h.blk.far (p:=⟨gb,P*3+1,none⟩) (fun e=>hne e.symm) (.slice A9 nd c9);have hb:∀k,Sx mb gb none k→B≤k:=by
  rintro k (rfl | rfl | hk)
  ·exact h0.lo
  ·exact hgb
  cases hk
 refine⟨_,.inl rfl,?_⟩;rw[hr]
 cases TH
 ·obtain⟨hkk,hst⟩:=X6 h hA he aA hP hne hl bA hV hlen (cZ (fun k=>k=mb) _);exact wY ((hg.below.mono h0.le).trans (hkk.below h.le hb)) rfl (bG h.lt hkk.size) (A:=A) (cap:=cap) (dA:=none) (dc:=0) ((cP.cell 0).trans (by rw[gW];rfl)) hst (cP.cell 28) (cP.cell 29) (vo _)
 have HB:=cP.aY 28 (.int .i64 1);obtain⟨hkk,hst⟩:=X6 h hA he aA hP hne hl bA hV hlen (mr (S:=fun k=>k=mb) (cZ _ _) (p:=⟨mb,28,none⟩) rfl (.int .i64 1));exact wY ((hg.below.mono h0.le).trans (hkk.below h.le hb)) rfl (bG h.lt hkk.size) (A:=A) (cap:=cap) (dA:=none) (dc:=0) ((HB.cell 0).trans (by rw[gW];rfl)) hst (HB.cell 28) (HB.cell 29) (vo _)
theorem X7(N B mb cap:Nat)(A:Option Addr)(es:List Cc)(st:List Co)(q:Rq)(ck cl ch cx:Cv)(w:World)(h:dm w B mb A cap es st q ck cl ch cx)(hok:cz N st)(hN:N≤1000000)(hT:dz w)(tS:kD w)(vB:q.doc.count≤20000)(pG:q.doc.fit) :
 Calls prog 81 #[.pointer (some ⟨mb,0,none⟩)] w (zV w B mb st q):=by
 have hs:st.length≤140737488355328:=yt hok;have HM:=aa h;have bD:=aa hok
 cases hf:cr (aP st) q.aw with
 | false =>
  have HC:=aa (zL h hs hf);have HF:=aa hf;clear h hok hf;go_enter func81,ntmps81;go_wp2_with fail;refine HC.o.mono ?_;rintro e w1 ⟨rfl,hg⟩;go_wp2_with fail;exact⟨rfl,zV.err (hg.below.mono HM.o.le) (by unfold oH;rw[aD HF.o])⟩
 | true =>
  obtain⟨gb,hA,hgb,hgl,hne⟩:=h.gb hf;obtain⟨⟨nm,dA,dn,dc,xA,xn,xc⟩,he,aA,hcell⟩:=h.co hf hA;obtain⟨c,hc⟩:∃c,bX st q.aw=c:=⟨_,rfl⟩;have hmem:=(iC hf).2.1;have hlt:=(iC hf).2.2.2;have iE:bg (aP st) q.aw<es.length:=by rw[h.el];exact hlt
  rw[hc] at aA hmem;have gF:=hok.co c hmem;have hnd:=gF.nd;have hnx:=gF.nx;have HC:=aa (yr h hs hf hA);have HF:=aa hf;have jx:=aa hgb;have bS:=aa hne;have iK:=aa hgl;have lf:=aa hA;have nK:=aa he;have jX:=aa aA;have sk:=aa gF;have iD:=aa hcell;have fY:=aa hc;obtain⟨P,hP⟩:∃P,bg (aP st) q.aw=P:=⟨_,rfl⟩;have HP:=aa hP;rw[hP] at HC nK iD hlt iE;have fQ:=aa hlt;have G8:=aa iE;have kL:=aa (fun(w1:World) (hg:Grow w w1)=>show w1.cell? ⟨gb,P*3+1,none⟩=some (.slice dA c.ag.length dc)∧w1.cell? ⟨gb,P*3+2,none⟩=some (.slice xA c.aj.length xc) from
   ⟨(hg.below.cell (p:=⟨gb,P*3+1,none⟩) hgl).trans ((iD.o 1 (.slice dA dn dc) rfl).trans (by rw[show dn=c.ag.length from aA.dn])),(hg.below.cell (p:=⟨gb,P*3+2,none⟩) hgl).trans ((iD.o 2 (.slice xA xn xc) rfl).trans (by rw[show xn=c.aj.length from aA.xn]))⟩)
  have HKEY:=aa (fun(w1:World) (hg:Grow w w1)=>Pz q.doc cx w1 vB (hT.grow hg) ((h.doc.jf h.le).grow hg));have Lx:=aa (fun(xq:Ix) (w1:World) (hp:xq.path.size≤200) (hg:Grow w w1)=>WD xq q.doc cx w1 (by omega) vB (hT.grow hg) (tS.grow hg) ((h.doc.jf h.le).grow hg));have HT:=aa hT;have zD:=aa tS;have eK:=aa vB;have xZ:=aa pG;clear h hok hf hA he aA hcell hc gF hmem hP hlt iE hT tS vB pG;go_enter func81,ntmps81;go_wp2_with fail;refine HC.o.mono ?_;rintro e w1 ⟨rfl,hg1⟩;have aO:=aa hg1;have fD:=aa (HM.o.grow hg1);have hm:=fD.o.blk.cell;clear hg1;obtain⟨kb,ke,QU⟩:∃a b,bV q.doc=(a,b):=⟨_,_,rfl⟩;have lR:=aa QU;have QV:=HKEY.o w1 aO.o;rw[QU] at QV;have HKY:=aa QV;clear QU QV;go_wp2_with fail;refine HKY.o.mono ?_
  rintro e w2 ⟨BG,K2,kc2,rfl,hb2,hr2,hg2⟩;have bM:=aa hr2;have HG2:=aa (aO.o.trans hg2);have iT:=aa (fD.o.grow hg2);clear hr2 hb2 hg2 hm;by_cases eQ:ke=0
  case neg =>
   go_wp2_with fail;refine(DR ke eQ w2).mono ?_;rintro e w3 ⟨rfl,rfl⟩;go_wp2_with fail;exact⟨rfl,zV.err (HG2.o.below.mono HM.o.le) (by unfold oH;rw[ak (by rw[HF.o];decide),lR.o,aD eQ])⟩
  subst eQ;have Cl:=(kL.o w2 HG2.o).2;go_wp2_with fail;refine(DN w2).mono ?_;rintro e w3 ⟨rfl,rfl⟩;go_wp2_with fail;clear Cl;go_loopg [35] (c.aj.length+1) (fun gk i wr=>∃j:Nat,j≤c.aj.length∧gk+j=c.aj.length+1∧i=.int .i64 j∧(∀i (hi:i<c.aj.length),i<j→(eB c.aj[i].path q.doc).2.2=0)∧Grow w2 wr);exact⟨0,aR _,rfl,rfl,fun _ _ h=>absurd h (by omega),ah w2⟩;obtain⟨j,hj,hg,rfl,hz,hgr⟩:=hrel;obtain⟨gk',rfl⟩:=bz gk (by omega);have HZ:=aa hz;have aJ:=aa hgr;have bI:=aa (HG2.o.trans hgr);clear hz hgr;by_cases hlt:j<c.aj.length
  ·obtain⟨nN,xo,zW,Hb,lH⟩:=Lp (jX.o.grow HM.o.le bI.o).aj j hlt;dsimp only at zW;obtain⟨xq,su⟩:∃x,c.aj[j]=x:=⟨_,rfl⟩;have hget:c.aj.getD j Ix.zero=xq:=by rw[gy,bH hlt,su];rfl
   have pT:∀i v,xq.cells[i]?=some v→wr.cell? ⟨nN,xo+j*3+i,none⟩=some v:=fun i v hv=>lH i v (by dsimp only;rw[hget];exact hv)
   subst zW;have x0:=pT 0 (.string xq.name) rfl;have x1:=pT 1 (.string xq.path) rfl;have x2:=pT 2 (.bool xq.uniq) rfl;rw[fX] at x0;have yz:=aa (show xq.path.size≤200 from sk.o.path xq (by rw[← su];exact aS hlt));have QW:=aa su;have aO:=aa (bI.o.alloc (.cells #[.string xq.name,.string xq.path,.bool xq.uniq] 64));have fD:=aa (HM.o.grow aO.o);have nH:=aa (az wr 64 #[.string xq.name,.string xq.path,.bool xq.uniq]);clear lH pT hget su;go_wp2_with fail;clear x0 x1 x2;refine dg ?_
   refine cW (S:=fun w'=>w'.cell? ⟨wr.heap.size,0,none⟩=some (.string xq.name)∧w'.cell? ⟨wr.heap.size,1,none⟩=some (.string xq.path)∧w'.cell? ⟨wr.heap.size,2,none⟩=some (.bool xq.uniq)∧w'.cell? ⟨mb,21,none⟩=some (.int .i64 cx.k)∧w'.cell? ⟨mb,22,none⟩=some (.int .u64 cx.n)∧w'.cell? ⟨mb,23,none⟩=some (.slice cx.aB cx.nB cx.cB)∧w'.cell? ⟨mb,24,none⟩=some (.slice cx.aL cx.nL cx.cL)∧w'.cell? ⟨mb,25,none⟩=some (.slice cx.aF cx.nF cx.cF)) (by kernel_rfl) (⟨nH.o.cell 0,nH.o.cell 1,nH.o.cell 2,fD.o.blk.cell 21,fD.o.blk.cell 22,fD.o.blk.cell 23,fD.o.blk.cell 24,fD.o.blk.cell 25⟩) (fun hHeld=>?_);replace nH:=aa nH.o.drew;replace aO:=aa aO.o.drew;replace fD:=aa (fD.o.grow ((ah _).drew))
   have bt:=aa (show Grow (wr.alloc (.cells #[.string xq.name,.string xq.path,.bool xq.uniq] 64)) (wr.alloc (.cells #[.string xq.name,.string xq.path,.bool xq.uniq] 64)).drew from (ah _).drew);generalize (wr.alloc (.cells #[.string xq.name,.string xq.path,.bool xq.uniq] 64)).drew=W1 at nH aO fD bt hHeld ⊢;refine cO 0 ?_;refine ai 1 ?_;refine ai 2 ?_;refine ai 3 ?_;refine ai 4 ?_;refine cO 5 ?_;refine aK 6 (fun K hK=>?_);go_simp;go_at_call 28;refine(Lx.o xq W1 yz.o aO.o).mono ?_;rintro ee w5 ⟨ac1,K5,kc5,rfl,dG,iA,bK⟩;have a_:=aa (aO.o.trans bK);have afP:=aa (bt.o.trans bK);have oN:=aa (fD.o.grow bK);have zU:=aa (nH.o.grow bK);clear iA dG bK
   refine hK.out _ _ ⟨zU.o.cell 0,zU.o.cell 1,zU.o.cell 2,oN.o.blk.cell 21,oN.o.blk.cell 22,oN.o.blk.cell 23,oN.o.blk.cell 24,oN.o.blk.cell 25⟩ (fun hHeld=>?_)
   try simp only[aH]
   refine ai 7 ?_;refine ai 8 ?_;refine ai 9 ?_;refine ai 10 ?_;refine ai 11 ?_;refine ai 12 ?_;refine ai 13 ?_;refine cG ?_;go_wp2_with fail;by_cases he:(eB xq.path q.doc).2.2=0
   ·rw[he];refine(DN w5).mono ?_;rintro e w6 ⟨rfl,rfl⟩;have HE:=aa he;have Ha:=aa (aJ.o.trans (((ah wr).alloc _).trans afP.o));clear he;go_wp2_with fail;go_roundg gk';refine⟨j+1,by omega,by omega,by go_num,fun i hi hij=>?_,Ha.o⟩;rcases N4.1 hij with h | h
    ·exact HZ.o i hi h
    subst h;rw[QW.o];exact HE.o;omega
   refine(DR _ he w5).mono ?_;rintro e w6 ⟨rfl,rfl⟩;have HE:=aa he;clear he;go_wp2_with fail;exact⟨rfl,zV.err (a_.o.below.mono HM.o.le) (by unfold oH;rw[ak (by rw[HF.o];decide),lR.o,ak (by simp),fY.o,X3 hlt HZ.o (by rw[QW.o];exact HE.o),QW.o,aD HE.o])⟩
  have QX:j=c.aj.length:=by omega
  subst QX;have LM:=aa (afM (d:=q.doc) fun i hi=>HZ.o i hi hi);have LN:=aa (HM.o.grow bI.o);have Cl:=(kL.o wr bI.o).1;have X8:=aa (WI c.ag gb (P*3) dc dA kb K2 kc2 wr (fun d hd=>(sk.o.ag d hd).count) (by omega) (HT.o.grow bI.o) Cl (bG iK.o bI.o.size) ((jX.o.grow HM.o.le bI.o).B_ LN.o.le (by omega)) ((bM.o.reads.1).grow aJ.o));have Ex:=aa (show q.doc.nE from Gw (by
   have h0:=lR.o;unfold bV at h0;split at h0
   ·rename_i hbad;exact absurd (Bc.1 h0).2 hbad
   rename_i LP;simpa using LP))
  have G9:=aa (show gK c.ag kb≤c.ag.length from WS c.ag kb);obtain⟨TH,QY⟩:∃b,gL c.ag kb=b:=⟨_,rfl⟩;obtain⟨D,hD⟩:∃b,gK c.ag kb=b:=⟨_,rfl⟩;have QZ:=X8.o;rw[show gj (oG c.ag kb) c.ag.length=TH from QY,show il (oG c.ag kb) c.ag.length=D from hD] at QZ;have Li:=aa QZ;rw[hD] at G9;have tW:=aa QY;have nM:=aa hD;clear QZ QY hD Cl X8;go_wp2_with fail;refine Li.o.mono ?_;rintro e w6 ⟨rfl,bE⟩;have aW:=aa (bI.o.trans bE);have tT:=aa (HM.o.grow aW.o);clear bE;have zX:=tT.o.blk.cell;have Cl:=(kL.o w6 aW.o).1;have X9:=aa (fun(w1:World) (hg:Grow w w1)=>afN (jX.o.grow HM.o.le hg) (aV HM.o.le hg.size) (by omega));rcases TH with _ | _
  focus
   go_wp2_with fail
   refine(jK 6 w6).mono ?_
   rintro e w7 ⟨rfl,rfl⟩
   go_wp2_with fail
   refine(X9.o w6 aW.o).mono ?_
   rintro e w7 ⟨A7,c7,cs,rfl,eZ,Hd,bw⟩
   have aX:=aa (aW.o.trans bw)
   have vC:=aa (tT.o.grow bw)
   have Cm:=vC.o.blk.cell
   have tQ:=aa eZ
   have He:=aa Hd
   have Q0:=aa (DU q.doc Ex.o w7 cx ((vC.o.doc.jf vC.o.le)))
   have X_:=aa (show w6.heap.size≤w7.heap.size from bw.size)
   clear eZ Hd bw zX Cl
   go_wp2_with fail
   refine Q0.o.mono ?_
   rintro e w8 ⟨cv,rfl,hin,bW⟩
   have yx:=aa hin
   have Hg:=aa bW
   have bt:=aa ((aX.o.trans bW).alloc (.cells cv.cells 27))
   have afQ:=aa (kG tQ.o (bW.alloc (.cells cv.cells 27)))
   clear hin bW Cm
   go_wp2_with fail
   refine(afR w6.heap.size c.ag.length D c7 w8.heap.size A7 (cK cs) cv.cells.toList _ 27 (BQ cs) (by simp[Value.oneCell']) afQ.o G9.o (by omega) rfl (az w8 27 cv.cells) (by
    intro e
    have h1:=(bJ tQ.o w8.heap.size e).2
    have h2:=Hg.o.size
    omega) (by simp;have:=X_.o;have:=Hg.o.size;omega)).mono ?_
   rintro ee w9 ⟨A9,c9,rfl,jy,Cn,EA⟩
   have dN:=aa (bt.o.grown Cn (fun k hk=>by have h1:=(bJ tQ.o k (by rw[bj] at hk ⊢;exact hk)).1;have h2:=aW.o.size;omega))
   have Hh:=aa (HM.o.grow dN.o)
   have Q3:=(kL.o w9 dN.o).2
   have hnew:=X5 (w9:=w9) (A7:=A7) (A9:=A9) (mb:=mb) (gb:=gb) He.o yx.o vC.o.le Hg.o (((gN (S:=fun k=>ba A7=some k) ((ah w8).alloc (.cells cv.cells 27)))).trans ((pM Cn).mono (fun k hk=>by rw[bj] at hk;exact hk)))
    (fun g hg=>by have h1:=bJ tQ.o g (by rw[bj];exact hg);exact⟨aV tT.o.le h1.1,h1.2⟩)
    (fun g hg=>by rw[bj,bj] at EA;rcases EA with h | h;exact .inl (by rw[← h];exact hg);exact .inr (by rw[h] at hg;injection hg with hg;simp at hg;omega)) HM.o.lo jx.o vC.o.lt (bG iK.o aX.o.size)
   have hcl:cs.length=c.ag.length:=He.o.1.symm
   have qX:=aa (show VR (Sp mb gb) w9 w6.heap.size A9 c9 (cD cs D cv) (cD c.ag D q.doc) from ⟨by
    rw[qM,hcl,show ((cD cs D cv).map vF).flatten=(cK cs).take (D*5)++cv.cells.toList++(cK cs).drop (D*5) from (PK _ 5 (fun _=>rfl) cs D cv).symm]
    exact jy,⟨by rw[qM,qM,hcl],fun j a b ha hb=>by
     have ht:=(hnew.1.ins D hnew.2)
     exact ht.2 j b a hb ha⟩⟩)
   have Hi:=aa (show ¬ (gL c.ag kb=true∧q.aM≠3) from by rw[tW.o];simp)
   have xg:=aa (show eT c.ag q.doc=cD c.ag D q.doc by unfold eT;rw[lR.o,ak (by rw[tW.o];decide),nM.o])
   clear jy Cn EA hnew hcl
   go_wp2_with fail
   clear Q3
   obtain⟨nd,Hj⟩:∃nd,c.ag.length+1=nd:=⟨_,rfl⟩
   rw[Hj]
   have HLEN:=aa (show (eT c.ag q.doc).length=nd by rw[xg.o,qM];exact Hj)
  rotate_left
  focus
   rcases F4 (q.aM=3) with h3 | h3
   rotate_left
   ·have h3':(q.aM==3)=false:=by simp[h3]
    go_wp2_with fail
    refine(oh 6 w6).mono ?_
    rintro e w7 ⟨rfl,rfl⟩
    go_wp2_with fail
    exact⟨rfl,zV.err (aW.o.below.mono HM.o.le) (by unfold oH;rw[ak (by rw[HF.o];decide),lR.o,ak (by simp),fY.o,LM.o,ak (by simp),aD ⟨tW.o,h3⟩])⟩
   have h3':(q.aM==3)=true:=by simp[h3]
   go_wp2_with fail
   refine(jK 6 w6).mono ?_
   rintro e w7 ⟨rfl,rfl⟩
   go_wp2_with fail
   refine(X9.o w6 aW.o).mono ?_
   rintro e w7 ⟨A7,c7,cs,rfl,eZ,Hd,bw⟩
   have hDl:D<c.ag.length:=by rw[← nM.o];exact yj tW.o
   obtain⟨nb,Q4,Hk,lS,Ya,afS,afT,Yb,Qu,hl7⟩:=ju eZ (by omega)
   subst Hk
   have aX:=aa (aW.o.trans bw)
   have vC:=aa (tT.o.grow bw)
   have Cm:=vC.o.blk.cell
   have tQ:=aa eZ
   have He:=aa Hd
   have Q0:=aa (DU q.doc Ex.o w7 cx ((vC.o.doc.jf vC.o.le)))
   have X_:=aa (show w6.heap.size≤w7.heap.size from bw.size)
   have Yc:=aa (show Blk w7 nb 27 Q4 from Ya)
   have gH:=aa hDl
   have afU:=aa Yb
   have Yd:(D:Int)<(c.ag.length:Int):=by omega
   have afV:=aa afS
   have afW:=aa lS
   clear eZ Hd bw zX Cl Ya Yb Qu hl7 lS afT
   go_wp2_with fail
   refine Q0.o.mono ?_
   rintro e w8 ⟨cv,rfl,hin,bW⟩
   have yx:=aa hin
   have Hg:=aa bW
   have afX:=aa (Yc.o.grow bW)
   have afY:D*5+5≤Q4.size:=by rw[afU.o];have:=afV.o;omega
   have afZ:=aa (show w8.there nb (D*5) 5 from fun k hk=>mv afX.o (D*5+k) (by omega))
   have bR:=aa (aX.o.trans bW)
   have jz:=aa (show w.heap.size≤nb∧nb<w7.heap.size from ⟨aV aW.o.size afW.o,Yc.o.lt⟩)
   have Ye:=aa (Lt (vs:=cv.cells.toList) (kG tQ.o bW) hDl rfl)
   have nO:=aa (pM (mJ nb (some nb) rfl cv.cells.toList w8 (D*5)))
   clear hin bW Cm afY
   go_wp2_with (first
    | ((with_reducible refine aeX 27 ?_);refine wpList_store_mid rfl 27 (.tmp 84) (.tmp 83) rfl nb (D*5) cv.cells rfl rfl afZ.o (by kernel_rfl) (by simp[Value.oneCell']) ?_;(generalize w8.setCells nb (D*5) cv.cells.toList=w9 at Ye nO ⊢);have dN:=aa (show Grow w w9 from bR.o.trans' (nO.o.below bR.o.size (fun q hq=>by cases hq;exact jz.o.1)));have Q3:=(kL.o w9 dN.o).2)
    | fail)
   have Hh:=aa (HM.o.grow dN.o)
   have hnew:=X5 (w9:=w9) (A7:=some ⟨nb,0,none⟩) (A9:=some ⟨nb,0,none⟩) (mb:=mb) (gb:=gb) He.o yx.o vC.o.le Hg.o (nO.o.mono (fun k hk=>by cases hk;rfl))
    (fun g hg=>by cases hg;exact⟨aV HM.o.le jz.o.1,jz.o.2⟩) (fun g hg=>.inl hg) HM.o.lo jx.o vC.o.lt (bG iK.o aX.o.size)
   have hcl:cs.length=c.ag.length:=He.o.1.symm
   have qX:=aa (show VR (Sp mb gb) w9 w6.heap.size (some ⟨nb,0,none⟩) c7 (cs.set D cv) (c.ag.set D q.doc) from ⟨by
    rw[gW,hcl,show ((cs.set D cv).map vF).flatten=(cK cs).take (D*5)++cv.cells.toList++(cK cs).drop ((D+1)*5) from (PL _ 5 (fun _=>rfl) cs D cv (by omega)).symm]
    exact Ye.o,⟨by rw[gW,gW,hcl],fun j a b ha hb=>by
     have ht:=(hnew.1.set D hnew.2)
     exact ht.2 j b a hb ha⟩⟩)
   have Hi:=aa (show ¬ (gL c.ag kb=true∧q.aM≠3) from fun h=>h.2 h3)
   have xg:=aa (show eT c.ag q.doc=c.ag.set D q.doc by unfold eT;rw[lR.o,aD tW.o,nM.o])
   clear hnew hcl Q3
   obtain⟨A9,LL⟩:∃A:Option Addr,some ⟨nb,0,none⟩=A:=⟨_,rfl⟩
   obtain⟨c9,hc9⟩:∃c,c=c7:=⟨_,rfl⟩
   subst hc9
   obtain⟨nd,Hj⟩:∃nd,c.ag.length=nd:=⟨_,rfl⟩
   have HLEN:=aa (show (eT c.ag q.doc).length=nd by rw[xg.o,gW];exact Hj)
   rw[LL,Hj]
   rw[LL] at qX
  all_goals
   have tX:=qX
   rw[← xg.o] at tX
   have sw:gh q.doc:=⟨by rw[lR.o],xZ.o,eK.o⟩
   have Yf:=aa (show ∀d∈eT c.ag q.doc,gh d from fun d hm=>by
    rcases WU hm with rfl | hm
    ·exact sw
    exact sk.o.ag d hm)
   have QQ:=aa (fun(xq:Ix) (W:World) (hp:xq.path.size≤200) (hg:Grow w9 W)=>show Calls prog 60 #[.agg #[.string ⟨#[]⟩,.slice A9 nd c9,.slice none 0 0],.agg xq.cells] W (Qp (fun _=>False) W W.heap.size (eT c.ag q.doc)) from by
    have he:=XE ⟨#[]⟩ (eT c.ag q.doc) A9 none c9 0 0 xq W (VR.B_ (tX.o.grow kK hg) (fun g hg hs=>by
     obtain⟨cur,iG,-⟩:=Hh.o.vq lf.o (by have:=fQ.o;omega)
     rcases hs with rfl | rfl
     ·exact cU tX.o.row Hh.o.blk (by decide) hg
     exact cU tX.o.row iG (by decide) hg) (by have:=HLEN.o;omega)) (by omega) Yf.o (by have:=HLEN.o;omega) ((HT.o.grow dN.o).grow hg) ((zD.o.grow dN.o).grow hg)
    rw[HLEN.o] at he
    exact he)
   clear sw Yf
   go_loopg [100] (c.aj.length+1) (fun gk i wr=>∃j:Nat,j≤c.aj.length∧gk+j=c.aj.length+1∧i=.int .i64 j∧Grow w9 wr)
   exact⟨0,aR _,rfl,rfl,ah w9⟩
   obtain⟨j,hj,hg,rfl,hgr⟩:=hrel
   obtain⟨gk',rfl⟩:=bz gk (by omega)
   have Yg:=aa hgr
   have Hm:=aa (dN.o.trans hgr)
   clear hgr
   by_cases hlt:j<c.aj.length
   ·obtain⟨nN,xo,zW,Hb,lH⟩:=Lp (jX.o.grow HM.o.le Hm.o).aj j hlt
    dsimp only at zW
    obtain⟨xq,su⟩:∃x,c.aj[j]=x:=⟨_,rfl⟩
    have hget:c.aj.getD j Ix.zero=xq:=by rw[gy,bH hlt,su];rfl
    have pT:∀i v,xq.cells[i]?=some v→wr.cell? ⟨nN,xo+j*3+i,none⟩=some v:=fun i v hv=>lH i v (by dsimp only;rw[hget];exact hv)
    subst zW
    have x0:=pT 0 (.string xq.name) rfl
    have x1:=pT 1 (.string xq.path) rfl
    have x2:=pT 2 (.bool xq.uniq) rfl
    rw[fX] at x0
    have yz:=aa (show xq.path.size≤200 from sk.o.path xq (by rw[← su];exact aS hlt))
    have bt:=aa (Yg.o.alloc (.cells #[.string xq.name,.string xq.path,.bool xq.uniq] 64))
    have nH:=aa (az wr 64 #[.string xq.name,.string xq.path,.bool xq.uniq])
    have hx1:=nH.o.cell
    clear lH pT hget su
    go_wp2_with fail
    clear x0 x1 x2 hx1
    refine(QQ.o xq _ yz.o bt.o).mono ?_
    rintro e qY ⟨tY,er,gQ,c10,tU,EB,rfl,hen,-,hel⟩
    have mZ:=aa hen
    have jo:=aa hel
    have LQ:=aa (bt.o.trans tY)
    have Yh:=aa (nH.o.grow tY)
    clear hen hel tY
    rcases Dm xq.uniq with hu | hu
    rotate_left
    ·have hx2:qY.cell? ⟨wr.heap.size,2,none⟩=some (.bool false):=by rw[Yh.o.cell];rw[← hu];rfl
     clear hu
     go_wp2_with fail
     clear hx2
     go_roundg gk'
     exact⟨j+1,by omega,by omega,by go_num,LQ.o⟩
     omega
    have hx2:qY.cell? ⟨wr.heap.size,2,none⟩=some (.bool true):=by rw[Yh.o.cell];rw[← hu];rfl
    have zT:=aa (XG _ _ _ c10 gQ tU EB qY mZ.o (by have h2:=jo.o;have h3:=HLEN.o;omega))
    clear hu
    go_wp2_with fail
    refine zT.o.mono ?_
    rintro e pU ⟨TW,rfl,EC⟩
    have uW:=aa (LQ.o.trans EC)
    clear EC hx2
    cases TW with
    | true =>
     go_wp2_with fail
     refine(oh 13 pU).mono ?_
     rintro e w13 ⟨rfl,rfl⟩
     go_wp2_with fail
     exact⟨rfl,.error 13,.inr ⟨fun h=>(by rw[fY.o] at h;rw[h] at hlt;cases hlt),rfl⟩,pO ((dN.o.trans uW.o).below.mono HM.o.le) rfl⟩
    | false =>
     go_wp2_with fail
     refine(jK 13 pU).mono ?_
     rintro e w13 ⟨rfl,rfl⟩
     go_wp2_with fail
     go_roundg gk'
     exact⟨j+1,by omega,by omega,by go_num,uW.o⟩
     omega
   have QX:j=c.aj.length:=by omega
   subst QX
   have sx:=aa (HM.o.grow Hm.o)
   obtain⟨cur,iG,-⟩:=sx.o.vq lf.o (by have:=fQ.o;omega)
   have bZ:=iG.frozen
   have u_:=(kL.o wr Hm.o).1
   have kM:gb≠mb:=bS.o
   have cP:=aa (sx.o.blk.far (p:=⟨gb,P*3+1,none⟩) (fun e=>kM e.symm) (.slice A9 nd c9))
   have qU:=cP.o.frozen
   have hbc:=cP.o.cell
   clear iG
   go_wp2_with fail
   go_end0
   exact afO HM.o Hm.o sx.o lf.o nK.o (jX.o.grow HM.o.le Hm.o) fQ.o kM jx.o (bD.o.dl hN) (by have:=HLEN.o;omega) (tX.o.grow kK Yg.o) HLEN.o (by
    unfold oH
    rw[ak (by rw[HF.o];decide),lR.o,ak (by simp),fY.o,LM.o,ak (by simp),ak Hi.o,HP.o,tW.o])
end Go.Proofs.YtndjopkdbdcmdaaGreatDoor
