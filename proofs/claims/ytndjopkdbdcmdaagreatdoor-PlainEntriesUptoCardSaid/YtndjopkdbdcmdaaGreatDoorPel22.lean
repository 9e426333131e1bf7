/- The law PlainEntries holds of any requests, any index and any document of bulk at most 1048576: any document's key, its entry in any index; a collection's entries. Conditions: the bound on the bulk; and the row's own (the listed tables read as their initialisers lay them; the card ties them to the program's text). -/
import Derived.Test.YtndjopkdbdcmdaaGreatDoorPel20
import Derived.Test.YtndjopkdbdcmdaaGreatDoorPel21
set_option linter.unusedVariables false
set_option linter.unusedSimpArgs false
set_option maxRecDepth 100000
set_option maxHeartbeats 12800000
open Go.Proofs.Tryz
namespace Go.Proofs.YtndjopkdbdcmdaaGreatDoor
section
open Go.RowKit
section
variable {P:Program} {ops:Array Oper} {a:Act}
theorem aiK{S:World→Prop}{ty t:TypeId}{x:Operand}{d:Option Tmp}{p:String}{af:Array Edge}{g o n:Nat}{cs:Array Value}{td:TypeDesc}(hu:P.underlying ty=some td)(hd:td.isRow=true)(hx:a.eval x=.pointer (some ⟨g,o,none⟩))(hi:(P.info? ty).map (·.size)=some n)(hn:cs.size=n)
 (hget:∀w,S w→∀j v,cs[j]?=some v→w.cell? ⟨g,o+j,none⟩=some v):YieldsIf P ops S ⟨d,.load ty x,t,p,af,none⟩ (.agg cs) a:=by
 have h:=yieldsIf_load_mid (P:=P) (ops:=ops) (S:=S) (op:=⟨d,.load ty x,t,p,af,none⟩) (a:=a) (by simp[Region.wanted]) ty x rfl g o hx cs.toList td (fun w hS j v hv=>hget w hS j v (by rwa [pg] at hv)) hu hd (by rw[ye,hn];exact hi);simpa using h
end
theorem vz.ok{w:World}{A:Option Addr}{l:List Rq}(h:vz w A l)(hn:qM l≤20000):∀q∈l,uo q:=fun q hq=>by
 have h1:=ahT hq;obtain⟨i,hi,rfl⟩:=sJ.1 hq;obtain⟨bk,o,ck,cl,ch,cx,-,-,-,-,-,-,hx⟩:=h i hi;exact⟨by omega,by omega,by omega,by omega,IsV.fit _ _ hx⟩
theorem aiL{N cap:Nat}{A:Option Addr}{st:List Co}{q:Rq}{ck cl ch cx:Cv}{w:World}(hst:dR w A cap st)(hok:ed N st)(hN:N≤1000000)(hR:uo q)(hB:Bl q)(hk:In w q.key ck)(hl:In w q.low cl)(hh:In w q.high ch)(hx:In w q.doc cx) :
 Calls prog 35 #[.agg #[.slice A st.length cap],.agg (cP q.bp q.aD q.index q.path q.unique ck cl ch cx q.n)] w (fun e w'=>∃st' r',ed (N+1) st'∧GY false w st' r' e w'):=by
 obtain⟨d,co,ix,pa,un,kv,lv,hv,dv,n⟩:=q;refine(ah3 N cap A st d co ix pa un kv lv hv dv n ck cl ch cx w hst hok hN hR hB hk hl hh hx).mono ?_;rintro e w' ⟨st',A',c',x,m,B,k,u,z,rfl,h1,h2,h3⟩;exact⟨st',⟨x,m,List.replicate k V.zero,z⟩,h2,h3,A',c',B,u,by rw[List.length_replicate],h1,fun h=>by cases h⟩
theorem aiM(l:List Rq)(A:Option Addr)(ca:Nat)(w:World)(hq:vz w A l)(hl:l.length≤20000)(hok:∀q∈l,uo q)(hb:∀q∈l,Bl q) :
 Calls prog 17 #[.slice A l.length ca] w fun e w'=>∃A' c' st,e=.returned (.agg #[.slice A' st.length c'])∧dR w' A' c' st∧ed l.length st∧Grow w w':=by
 have HQ:=aa hq;have cJ:=aa hok;have vJ:=aa hb;have aG:=aa ((aH w 44 #[.slice none 0 0]).alloc (.cells #[.slice none 0 0] 44));have bf:=aa (df (w:=w.alloc (.cells #[.slice none 0 0] 44)) (g:=w.heap.size+1) (by simp) 44 #[.slice none 0 0]);have aP:=aa (((ah w).alloc (.cells #[.slice none 0 0] 44)).alloc (.cells #[.slice none 0 0] 44));clear hq hok hb;go_enter func17,ntmps17;go_wp2_with fail;generalize (w.alloc (.cells #[.slice none 0 0] 44)).alloc (.cells #[.slice none 0 0] 44)=w2 at aG bf aP ⊢;go_loopg [4] (l.length+1) (fun gk i wr=>∃(j:Nat) (A5:Option Addr) (c5:Nat) (st:List Co),j≤l.length∧gk+j=l.length+1∧i=.int .i64 j∧Blk wr (w.heap.size+1) 44 #[.slice A5 st.length c5]∧dR wr A5 c5 st∧ed j st∧Blk wr w.heap.size 44 #[.slice none 0 0]∧Grow w wr)
 exact⟨0,none,0,[],aS _,rfl,rfl,bf.o,dR.nil _,ed.nil,aG.o,aP.o⟩;obtain⟨j,A5,c5,st,hj,hg,rfl,hb,hst,Mi,hb2,hgr⟩:=hrel;obtain⟨gk',rfl⟩:=bP gk (by omega);by_cases hlt:j<l.length
 ·have rV:=aa hb2;have hqj:=HQ.o.grow hgr j hlt;have R3:=cJ.o l[j] (aY hlt);have R4:=vJ.o l[j] (aY hlt);obtain⟨q,hq⟩:∃q,l[j]=q:=⟨_,rfl⟩;rw[hq] at hqj R3 R4;obtain⟨g,o,ck,cl,ch,cx,rfl,hgl,hcell,h3,h4,h5,h6⟩:=hqj;have HB:=aa hb;have aO:=aa hgr;have tz:=aa (show w.heap.size+1≠w.heap.size by omega);have fw:=aa (fun(W:World) (hg:Grow wr W)=>show W.cell? ⟨w.heap.size+1,0,none⟩=some (.slice A5 st.length c5)∧(∀k v,(cP q.bp q.aD q.index q.path q.unique ck cl ch cx q.n)[k]?=some v→W.cell? ⟨g,o+j*26+k,none⟩=some v) from
   ⟨(hb.grow hg).cell 0,fun k v hv=>(hg.below.cell (p:=⟨g,o+j*26+k,none⟩) hgl).trans (hcell k v hv)⟩)
  have kY:=aa (fun(W:World) (hg:Grow wr W)=>aiL (hst.grow hg) Mi (by omega) R3 R4 (h3.grow hg) (h4.grow hg) (h5.grow hg) (h6.grow hg));clear R3 Mi hq hcell h3 h4 h5 h6 hb hst hgr R4 hb2;go_wp2_with fail;refine dN ?_;refine dO (S:=fun w'=>w'.cell? ⟨w.heap.size+1,0,none⟩=some (.slice A5 st.length c5)∧(∀k v,(cP q.bp q.aD q.index q.path q.unique ck cl ch cx q.n)[k]?=some v→w'.cell? ⟨g,o+j*26+k,none⟩=some v)) (by kernel_rfl) (fw.o _ (ah _).drew) (fun hHeld=>?_);have az:=aa (show Grow wr wr.drew from (ah _).drew);generalize wr.drew=W0 at az hHeld ⊢;refine aj 0 (hy:=bj fun w ax=>by obtain⟨hS1,gJ⟩:=ax;clear gJ;go_simp;try rfl) ?_;refine aj 1 ?_;refine aj 2 ?_;refine aj 3 ?_
  refine pq (i:=4) (v:=.agg (cP q.bp q.aD q.index q.path q.unique ck cl ch cx q.n)) (by simp only[uV,uW,uX];rfl) (by kernel_rfl) (by kernel_rfl) (by kernel_rfl) (fun _ _ _ h=>h) (aiK (g:=g) (o:=o+j*26) (n:=26) (cs:=cP q.bp q.aD q.index q.path q.unique ck cl ch cx q.n) underlying33 rfl rfl ZN rfl (fun w' hS k v hv=>hS.2 k v hv)) (by assumption) ?_
  try simp only[ak]
  refine afP (bb:=false) (P:=fun st' r'=>ed (j+1) st') (b:=5) (f:=35) (args:=#[.agg #[.slice A5 st.length c5],.agg (cP q.bp q.aD q.index q.path q.unique ck cl ch cx q.n)]) (by rfl) (by rfl) ⟨⟨by rfl,by rfl,by rfl⟩,⟨_,_,_,by rfl⟩,⟨_,_,_,by rfl⟩,⟨_,_,_,by rfl⟩,⟨_,_,_,by rfl⟩,⟨_,_,_,by rfl⟩,⟨_,_,_,by rfl⟩,⟨_,_,_,by rfl⟩⟩ (by kernel_rfl) (by kernel_rfl) (fun W=>by kernel_rfl) (fun W hg=>kY.o W (az.o.trans hg)) (fun W hg=>fw.o W (az.o.trans hg)) ?_;rintro st2 r2 W A dA c dc gs gr hp ⟨Mf,hgr,hne,xC,hbs,hbr,hst,dE⟩;simp only[fA,ui,rZ,r_,pA,Act.put,M9,MX,Je];clear hHeld;have cm:=aa (az.o.trans xC);have aC:=aa hbs;have aiN:=aa hst;have aiO:=aa hp;have D8:=aa (HB.o.grow cm.o);have hwc:=D8.o.cell
  have hwf:=D8.o.frozen;have amk:=aC.o.cell;have hjb:j+1≤20001:=by omega
  have aml:=HB.o.lt;have hs0:=tz.o;clear Mf hgr hne xC hbs hbr hst dE hp;go_wp2_with fail;go_roundg gk';have hk:Kept (fun q=>q=w.heap.size+1) W (W.setCell ⟨w.heap.size+1,0,none⟩ (.slice A st2.length c)):=(eK (S:=fun q=>q=w.heap.size+1) W).set (p:=⟨w.heap.size+1,0,none⟩) rfl _;refine⟨j+1,A,c,st2,by omega,by omega,by go_num,?_,?_,aiO.o,?_,?_⟩
  ·exact D8.o.bg 0 _
  ·exact aiN.o.bare (XR D8.o) hk
  ·exact hk.blk (rV.o.grow cm.o) (fun e=>tz.o e.symm)
  exact(aO.o.trans cm.o).setCell (p:=⟨w.heap.size+1,0,none⟩) (by simp) _;omega
 have hjl:j=l.length:=by omega
 subst hjl;have HB:=aa hb;have aO:=aa hgr;have HST:=aa hst;have HSO:=aa Mi;have rV:=aa hb2;have hbc:=HB.o.cell;have h2c:=rV.o.cell;have h2f:=rV.o.frozen;clear hb hst hgr Mi hb2;go_wp2_with fail;have hk:Kept (fun q=>q=w.heap.size) wr (wr.setCell ⟨w.heap.size,0,none⟩ (.slice A5 st.length c5)):=(eK (S:=fun q=>q=w.heap.size) wr).set (p:=⟨w.heap.size,0,none⟩) rfl _;refine gK (Xb (cs:=#[.slice A5 st.length c5]) rfl rfl rfl (rV.o.bg 0 _)) rfl ?_;exact⟨A5,c5,st,rfl,HST.o.bare (XR rV.o) hk,HSO.o,aO.o.setCell (p:=⟨w.heap.size,0,none⟩) (by simp) _⟩
end
section
open Go.RowKit
theorem InL.aiP{w:World}{v:V}{c:Cv}(h:In w v c):InL (w.alloc (.cells c.cells 27)) (some ⟨w.heap.size,0,none⟩) 1 [v]:=by
 have hg:=(ah w).alloc (.cells c.cells 27);have hB:=aH w 27 c.cells;have h':=h.grow hg;have hlt:=hB.lt;unfold InL In;rw[IsV];refine⟨rfl,rfl,rfl,rfl,rfl,by decide,by decide,by decide,by simp,by simp,by simp,by simp,by simp,by simp,⟨rfl,fun h=>by simp at h⟩,fun i hi=>?_,fun i hi=>by simp at hi⟩;obtain rfl:i=0:=by simp at hi;omega
 exact⟨w.heap.size,0,c,rfl,⟨⟨hB.cell 0,aS _,hlt⟩,⟨hB.cell 1,aS _,hlt⟩,⟨hB.cell 2,aS _,hlt⟩,⟨hB.cell 3,aS _,hlt⟩,⟨hB.cell 4,aS _,hlt⟩⟩,h'⟩
theorem aiQ(haw:∀w:World,eo w→kO w→Calls prog 13 #[] w fun e w'=>e=.returned (.bool true)∧Grow w w')(l:List Rq)(A:Option Addr)(cap:Nat)(x:Ix)(v:V)(c:Cv)(w:World)(hT:eo w)(hM:kO w)(hq:vz w A l)(hl:l.length≤140737488355328)(hb:∀q∈l,Bl q)(hx:x.path.size<4294967281)(hv:In w v c)(hvb:v.formed=true→v.bytes.length≤140737488355328) :
 Calls prog 7 #[.slice A l.length cap,.agg x.cells,c.agg] w fun e w'=>e=.returned (.bool true)∧Grow w w':=by
 have Iu:=aa haw;have HT:=aa hT;have HM:=aa hM;have HQ:=aa hq;have CH:=aa hl;have vJ:=aa hb;have HV:=aa hv;have HVB:=aa hvb;have xN:=aa hx;have Ar:=aa (show v.fit from IsV.fit _ _ hv);have HG:=aa (((ah w).alloc (.cells x.cells 64)).alloc (.cells c.cells 27));have HX:=aa ((aH w 64 x.cells).alloc (.cells c.cells 27));have HB:=aa (df (w:=w.alloc (.cells x.cells 64)) (g:=w.heap.size+1) (by simp) 27 c.cells);obtain⟨xn,xp,xu⟩:=x;dsimp only[Ix.cells] at HG HX HB xN ⊢;clear haw hT hM hq hb hv hvb hx hl;go_enter func7,ntmps7;go_wp2_with fail;generalize (w.alloc (.cells #[.string xn,.string xp,.bool xu] 64)).alloc (.cells c.cells 27)=w2 at HG HX HB ⊢;refine(Iu.o _ (HT.o.grow HG.o) (HM.o.grow HG.o)).mono ?_;rintro e w3 ⟨rfl,hg⟩;replace HG:=aa (HG.o.trans hg)
 replace HX:=aa (HX.o.grow hg);replace HB:=aa (HB.o.grow hg);clear hg Iu;have hbc:=HB.o.cell;go_wp2_with fail;have bV:=aa ((ah w3).alloc (.cells c.cells 27));refine(abm [v] _ 1 _ (InL.aiP (HV.o.grow HG.o))).mono ?_;rintro e w4 ⟨rfl,hg⟩;replace HG:=aa (HG.o.trans (bV.o.trans hg));replace HX:=aa (HX.o.grow (bV.o.trans hg));replace HB:=aa (HB.o.grow (bV.o.trans hg));clear hg bV hbc;have OG:([v].map V.count).sum=v.count:=by simp
 rw[OG];clear OG;by_cases hv2:20000≤v.count
 ·rw[bT hv2];clear hv2;go_wp2_with fail;go_ret;exact⟨rfl,HG.o⟩
 rw[bY hv2];have Mj:=aa (show v.count≤20000 by omega);clear hv2;go_wp2_with fail;refine(ahY l A cap w4 (HQ.o.grow HG.o) CH.o).mono ?_;rintro e w5 ⟨rfl,hg⟩;replace HG:=aa (HG.o.trans hg);replace HX:=aa (HX.o.grow hg);replace HB:=aa (HB.o.grow hg);clear hg;by_cases hbig:20000≤qM l
 ·rw[bT hbig];clear hbig;go_wp2_with fail;go_ret;exact⟨rfl,HG.o⟩
 rw[bY hbig];have HL5:=aa (show l.length≤20000 by have:=ZF l;omega);have aiR:=aa (vz.ok HQ.o (by omega));clear hbig;have hbc:=HB.o.cell;go_wp2_with fail;refine(J7 v c w5 Mj.o (HT.o.grow HG.o) (HV.o.grow HG.o)).mono ?_;rintro e w6 ⟨b6,A6,c6,rfl,-,mI,hg⟩;have Er:=aa mI.y_;replace HG:=aa (HG.o.trans hg);replace HX:=aa (HX.o.grow hg);replace HB:=aa (HB.o.grow hg);clear hg mI hbc;have hbc:=HB.o.cell;go_wp2_with fail;refine(KU v c w6 Mj.o HVB.o (HV.o.grow HG.o)).mono ?_;rintro e w7 ⟨b7,A7,c7,rfl,-,ji,hg⟩;have Mk:=aa ji.y_;replace Er:=aa (Er.o.grow hg);replace HG:=aa (HG.o.trans hg);replace HX:=aa (HX.o.grow hg);replace HB:=aa (HB.o.grow hg);clear hg ji hbc;have hbc:=HB.o.cell;have oh:=HX.o.cell;go_wp2_with fail
 refine(OH ⟨xn,xp,xu⟩ v c w7 xN.o Mj.o (HT.o.grow HG.o) (HM.o.grow HG.o) (HV.o.grow HG.o)).mono ?_;rintro e w8 ⟨b8,A8,c8,rfl,-,rM,hg⟩;have KF:=aa rM.y_;replace Er:=aa (Er.o.grow hg);replace Mk:=aa (Mk.o.grow hg);replace HG:=aa (HG.o.trans hg);replace HX:=aa (HX.o.grow hg);replace HB:=aa (HB.o.grow hg);clear hg rM hbc oh;have hbc:=HB.o.cell;have oh:=HX.o.cell;go_wp2_with fail;refine(KV ⟨xn,xp,xu⟩ v c w8 xN.o Mj.o Ar.o HVB.o (HV.o.grow HG.o)).mono ?_;rintro e w9 ⟨b9,A9,c9,rfl,-,Hu,hg⟩;have R6:=ly c9 Hu.y_;have R7:=ly c8 (KF.o.grow hg);have R8:=ly c6 (Er.o.grow hg);have F3:=ly c7 (Mk.o.grow hg);replace HG:=aa (HG.o.trans hg);replace HX:=aa (HX.o.grow hg);clear hg Hu hbc oh HB Er Mk KF
 obtain⟨⟨kb,ke⟩,hkk⟩:∃p,bt v=p:=⟨_,rfl⟩;obtain⟨⟨eb,et,ee⟩,xw⟩:∃p,cH xp v=p:=⟨_,rfl⟩;dsimp only at R8 F3 R7 R6 ⊢;simp only[hkk,xw] at R8 F3 R7 R6 ⊢;clear hkk xw;go_wp2_with fail;clear R8 F3 R7 R6;refine(aiM l A cap w9 (HQ.o.grow HG.o) HL5.o aiR.o vJ.o).mono ?_;rintro e oL ⟨ja,c10,st,rfl,hst,hok,hg⟩;have HST:=aa hst;have cJ:=aa hok;replace HG:=aa (HG.o.trans hg);replace HX:=aa (HX.o.grow hg);clear hg hst hok;go_upto_region 13 with fail;have aaw:=aa (aH oL 44 #[.slice ja st.length c10]);have kg:=aa ((ah oL).alloc (.cells #[.slice ja st.length c10] 44));generalize oL.alloc (.cells #[.slice ja st.length c10] 44)=uq at aaw kg ⊢;go_loopg [18] (st.length+1) (fun gk i wr=>∃j:Nat,j≤st.length∧gk+j=st.length+1∧i=.int .i64 j∧Grow uq wr)
 exact⟨0,aS _,rfl,rfl,ah _⟩;obtain⟨j,hj,iB,rfl,hgr⟩:=hrel;obtain⟨gk',rfl⟩:=bP gk (by omega);have aO:=aa hgr;have K5:=cJ.o.n;have aC:=aa (aaw.o.grow hgr);have cm:=aa (HG.o.trans (kg.o.trans hgr));clear hgr;have hbs:=aC.o.cell;by_cases hlt:j<st.length
 ·obtain⟨bk,o,e,rfl,hbk,aW,hcell⟩:=(HST.o.grow (kg.o.trans aO.o)).rS j hlt;have cS:=aa (cJ.o.co _ (aY hlt));obtain⟨c,hc⟩:∃c,st[j]=c:=⟨_,rfl⟩;rw[hc] at cS aW;obtain⟨nm,dA,dn,dc,xA,BG,xc⟩:=e;obtain⟨h1,h2,h3,h4,h5,h6⟩:=aW;dsimp only at h1 h2 h3 h4 h5 h6;subst h1 h2;have dM:=aa (show InL wr dA dc c.ag from h5);have DC:=aa (show c.ag.length≤1000000 from by have:=cS.o.nd;have:=HL5.o;omega);have fP:=aa (fun(W:World) (hg:Grow wr W)=>show ∀k u,(Cc.cells ⟨c.name,dA,c.ag.length,dc,xA,BG,xc⟩).toList[k]?=some u→k<3→W.cell? ⟨bk,o+j*3+k,none⟩=some u from fun k u hu hk=>(hg.below.cell (p:=⟨bk,o+j*3+k,none⟩) hbk).trans (hcell k u hu hk));replace HX:=aa (HX.o.grow (kg.o.trans aO.o));have HTR:=aa (HT.o.grow cm.o)
  have Ec:=aa (HM.o.grow cm.o);have yE:(0:Int)≤(j:Int):=by omega
  have DD:(j:Int)<(st.length:Int):=by omega
  clear hcell h3 h4 h5 h6 hc;go_upto_region 15 with fail;refine dN ?_;refine dO (S:=fun w'=>Grow wr w') (by kernel_rfl) ((ah _).drew) (fun hHeld=>?_);have az:=aa (show Grow wr wr.drew from (ah _).drew);generalize wr.drew=W0 at az hHeld ⊢;refine aK 0 ?_
  try simp only[ak]
  refine aj 1 (hy:=bj fun w ax=>by have b:=(aC.o.grow ax).cell;clear ax;go_simp;try rfl) ?_;refine aK 2 ?_
  try simp only[ak]
  refine aK 3 ?_
  try simp only[ak]
  refine aj 4 (hy:=bj fun w ax=>by have y0:=fP.o _ ax 0 _ rfl (by omega);rw[fF] at y0;have y1:=fP.o _ ax 1 _ rfl (by omega);have y2:=fP.o _ ax 2 _ rfl (by omega);clear ax;go_simp;try rfl) ?_;refine aj 5 (hy:=bj fun w ax=>by have b:=(HX.o.grow ax).cell;clear ax;go_simp;try rfl) ?_;refine aR 6 (fun K hK=>?_);have hC:=agN c.name c.ag dA xA dc BG xc ⟨xn,xp,xu⟩ W0 (dM.o.grow az.o) xN.o cS.o.ag cS.o.keys DC.o (HTR.o.grow az.o) (Ec.o.grow az.o);dsimp only[Ix.cells] at hC;go_simp;go_at_call 30;refine hC.mono ?_;rintro ee W1 ⟨hg1,hres⟩;have bV:=aa (az.o.trans hg1);clear hg1 az;have v_:=bV;obtain⟨sB,rfl⟩ | ⟨mo,A1,c1,es1,rfl,hr1,hi1,bG⟩:=hres
  ·refine hK.out _ _ bV.o (fun hHeld=>?_);clear hC;clear hK K
   try simp only[ak]
   refine aK 7 ?_
   try simp only[ak]
   refine aK 8 ?_
   try simp only[ak]
   refine aK 9 ?_
   try simp only[ak]
   refine aK 10 ?_
   try simp only[ak]
   refine aK 11 ?_
   try simp only[ak]
   refine cz ?_;clear hHeld;replace aC:=aa (aC.o.grow v_.o);replace HX:=aa (HX.o.grow v_.o);replace dM:=aa (dM.o.grow v_.o);replace fP:=aa (fun(W:World) (hg:Grow W1 W)=>fP.o W (v_.o.trans hg));clear bV;go_upto_region 16 with fail;refine dN ?_;refine dO (S:=fun w'=>Grow W1 w') (by kernel_rfl) ((ah _).drew) (fun hHeld=>?_);have az:=aa (show Grow W1 W1.drew from (ah _).drew);generalize W1.drew=W0 at az hHeld ⊢;refine aK 0 ?_
   try simp only[ak]
   refine aj 1 (hy:=bj fun w ax=>by have b:=(aC.o.grow ax).cell;clear ax;go_simp;try rfl) ?_;refine aK 2 ?_
   try simp only[ak]
   refine aK 3 ?_
   try simp only[ak]
   refine aj 4 (hy:=bj fun w ax=>by have y0:=fP.o _ ax 0 _ rfl (by omega);rw[fF] at y0;have y1:=fP.o _ ax 1 _ rfl (by omega);have y2:=fP.o _ ax 2 _ rfl (by omega);clear ax;go_simp;try rfl) ?_;refine aj 5 (hy:=bj fun w ax=>by have b:=(HX.o.grow ax).cell;clear ax;go_simp;try rfl) ?_;refine aR 6 (fun K hK=>?_);have hC:=Qt c.name c.ag dA xA dc BG xc ⟨xn,xp,xu⟩ W0 (dM.o.grow az.o) xN.o cS.o.ag DC.o;dsimp only[Ix.cells] at hC;go_simp;go_at_call 31;refine hC.mono ?_;rintro ee W2 ⟨hg1,hres⟩;have bV:=aa (az.o.trans hg1);clear hg1 az;have Es:=bV;obtain⟨-,rfl⟩ | ⟨h0,-⟩:=hres
   ·refine hK.out _ _ bV.o (fun hHeld=>?_);clear hC;clear hK K
    try simp only[ak]
    refine aK 7 ?_
    try simp only[ak]
    refine aK 8 ?_
    try simp only[ak]
    refine aK 9 ?_
    try simp only[ak]
    refine aK 10 ?_
    try simp only[ak]
    refine aK 11 ?_
    try simp only[ak]
    refine cz ?_;clear hHeld;obtain⟨z,hz⟩:∃z,fW xp c.ag=z:=⟨_,rfl⟩;rw[hz];clear hz sB;go_wp2_with fail;refine(YZ [] [] none none 0 0 W2 ⟨rfl,fun h=>by simp at h⟩ ⟨rfl,fun h=>by simp at h⟩ (fun e h=>by simp at h) (fun e h=>by simp at h) rfl (by simp)).mono ?_;rintro e W3 ⟨rfl,hg3⟩;go_wp2_with fail;go_roundg gk';exact⟨j+1,by omega,by omega,by go_num,aO.o.trans (v_.o.trans (Es.o.trans hg3))⟩;omega
   exact absurd h0 sB
  have np:=aa hr1;have w_:=aa hi1;have iC:=aa bG;clear hr1 hi1 bG;refine hK.out _ _ bV.o (fun hHeld=>?_);clear hC;clear hK K
  try simp only[ak]
  refine aK 7 ?_
  try simp only[ak]
  refine aK 8 ?_
  try simp only[ak]
  refine aK 9 ?_
  try simp only[ak]
  refine aK 10 ?_
  try simp only[ak]
  refine aK 11 ?_
  try simp only[ak]
  refine cz ?_;clear hHeld;replace aC:=aa (aC.o.grow v_.o);replace HX:=aa (HX.o.grow v_.o);replace dM:=aa (dM.o.grow v_.o);replace fP:=aa (fun(W:World) (hg:Grow W1 W)=>fP.o W (v_.o.trans hg));clear bV;go_upto_region 16 with fail;refine dN ?_;refine dO (S:=fun w'=>Grow W1 w') (by kernel_rfl) ((ah _).drew) (fun hHeld=>?_);have az:=aa (show Grow W1 W1.drew from (ah _).drew);generalize W1.drew=W0 at az hHeld ⊢;refine aK 0 ?_
  try simp only[ak]
  refine aj 1 (hy:=bj fun w ax=>by have b:=(aC.o.grow ax).cell;clear ax;go_simp;try rfl) ?_;refine aK 2 ?_
  try simp only[ak]
  refine aK 3 ?_
  try simp only[ak]
  refine aj 4 (hy:=bj fun w ax=>by have y0:=fP.o _ ax 0 _ rfl (by omega);rw[fF] at y0;have y1:=fP.o _ ax 1 _ rfl (by omega);have y2:=fP.o _ ax 2 _ rfl (by omega);clear ax;go_simp;try rfl) ?_;refine aj 5 (hy:=bj fun w ax=>by have b:=(HX.o.grow ax).cell;clear ax;go_simp;try rfl) ?_;refine aR 6 (fun K hK=>?_);have hC:=Qt c.name c.ag dA xA dc BG xc ⟨xn,xp,xu⟩ W0 (dM.o.grow az.o) xN.o cS.o.ag DC.o;dsimp only[Ix.cells] at hC;go_simp;go_at_call 31;refine hC.mono ?_;rintro ee W2 ⟨hg1,hres⟩;have bV:=aa (az.o.trans hg1);clear hg1 az;have Es:=bV;obtain⟨h0,-⟩ | ⟨-,A2,c2,NB,rfl,hr2,hi2,hm2⟩:=hres
  ·exact absurd mo h0
  have bI:=aa hr2;have Aq:=aa hi2;have l_:=aa hm2;clear hr2 hi2 hm2 mo;refine hK.out _ _ bV.o (fun hHeld=>?_);clear hC;clear hK K
  try simp only[ak]
  refine aK 7 ?_
  try simp only[ak]
  refine aK 8 ?_
  try simp only[ak]
  refine aK 9 ?_
  try simp only[ak]
  refine aK 10 ?_
  try simp only[ak]
  refine aK 11 ?_
  try simp only[ak]
  refine cz ?_;clear hHeld;go_wp2_with fail;refine(YZ es1 NB A1 A2 c1 c2 W2 (dW (eO Es.o.below (av _) (av _) Es.o.size) np.o) bI.o (fun e h=>(w_.o e h).grow Es.o) Aq.o (by rw[iC.o,l_.o]) (by have:=cT List.length iC.o;rw[cY,cY] at this;have:=YW xp c.ag;have:=DC.o;omega)).mono ?_;rintro e W3 ⟨rfl,hg3⟩;go_wp2_with fail;go_roundg gk';exact⟨j+1,by omega,by omega,by go_num,aO.o.trans (v_.o.trans (Es.o.trans hg3))⟩;omega
 go_wp2_with fail;go_ret;exact⟨rfl,cm.o⟩
end
section
open Go.RowKit Go.ChangeShapes Go.ChangeAt Go.Shelf Go.WideShapes Go.Deep
theorem aiS(os:Os){H:Type}(enc:TypeId×Value→H):∃places,DataW.whole enc prog ((J8 os).forCall (fun _ _=>0) ⟨#[],#[.slice none 0 0,.agg #[.string ⟨#[]⟩,.string ⟨#[]⟩,.bool false],Cv.zero.agg],[]⟩).memory f7.params.toList Rows.plainEntriesSpec.vars false (#[.slice none 0 0,.agg #[.string ⟨#[]⟩,.string ⟨#[]⟩,.bool false],Cv.zero.agg]:Array Value).toList 8=some ([.nil,.agg [.lit (.string []),.lit (.string []),.lit (.bool false)],adb],[],places):=
 ⟨[],by kernel_rfl⟩
theorem aiT(os:Os)(started:os.Started)(H:Type)(enc:TypeId×Value→H)(F:Stop.Interp) :
 ReturnsInHanded {} checked os 7 .any ((Rows.OpenSpec.upto Rows.plainEntriesSpec).preRow enc prog f7 Rows.plainEntriesUptoRow.domain false Rows.plainEntriesUptoRow.laid) (((Rows.OpenSpec.upto Rows.plainEntriesSpec).at F).post enc prog f7 false true false false):=by
 obtain⟨places,hx⟩:=aiS os enc;refine returnsInHanded_of_row (C:=checked) (s:=Rows.OpenSpec.upto Rows.plainEntriesSpec) ac6 started (by kernel_rfl) func7
  (witness_row_atRef (enc:=enc) (C:=checked) false (J8 os) #[.slice none 0 0,.agg #[.string ⟨#[]⟩,.string ⟨#[]⟩,.bool false],Cv.zero.agg] rfl (by kernel_rfl) (by kernel_rfl) (by kernel_rfl)
   (OpenSpec.preRow_of_cond 8 hx (by kernel_rfl) (fun k hk=>by cases hk;kernel_rfl) (by kernel_rfl) (ac7 os _))) ?_
 intro W base args ds gs before aiU hW _ hcond hsz hL hsh _;have hval:∀(j:Nat) t v,f7.params[j]?=some t→args[j]?=some v→Value.okWide prog W .any base t v:=aiU;have hW':=hW;obtain⟨p,q,hA0,KN,rfl,_,_⟩:=hW;have hA:DataW.TrodAll enc prog W 0 (fun _=>true) true f7.params.toList args.toList ds p:=hA0;rw[params7] at hA hval;obtain⟨v0,v1,v2,d0,d1,d2,p0,p1,p2,rfl,rfl,rfl,h0,h1,h2⟩:=trodAll_three hA;obtain⟨rfl,rfl⟩:=trodVars_none KN;have R9:Rows.uptoBulkAll ([d0,d1,d2]++[])≤1048576:=zL (hcond _ rfl);obtain⟨A00,aiV,aiW,rfl⟩:=okWide_slice OD (hval 0 36 v0 rfl rfl);have h0k:=h0;obtain⟨amm,h0f⟩:=h0;obtain⟨A0,aiX,l0,hv0,aiY,aiZ,-,ai0⟩:=adh (c:=.slice A00 aiV aiW) h0f (fun n hn=>by
  have:=nU.1 hsz _ (DataW.weights_mem_each (j:=0) (t:=36) (d:=d0) (by rw[params7];rfl) rfl n hn);simpa using this)
 obtain⟨s1,rfl,amn⟩:=adm (hval 1 64 v1 rfl rfl) h1;obtain⟨x2,c2,rfl,R_,Et⟩:=adf (hval 2 27 v2 rfl rfl) h2 (fun n hn=>by
  have:=nU.1 hsz _ (DataW.weights_mem_each (j:=2) (t:=27) (d:=d2) (by rw[params7];rfl) rfl n hn);simpa using this)
 rw[hv0] at h0k hW' ⊢;have hM:kO W:=afv W hsh;have hsx:s1.path.size<4294967281:=by
  simp only[mD,Rows.uptoBulkAll] at R9;omega
 have hvl:x2.bytes.length≤140737488355328:=by
  simp only[mD,Rows.uptoBulkAll] at R9;omega
 have Ml:∀q∈l0,Bl q:=fun q hq=>by
  obtain⟨b1,b2,b3⟩:=ai0 q hq;have k1:=b1 q.key (by simp);have k2:=b1 q.low (by simp);have k3:=b1 q.high (by simp);have k4:=b1 q.doc (by simp);simp only[mD,Rows.uptoBulkAll] at R9;dsimp only at k1 k2 k3 k4;exact⟨b2,b3,by omega,by omega,by omega,by omega⟩
 have y7:∀x∈p0,x.block<W.heap.size:=fun x hx=>by
  have:=hW'.lt x (by simp[hx]);simpa using this
 have lD:∀x∈p1,x.block<W.heap.size:=fun x hx=>by
  have:=hW'.lt x (by simp[hx]);simpa using this
 have dC:∀x∈p2,x.block<W.heap.size:=fun x hx=>by
  have:=hW'.lt x (by simp[hx]);simpa using this
 refine(aiQ aiE l0 A0 aiX s1 x2 c2 W (ac8 hL) hM aiY aiZ Ml hsx R_ (fun _=>hvl)).mono ?_;rintro e W' ⟨rfl,Mm⟩;have e1:((Rows.OpenSpec.upto Rows.plainEntriesSpec).at F).fn H ([d0,d1,d2]++[])={ results:=[.lit (.bool true)],args:=[d0,d1,d2] }:=rfl;refine⟨_,rfl,_,_,_,[],p0++(p1++p2),[],hW',?_,?_,?_,Mm.below.frame _,fun h=>by cases h⟩
 ·rw[e1];exact trodAll_mk1 (shut_bool underlying4 _)
 ·rw[e1];exact trodAll_mk3 (Below.trod OC (by kernel_rfl) (zL (by kernel_rfl)) h0k Mm.below y7) (Below.trod OC (by kernel_rfl) (zL (by kernel_rfl)) h1 Mm.below lD) (Below.trod OC (by kernel_rfl) (zL (by kernel_rfl)) h2 Mm.below dC)
 rw[e1];rfl
theorem ai1:Rows.PlainEntriesUptoSaid:=
 OpenClaim.holds_of_cond 7 f7 rfl rfl rfl rfl rfl rfl rfl ⟨rfl,rfl,rfl,rfl,rfl⟩ rfl rfl rfl rfl rfl (by kernel_rfl) func7 (by kernel_rfl)
  (zL (by kernel_rfl)) (by unfold Func.isWrapper;first | (rw[ar (by decide +kernel)];kernel_rfl) | (rw[ai (by decide +kernel)];exact⟨rfl,rfl⟩))
  (fun os started H enc _ F=>by rw[OpenClaim.pre_eq_preRow];exact aiT os started H enc F)
theorem ai2(f:FuncId)(fn:Func)(hf:Tryz.pinned.checked.prog.funcNamed "muniment/munimentlaw15.PlainEntries" = some f)(hfn:Tryz.pinned.checked.prog.funcs[f]?=some fn) :
 true=Tryz.pinned.checked.prog.looks []∧∀(j:Nat) t,fn.params[j]?=some t→Tryz.pinned.checked.prog.wantsStandIn t=false:=by
 obtain rfl:f=7:=pd ((show prog.funcNamed "muniment/munimentlaw15.PlainEntries" = some 7 by kernel_rfl).symm.trans hf) |>.symm;obtain rfl:fn=f7:=(pd (func7.symm.trans hfn)).symm;refine⟨by kernel_rfl, fun j t ht=>?_⟩;rw[params7] at ht;have hm:=Array.mem_of_getElem? ht;have:t=36∨t=64∨t=27:=by simpa using hm
 rcases this with rfl | rfl | rfl
 ·exact(show prog.wantsStandIn 36=false by kernel_rfl)
 ·exact(show prog.wantsStandIn 64=false by kernel_rfl)
 exact(show prog.wantsStandIn 27=false by kernel_rfl)
theorem pentries_card:Rows.PlainEntriesUptoCardSaid:=
 Claim7.holds_tied_plain_at .later [] _ _ _ _ ai1 (fun _ h=>by cases h) (by kernel_rfl) (fun _ h=>by cases h) plainEntriesUpto_row_tie rfl ⟨rfl,rfl⟩ (by kernel_rfl) rfl ai2 (by kernel_rfl)
end
end Go.Proofs.YtndjopkdbdcmdaaGreatDoor
