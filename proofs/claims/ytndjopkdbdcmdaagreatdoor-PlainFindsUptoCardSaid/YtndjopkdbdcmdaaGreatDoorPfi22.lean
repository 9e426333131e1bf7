/- The law PlainFinds holds of any requests, bounds and number of bulk at most 1048576: a search tells all documents of a range in order, and no others. Conditions: the bound on the bulk; and the row's own (the listed tables read as their initialisers lay them; the card ties them to the program's text). -/
import Derived.Test.YtndjopkdbdcmdaaGreatDoorPfi20
import Derived.Test.YtndjopkdbdcmdaaGreatDoorPfi21
set_option linter.unusedVariables false
set_option linter.unusedSimpArgs false
set_option maxRecDepth 100000
set_option maxHeartbeats 12800000
open Go.Proofs.Tryz
namespace Go.Proofs.YtndjopkdbdcmdaaGreatDoor
section
open Go.RowKit
section
variable {P:Program} {ops:Array Oper} {a:Act}
theorem aiO{S:World→Prop}{ty t:TypeId}{x:Operand}{d:Option Tmp}{p:String}{af:Array Edge}{g o n:Nat}{cs:Array Value}{td:TypeDesc}(hu:P.underlying ty=some td)(hd:td.isRow=true)(hx:a.eval x=.pointer (some ⟨g,o,none⟩))(hi:(P.info? ty).map (·.size)=some n)(hn:cs.size=n)
 (hget:∀w,S w→∀j v,cs[j]?=some v→w.cell? ⟨g,o+j,none⟩=some v):YieldsIf P ops S ⟨d,.load ty x,t,p,af,none⟩ (.agg cs) a:=by
 have h:=yieldsIf_load_mid (P:=P) (ops:=ops) (S:=S) (op:=⟨d,.load ty x,t,p,af,none⟩) (a:=a) (by simp[Region.wanted]) ty x rfl g o hx cs.toList td (fun w hS j v hv=>hget w hS j v (by rwa [pH] at hv)) hu hd (by rw[yJ,hn];exact hi);simpa using h
end
theorem vX.ok{w:World}{A:Option Addr}{l:List Rq}(h:vX w A l)(hn:rC l≤20000):∀q∈l,uU q:=fun q hq=>by
 have h1:=ah_ hq;obtain⟨i,hi,rfl⟩:=tG.1 hq;obtain⟨bk,o,ck,cl,ch,cx,-,-,-,-,-,-,hx⟩:=h i hi;exact⟨by omega,by omega,by omega,by omega,IsV.fit _ _ hx⟩
theorem aiP{N cap:Nat}{A:Option Addr}{st:List Co}{q:Rq}{ck cl ch cx:Cv}{w:World}(hst:dW w A cap st)(hok:dX N st)(hN:N≤1000000)(hR:uU q)(hB:BS q)(hk:In w q.key ck)(hl:In w q.low cl)(hh:In w q.high ch)(hx:In w q.doc cx) :
 Calls prog 35 #[.agg #[.slice A st.length cap],.agg (dm q.bj q.aA q.index q.path q.unique ck cl ch cx q.n)] w (fun e w'=>∃st' r',dX (N+1) st'∧El false w st' r' e w'):=by
 obtain⟨d,co,ix,pa,un,kv,lv,hv,dv,n⟩:=q;refine(aii N cap A st d co ix pa un kv lv hv dv n ck cl ch cx w hst hok hN hR hB hk hl hh hx).mono ?_;rintro e w' ⟨st',A',c',x,m,B,k,u,z,rfl,h1,h2,h3⟩;exact⟨st',⟨x,m,List.replicate k V.zero,z⟩,h2,h3,A',c',B,u,by rw[List.length_replicate],h1,fun h=>by cases h⟩
theorem aiQ(l:List Rq)(A:Option Addr)(ca:Nat)(w:World)(hq:vX w A l)(hl:l.length≤20000)(hok:∀q∈l,uU q)(hb:∀q∈l,BS q) :
 Calls prog 17 #[.slice A l.length ca] w fun e w'=>∃A' c' st,e=.returned (.agg #[.slice A' st.length c'])∧dW w' A' c' st∧dX l.length st∧Grow w w':=by
 have HQ:=aa hq;have cP:=aa hok;have uF:=aa hb;have aG:=aa ((aD w 44 #[.slice none 0 0]).alloc (.cells #[.slice none 0 0] 44));have bg:=aa (cX (w:=w.alloc (.cells #[.slice none 0 0] 44)) (g:=w.heap.size+1) (by simp) 44 #[.slice none 0 0]);have aM:=aa (((ah w).alloc (.cells #[.slice none 0 0] 44)).alloc (.cells #[.slice none 0 0] 44));clear hq hok hb;go_enter func17,ntmps17;go_wp2_with fail;generalize (w.alloc (.cells #[.slice none 0 0] 44)).alloc (.cells #[.slice none 0 0] 44)=w2 at aG bg aM ⊢;go_loopg [4] (l.length+1) (fun gk i wr=>∃(j:Nat) (A5:Option Addr) (c5:Nat) (st:List Co),j≤l.length∧gk+j=l.length+1∧i=.int .i64 j∧Blk wr (w.heap.size+1) 44 #[.slice A5 st.length c5]∧dW wr A5 c5 st∧dX j st∧Blk wr w.heap.size 44 #[.slice none 0 0]∧Grow w wr)
 exact⟨0,none,0,[],ba _,rfl,rfl,bg.o,dW.nil _,dX.nil,aG.o,aM.o⟩;obtain⟨j,A5,c5,st,hj,hg,rfl,hb,hst,M8,hb2,hgr⟩:=hrel;obtain⟨gk',rfl⟩:=bS gk (by omega);by_cases hlt:j<l.length
 ·have sY:=aa hb2;have hqj:=HQ.o.grow hgr j hlt;have SP:=cP.o l[j] (aW hlt);have SQ:=uF.o l[j] (aW hlt);obtain⟨q,hq⟩:∃q,l[j]=q:=⟨_,rfl⟩;rw[hq] at hqj SP SQ;obtain⟨g,o,ck,cl,ch,cx,rfl,hgl,hcell,h3,h4,h5,h6⟩:=hqj;have HB:=aa hb;have aH:=aa hgr;have uy:=aa (show w.heap.size+1≠w.heap.size by omega);have gq:=aa (fun(W:World) (hg:Grow wr W)=>show W.cell? ⟨w.heap.size+1,0,none⟩=some (.slice A5 st.length c5)∧(∀k v,(dm q.bj q.aA q.index q.path q.unique ck cl ch cx q.n)[k]?=some v→W.cell? ⟨g,o+j*26+k,none⟩=some v) from
   ⟨(hb.grow hg).cell 0,fun k v hv=>(hg.below.cell (p:=⟨g,o+j*26+k,none⟩) hgl).trans (hcell k v hv)⟩)
  have jz:=aa (fun(W:World) (hg:Grow wr W)=>aiP (hst.grow hg) M8 (by omega) SP SQ (h3.grow hg) (h4.grow hg) (h5.grow hg) (h6.grow hg));clear SP M8 hq hcell h3 h4 h5 h6 hb hst hgr SQ hb2;go_wp2_with fail;refine dN ?_;refine dO (S:=fun w'=>w'.cell? ⟨w.heap.size+1,0,none⟩=some (.slice A5 st.length c5)∧(∀k v,(dm q.bj q.aA q.index q.path q.unique ck cl ch cx q.n)[k]?=some v→w'.cell? ⟨g,o+j*26+k,none⟩=some v)) (by kernel_rfl) (gq.o _ (ah _).drew) (fun hHeld=>?_);have aC:=aa (show Grow wr wr.drew from (ah _).drew);generalize wr.drew=W0 at aC hHeld ⊢;refine aj 0 (hy:=bt fun w ax=>by obtain⟨hS1,gS⟩:=ax;clear gS;go_simp;try rfl) ?_;refine aj 1 ?_;refine aj 2 ?_;refine aj 3 ?_
  refine mr (i:=4) (v:=.agg (dm q.bj q.aA q.index q.path q.unique ck cl ch cx q.n)) (by simp only[pJ,pK,pL];rfl) (by kernel_rfl) (by kernel_rfl) (by kernel_rfl) (fun _ _ _ h=>h) (aiO (g:=g) (o:=o+j*26) (n:=26) (cs:=dm q.bj q.aA q.index q.path q.unique ck cl ch cx q.n) underlying33 rfl rfl aal rfl (fun w' hS k v hv=>hS.2 k v hv)) (by assumption) ?_
  try simp only[ak]
  refine afh (bb:=false) (P:=fun st' r'=>dX (j+1) st') (b:=5) (f:=35) (args:=#[.agg #[.slice A5 st.length c5],.agg (dm q.bj q.aA q.index q.path q.unique ck cl ch cx q.n)]) (by rfl) (by rfl) ⟨⟨by rfl,by rfl,by rfl⟩,⟨_,_,_,by rfl⟩,⟨_,_,_,by rfl⟩,⟨_,_,_,by rfl⟩,⟨_,_,_,by rfl⟩,⟨_,_,_,by rfl⟩,⟨_,_,_,by rfl⟩,⟨_,_,_,by rfl⟩⟩ (by kernel_rfl) (by kernel_rfl) (fun W=>by kernel_rfl) (fun W hg=>jz.o W (aC.o.trans hg)) (fun W hg=>gq.o W (aC.o.trans hg)) ?_;rintro st2 r2 W A dA c dc gs gr hp ⟨Cw,hgr,hne,xX,hbs,hbr,hst,ej⟩;simp only[fA,uP,sP,sQ,pA,Act.put,N7,List.set_cons_zero,J1];clear hHeld;have aY:=aa (aC.o.trans xX);have az:=aa hbs;have aiR:=aa hst;have aiS:=aa hp;have xO:=aa (HB.o.grow aY.o);have hwc:=xO.o.cell
  have hwf:=xO.o.frozen;have amA:=az.o.cell;have hjb:j+1≤20001:=by omega
  have amB:=HB.o.lt;have hs0:=uy.o;clear Cw hgr hne xX hbs hbr hst ej hp;go_wp2_with fail;go_roundg gk';have hk:Kept (fun q=>q=w.heap.size+1) W (W.setCell ⟨w.heap.size+1,0,none⟩ (.slice A st2.length c)):=(dU (S:=fun q=>q=w.heap.size+1) W).set (p:=⟨w.heap.size+1,0,none⟩) rfl _;refine⟨j+1,A,c,st2,by omega,by omega,by go_num,?_,?_,aiS.o,?_,?_⟩
  ·exact xO.o.bf 0 _
  ·exact aiR.o.bare (XX xO.o) hk
  ·exact hk.blk (sY.o.grow aY.o) (fun e=>uy.o e.symm)
  exact(aH.o.trans aY.o).setCell (p:=⟨w.heap.size+1,0,none⟩) (by simp) _;omega
 have hjl:j=l.length:=by omega
 subst hjl;have HB:=aa hb;have aH:=aa hgr;have HST:=aa hst;have HSO:=aa M8;have sY:=aa hb2;have hbc:=HB.o.cell;have h2c:=sY.o.cell;have h2f:=sY.o.frozen;clear hb hst hgr M8 hb2;go_wp2_with fail;have hk:Kept (fun q=>q=w.heap.size) wr (wr.setCell ⟨w.heap.size,0,none⟩ (.slice A5 st.length c5)):=(dU (S:=fun q=>q=w.heap.size) wr).set (p:=⟨w.heap.size,0,none⟩) rfl _;refine iE (Yk (cs:=#[.slice A5 st.length c5]) rfl rfl rfl (sY.o.bf 0 _)) rfl ?_;exact⟨A5,c5,st,rfl,HST.o.bare (XX sY.o) hk,HSO.o,aH.o.setCell (p:=⟨w.heap.size,0,none⟩) (by simp) _⟩
end
section
open Go.RowKit
def aaL:Prop:=∀(N cap:Nat) (A:Option Addr) (st:List Co) (i:Nat) (hi:i<st.length) (lo hi':V) (n:Int) (cl ch:Cv) (W:World),dW W A cap st→dX N st→N≤1000000→(1≤n∧n≤64)→lo.count≤20000→hi'.count≤20000→eP W→mJ W→In W lo cl→In W hi' ch →
 Calls prog 18 #[.agg #[.slice A st.length cap],.agg (dm 9 st[i].name ⟨#[]⟩ ⟨#[]⟩ false Cv.zero cl ch Cv.zero n)] W (El true W st (sZ st[i].ag lo hi' n))
theorem InL.cap{w:World}{A:Option Addr}{cap:Nat}{l:List V}(h:InL w A cap l):l.length≤cap:=by
 unfold InL In at h;rw[IsV] at h;exact h.2.2.2.2.2.2.2.2.2.2.1
section
variable {w:World} {e:Operand→Value} {d:Option Tmp} {x y:Operand} {t:TypeId} {p:String} {af:Array Edge} {g:Option (Nat×Bool)} {A:Option Addr} {n cap i:Nat}
theorem aaM(hx:e x=.slice A n cap)(hy:e y=.int .i64 i)(h1:i≤n)(h2:n≤cap) :
 (execOp e ⟨d,.slice 24 x none (some y) none,t,p,af,g⟩).run prog w=.ok (.value (.slice A i cap)) w:=by
 unfold execOp;dsimp only;rw[hx,Kw,hy];have k1:(0:Int)≤(i:Int):=by omega
 have k2:(i:Int)≤(n:Int):=by omega
 have k3:(i:Int)≤(cap:Int):=by omega
 rcases A with _ | a<;>go_simp
end
theorem M9{C:Addr→Value→Prop}:IsV C V.zero Cv.zero:=by
 unfold V.zero;rw[IsV];exact⟨rfl,rfl,rfl,rfl,rfl,by decide,by decide,by decide,by simp,by simp,by simp,by simp,by simp,by simp,⟨rfl,fun h=>by simp at h⟩,fun i hi=>by simp at hi,fun i hi=>by simp at hi⟩
theorem aiT(n:Int):∃k:Nat,1≤k∧k≤4∧wrap64 (1+bits BinOp.and IntKind.i64 n 3)=(k:Int):=by
 have h:bits BinOp.and IntKind.i64 n 3=IntKind.i64.wrap ((BitVec.ofInt 64 n &&& 3#64).toNat:Int):=rfl;obtain⟨m,hm⟩:∃m,(BitVec.ofInt 64 n &&& 3#64).toNat=m:=⟨_,rfl⟩;have ve:m≤3:=by rw[← hm,BitVec.toNat_and];exact Nat.and_le_right
 rw[h,hm];refine⟨m+1,by omega,by omega,?_⟩;have e:IntKind.i64.wrap (m:Int)=m:=by
  have h1:m=0∨m=1∨m=2∨m=3:=by omega
  rcases h1 with rfl | rfl | rfl | rfl<;>rfl
 rw[e];unfold wrap64;omega
theorem aiU(haw:∀w:World,eP w→mJ w→Calls prog 13 #[] w fun e w'=>e=.returned (.bool true)∧Grow w w')(kq:aaL)(l:List Rq)(A:Option Addr)(cap:Nat)(u v:V)(c d:Cv)(n:Int)(w:World)(hT:eP w)(hM:mJ w)(hq:vX w A l)(hl:l.length≤140737488355328)(hb:∀q∈l,BS q)(hu:In w u c)(hv:In w v d)(hn:-9223372036854775808≤n∧n≤9223372036854775807) :
 Calls prog 4 #[.slice A l.length cap,c.agg,d.agg,.int .i64 n] w fun e w'=>e=.returned (.bool true)∧Grow w w':=by
 have HAW:=aa haw;have jz:=aa kq
 have HT:=aa hT;have HM:=aa hM;have HQ:=aa hq;have KC:=aa hl;have uF:=aa hb;have HU:=aa hu;have HV:=aa hv;have HN:=aa hn;have HG:=aa (((ah w).alloc (.cells c.cells 27)).alloc (.cells d.cells 27));have ar:=aa ((aD w 27 c.cells).alloc (.cells d.cells 27));have dg:=aa (cX (w:=w.alloc (.cells c.cells 27)) (g:=w.heap.size+1) (by simp) 27 d.cells);obtain⟨b5,cr⟩:∃b,w.heap.size=b:=⟨_,rfl⟩;obtain⟨b6,kQ⟩:∃b,w.heap.size+1=b:=⟨_,rfl⟩;clear haw kq hT hM hq hl hb hu hv hn;go_enter func4,ntmps4;go_wp2_with fail;generalize (w.alloc (.cells c.cells 27)).alloc (.cells d.cells 27)=w2 at HG ar dg ⊢;simp only[cr,kQ] at ar dg ⊢;clear cr kQ;refine(HAW.o _ (HT.o.grow HG.o) (HM.o.grow HG.o)).mono ?_;rintro e w3 ⟨rfl,hg⟩;replace HG:=aa (HG.o.trans hg)
 replace ar:=aa (ar.o.grow hg);replace dg:=aa (dg.o.grow hg);clear hg HAW;have kV:=aa (InL.row2 (HU.o.grow HG.o) (HV.o.grow HG.o));have aZ:=aa ((ah w3).alloc (.cells (cells2 c d) 27));have q5:=ar.o.cell;have q6:=dg.o.cell;go_wp2_with fail;refine(abG [u,v] _ 2 _ kV.o).mono ?_;rintro e w4 ⟨rfl,hg⟩;replace HG:=aa (HG.o.trans (aZ.o.trans hg));replace ar:=aa (ar.o.grow (aZ.o.trans hg));replace dg:=aa (dg.o.grow (aZ.o.trans hg));clear hg aZ kV q5 q6;by_cases hv2:20000≤(List.map V.count [u,v]).sum
 ·rw[bW hv2];clear hv2;go_wp2_with fail;go_ret;exact⟨rfl,HG.o⟩
 rw[bX hv2];have M_:=aa (show u.count≤20000 by simp at hv2;omega);have Jr:=aa (show v.count≤20000 by simp at hv2;omega);clear hv2;go_wp2_with fail;refine(aie l A cap w4 (HQ.o.grow HG.o) KC.o).mono ?_;rintro e w5 ⟨rfl,hg⟩;replace HG:=aa (HG.o.trans hg);replace ar:=aa (ar.o.grow hg);replace dg:=aa (dg.o.grow hg);clear hg;by_cases hbig:20000≤rC l
 ·rw[bW hbig];clear hbig;go_wp2_with fail;go_ret;exact⟨rfl,HG.o⟩
 rw[bX hbig];have SR:=aa (show l.length≤20000 by have:=aaf l;omega);have aaN:=aa (vX.ok HQ.o (by omega));clear hbig;go_wp2_with fail;refine(aiQ l A cap w5 (HQ.o.grow HG.o) SR.o aaN.o uF.o).mono ?_;rintro e w6 ⟨A6,c6,st,rfl,hst,hok,hg⟩;have HST:=aa hst;have cP:=aa hok;replace HG:=aa (HG.o.trans hg);replace ar:=aa (ar.o.grow hg);replace dg:=aa (dg.o.grow hg);clear hg hst hok HQ aaN uF KC;go_wp2_with fail;obtain⟨k,hk1,hk4,hk⟩:=aiT n;simp only[hk];have HK:=aa (And.intro hk1 hk4);have SS:=aa (aD w6 44 #[.slice A6 st.length c6]);have eZ:=aa ((ah w6).alloc (.cells #[.slice A6 st.length c6] 44));clear hk hk1 hk4;generalize w6.alloc (.cells #[.slice A6 st.length c6] 44)=w7 at SS eZ ⊢;replace HG:=aa (HG.o.trans eZ.o)
 replace HST:=aa (HST.o.grow eZ.o);replace ar:=aa (ar.o.grow eZ.o);replace dg:=aa (dg.o.grow eZ.o);obtain⟨gs,Cw⟩:∃g,w6.heap.size=g:=⟨_,rfl⟩;rw[Cw] at SS ⊢;clear eZ Cw;go_loopg [11] (st.length+1) (fun gk i wr=>∃j:Nat,j≤st.length∧gk+j=st.length+1∧i=.int .i64 j∧Grow w7 wr);exact⟨0,ba _,rfl,rfl,ah _⟩;obtain⟨j,hj,kW,rfl,hgr⟩:=hrel;obtain⟨gk',rfl⟩:=bS gk (by omega);have aH:=aa hgr;have LZ:=cP.o.n;have az:=aa (SS.o.grow hgr);have aY:=aa (HG.o.trans hgr);clear hgr;have hbs:=az.o.cell;by_cases hlt:j<st.length
 ·obtain⟨bk,o,e,hA,hbk,aR,hcell⟩:=(HST.o.grow aH.o).sx j hlt;subst hA;have dI:=aa (cP.o.co _ (aW hlt));have Js:=aa (fun(lo hi':V) (n:Int) (cl ch:Cv) (W:World) (hg:Grow wr W) (hn:1≤n∧n≤64) (h1:lo.count≤20000) (h2:hi'.count≤20000) (h3:In W lo cl) (h4:In W hi' ch)=>jz.o l.length c6 _ st j hlt lo hi' n cl ch W (HST.o.grow (aH.o.trans hg)) cP.o (by have:=SR.o;omega) hn h1 h2 (HT.o.grow (aY.o.trans hg)) (HM.o.grow (aY.o.trans hg)) h3 h4);obtain⟨c0,hc⟩:∃c,st[j]=c:=⟨_,rfl⟩;rw[hc] at dI aR Js;obtain⟨nm,dA,dn,dc,xA,EO,xc⟩:=e;obtain⟨h1,h2,h3,h4,h5,h6⟩:=aR;dsimp only at h1 h2 h3 h4 h5 h6;subst h1 h2;have dD:=aa (show InL wr dA dc c0.ag from h5);have QS:=aa (show c0.ag.length≤20000 from by have:=dI.o.nd;have:=SR.o;omega)
  have hx0:=hcell 0 _ rfl (by omega);have hx1:=hcell 1 _ rfl (by omega);have hx2:=hcell 2 _ rfl (by omega);rw[gf] at hx0;have Hj:=aa (And.intro hx0 (And.intro hx1 hx2));have Iw:=aa hbk;replace ar:=aa (ar.o.grow aH.o);replace dg:=aa (dg.o.grow aH.o);have Na:(0:Int)≤(j:Int):=by omega
  have Ic:(j:Int)<(st.length:Int):=by omega
  clear hcell h3 h4 h5 h6 hc hbk;go_upto_region 11 with fail;have cD:=aa ((ah wr).alloc (.cells #[.string c0.name,.slice dA c0.ag.length dc,.slice xA EO xc] 48));have gp:=aa (aD wr 48 #[.string c0.name,.slice dA c0.ag.length dc,.slice xA EO xc]);clear hbs hx0 hx1 hx2 Iw Hj;generalize wr.alloc (.cells #[.string c0.name,.slice dA c0.ag.length dc,.slice xA EO xc] 48)=w8 at cD gp ⊢;obtain⟨gc,dQ⟩:∃g,wr.heap.size=g:=⟨_,rfl⟩;rw[dQ] at gp ⊢;clear dQ;replace aY:=aa (aY.o.trans cD.o);replace az:=aa (az.o.grow cD.o);replace ar:=aa (ar.o.grow cD.o);replace dg:=aa (dg.o.grow cD.o);replace dD:=aa (dD.o.grow cD.o);replace aH:=aa (aH.o.trans cD.o);have hbs:=az.o.cell;have hcb:=gp.o.cell
  have hC:=Js.o V.zero V.zero 64 Cv.zero Cv.zero w8 cD.o (by decide) WY WY M9 M9;rw[ag0] at hC;obtain⟨L9,Nb⟩:∃L,c0.ag.take 64=L:=⟨_,rfl⟩;rw[Nb] at hC;have M7:=aa Nb;have Jt:=aa (show L9.length=min c0.ag.length 64 from by rw[← Nb,dS];omega);have HC:=aa hC;clear hC Nb;go_wp2_with fail;refine HC.o.mono ?_;rintro e w9 ⟨l7,A9,c9,Ju,Jv,rfl,aiV,aaO⟩;have Cy:=aa (aaO rfl);dsimp only at Cy ⊢;clear aiV aaO HC hbs hcb;go_upto_region 12 with fail;have dH:=aa ((l7.alloc (.cells #[.slice A9 st.length c9] 44)).alloc (.cells (cO 0 L9.length Ju L9.length Jv 0) 31));have rZ:=aa (cX (w:=w9.alloc (.cells #[.slice A9 st.length c9] 44)) (g:=w9.heap.size+1) (by simp) 31 (cO 0 L9.length Ju L9.length Jv 0))
  replace Cy:=aa (Cy.o.grow (((ah w9).alloc (.cells #[.slice A9 st.length c9] 44)).alloc (.cells (cO 0 L9.length Ju L9.length Jv 0) 31)));clear l7;dsimp only[cO] at dH rZ Cy ⊢;generalize (w9.alloc (.cells #[.slice A9 st.length c9] 44)).alloc (.cells #[.int .i64 0,.int .i64 L9.length,.slice Ju L9.length Jv,.int .i64 0] 31)=nI at dH rZ Cy ⊢;obtain⟨gr,hgr⟩:∃g,w9.heap.size+1=g:=⟨_,rfl⟩;rw[hgr] at rZ ⊢;clear hgr;replace az:=aa (az.o.grow dH.o);replace ar:=aa (ar.o.grow dH.o);replace dg:=aa (dg.o.grow dH.o);replace dD:=aa (dD.o.grow dH.o);replace gp:=aa (gp.o.grow dH.o);replace aY:=aa (aY.o.trans dH.o);replace cD:=aa (cD.o.trans dH.o);replace aH:=aa (aH.o.trans dH.o);have aaP:=aa (show InL nI dA dc L9 from by
   have h:=dD.o.pre (n:=L9.length) (by have:=Jt.o;omega);rwa [show c0.ag.take L9.length=L9 from by
    rw[Jt.o,← M7.o];by_cases h6:c0.ag.length≤64
    ·rw[show min c0.ag.length 64=c0.ag.length by omega,jD (ay _),jD h6]
    rw[show min c0.ag.length 64=64 by omega]] at h)
  have iW:=aa (dD.o.cap);refine dN ?_;refine dO (S:=fun w'=>Grow nI w') (by kernel_rfl) ((ah _).drew) (fun hHeld=>?_);have aC:=aa (show Grow nI nI.drew from (ah _).drew);generalize nI.drew=W0 at aC hHeld ⊢;refine aJ 0 ?_
  try simp only[ak]
  refine aj 1 (hy:=bt fun w ax=>by have b:=(rZ.o.grow ax).cell;clear ax;go_simp;try rfl) ?_;refine aJ 2 ?_
  try simp only[ak]
  refine aJ 3 ?_
  try simp only[ak]
  refine aJ 4 ?_
  try simp only[ak]
  refine aj 5 (hy:=bt fun w ax=>by have b:=(rZ.o.grow ax).cell;clear ax;go_simp;try rfl) ?_;refine aJ 6 ?_
  try simp only[ak]
  refine aj 7 (hy:=bt fun w ax=>by have b:=(gp.o.grow ax).cell;clear ax;go_simp;try rfl) ?_;refine aJ 8 ?_
  try simp only[ak]
  refine mr (i:=9) (v:=.int .i64 (L9.length:Int)) (by simp only[pJ,pK,pL];rfl) (by kernel_rfl) (by kernel_rfl) (by kernel_rfl) (fun _ _ _ h=>h) (Or.inl ⟨by rfl,?_⟩) (by assumption) ?_
  ·(intro w hSw;(try dsimp only at hSw);clear hSw;have e:min (c0.ag.length:Int) 64=(L9.length:Int):=by (have:=Jt.o;omega)
    rw[← e];go_simp)
  try simp only[ak]
  refine aJ 10 ?_
  try simp only[ak]
  refine aJ 11 ?_
  try simp only[ak]
  refine aJ 12 ?_
  try simp only[ak]
  refine aJ 13 ?_
  try simp only[ak]
  refine aj 14 (hy:=bt fun w ax=>by have b:=(rZ.o.grow ax).cell;clear ax;go_simp;try rfl) ?_;refine aJ 15 ?_
  try simp only[ak]
  refine aj 16 (hy:=bt fun w ax=>by have b:=(gp.o.grow ax).cell;clear ax;go_simp;try rfl) ?_;refine aJ 17 ?_
  try simp only[ak]
  refine aj 18 (hy:=bt fun w ax=>by have b:=(rZ.o.grow ax).cell;clear ax;go_simp;try rfl) ?_;refine mr (i:=19) (v:=.slice dA L9.length dc) (by simp only[pJ,pK,pL];rfl) (by kernel_rfl) (by kernel_rfl) (by kernel_rfl) (fun _ _ _ h=>h) (Or.inl ⟨by rfl,fun w _=>aaM (n:=c0.ag.length) (by rfl) (by rfl) (by have:=Jt.o;omega) iW.o⟩) (by assumption) ?_
  try simp only[ak]
  refine aK 20 (fun K hK=>?_);have hC:=G_ L9 L9 Ju dA Jv dc W0 (Cy.o.grow aC.o) (aaP.o.grow aC.o);go_simp;go_at_call 19;refine hC.mono ?_;rintro ee W1 ⟨bb,rfl,hbb,hg1⟩;obtain rfl:bb=true:=hbb.2 rfl;have aZ:=aa (aC.o.trans hg1);refine hK.out _ _ aZ.o (fun hHeld=>?_);clear hC hbb hg1;clear hK K
  try simp only[ak]
  refine aJ 21 ?_
  try simp only[ak]
  refine aJ 22 ?_
  try simp only[ak]
  refine cz ?_;clear hHeld;replace az:=aa (az.o.grow aZ.o);replace ar:=aa (ar.o.grow aZ.o);replace dg:=aa (dg.o.grow aZ.o);replace dD:=aa (dD.o.grow aZ.o);replace gp:=aa (gp.o.grow aZ.o);replace aY:=aa (aY.o.trans aZ.o);replace aH:=aa (aH.o.trans aZ.o);replace cD:=aa (cD.o.trans aZ.o);clear aZ aC Cy aaP rZ iW Jt M7 dH;obtain⟨R,hR⟩:∃R,sZ c0.ag u v 64=R:=⟨_,rfl⟩;have HR:=aa hR;have hbs:=az.o.cell;have hcb:=gp.o.cell;have cr:=ar.o.cell;have kQ:=dg.o.cell;have hC:=Js.o u v 64 c d W1 cD.o (by decide) M_.o Jr.o (HU.o.grow aY.o) (HV.o.grow aY.o);rw[hR] at hC;have HC:=aa hC;clear hC;go_wp2_with fail;refine HC.o.mono ?_;rintro e oD ⟨hg,AR,cR,Jw,Jx,rfl,hst,ej⟩;have qd:=aa (ej rfl);dsimp only at qd ⊢
  clear hst ej HC hbs hcb cr kQ;go_upto_region 15 with fail;have fJ:=aa ((hg.alloc (.cells #[.slice AR st.length cR] 44)).alloc (.cells (cO R.e R.n Jw R.ag.length Jx R.fL) 31));have qf:=aa (cX (w:=oD.alloc (.cells #[.slice AR st.length cR] 44)) (g:=oD.heap.size+1) (by simp) 31 (cO R.e R.n Jw R.ag.length Jx R.fL));replace qd:=aa (qd.o.grow (((ah oD).alloc (.cells #[.slice AR st.length cR] 44)).alloc (.cells (cO R.e R.n Jw R.ag.length Jx R.fL) 31)));clear hg;dsimp only[cO] at fJ qf qd ⊢;generalize (oD.alloc (.cells #[.slice AR st.length cR] 44)).alloc (.cells #[.int .i64 R.e,.int .i64 R.n,.slice Jw R.ag.length Jx,.int .i64 R.fL] 31)=w13 at fJ qf qd ⊢;obtain⟨grR,hgr⟩:∃g,oD.heap.size+1=g:=⟨_,rfl⟩;rw[hgr] at qf ⊢;clear hgr;clear hR
  replace az:=aa (az.o.grow fJ.o);replace ar:=aa (ar.o.grow fJ.o);replace dg:=aa (dg.o.grow fJ.o);replace dD:=aa (dD.o.grow fJ.o);replace gp:=aa (gp.o.grow fJ.o);replace aY:=aa (aY.o.trans fJ.o);replace aH:=aa (aH.o.trans fJ.o);replace cD:=aa (cD.o.trans fJ.o);clear fJ;have bJ:=aa (ah w13);go_cut [112] from 95 to 112 (fun tt wx=>tt=.bool (decide (ei u≠0∨ei v≠0))∧Grow w13 wx)
  case first =>
   have cr:=ar.o.cell;have kQ:=dg.o.cell;go_wp2_with fail;clear cr kQ;refine(zj u _ _ M_.o (HT.o.grow (aY.o.trans bJ.o)) (HU.o.grow (aY.o.trans bJ.o))).mono ?_;rintro e wg ⟨rfl,hg⟩;replace ar:=aa (ar.o.grow hg);replace dg:=aa (dg.o.grow hg);replace bJ:=aa (bJ.o.trans hg);have Aa:=aa (In.k_ HU.o);obtain⟨gx,hgx⟩:∃g,u.good=g:=⟨_,rfl⟩;rw[hgx];have qb:=aa hgx;have cr:=ar.o.cell;have kQ:=dg.o.cell;clear hg hgx;by_cases a1:gx=0
   ·have b1:(gx != 0)=false:=by rw[a1];rfl
    have sB:=aa (EI (v:=u) (Or.inr (qb.o.trans a1)));clear a1;go_wp2_with fail;clear cr kQ;refine(zj v _ _ Jr.o (HT.o.grow (aY.o.trans bJ.o)) (HV.o.grow (aY.o.trans bJ.o))).mono ?_;rintro e wg ⟨rfl,hg⟩;replace ar:=aa (ar.o.grow hg);replace dg:=aa (dg.o.grow hg);replace bJ:=aa (bJ.o.trans hg);have Aa:=aa (In.k_ HV.o);obtain⟨gx,hgx⟩:∃g,v.good=g:=⟨_,rfl⟩;rw[hgx];have qb:=aa hgx;have cr:=ar.o.cell;have kQ:=dg.o.cell;clear hg hgx;by_cases a1:gx=0
    ·have b1:(gx != 0)=false:=by rw[a1];rfl
     have od:=aa (EI (v:=v) (Or.inr (qb.o.trans a1)));clear a1;go_wp2_with fail;go_meet;exact⟨cT Value.bool (bX (p:=ei u≠0∨ei v≠0) (fun h=>h.elim (fun h=>h sB.o) (fun h=>h od.o))).symm,bJ.o⟩
    have b1:(gx != 0)=true:=by simpa using a1
    have A1:=aa a1;clear a1;by_cases a2:d.k=0
    ·have b2:(d.k != 0)=false:=by rw[a2];rfl
     have od:=aa (EI (v:=v) (Or.inl (Aa.o.symm.trans a2)));clear a2;go_wp2_with fail;go_meet;exact⟨cT Value.bool (bX (p:=ei u≠0∨ei v≠0) (fun h=>h.elim (fun h=>h sB.o) (fun h=>h od.o))).symm,bJ.o⟩
    have b2:(d.k != 0)=true:=by simpa using a2
    have od:=aa (RU (v:=v) (fun h=>a2 (Aa.o.trans h)) (fun h=>A1.o (qb.o.symm.trans h)));clear a2;go_wp2_with fail;go_meet;exact⟨cT Value.bool (bW (p:=ei u≠0∨ei v≠0) (Or.inr od.o)).symm,bJ.o⟩
   have b1:(gx != 0)=true:=by simpa using a1
   have A1:=aa a1;clear a1;by_cases a2:c.k=0
   ·have b2:(c.k != 0)=false:=by rw[a2];rfl
    have sB:=aa (EI (v:=u) (Or.inl (Aa.o.symm.trans a2)));clear a2;go_wp2_with fail;clear cr kQ;refine(zj v _ _ Jr.o (HT.o.grow (aY.o.trans bJ.o)) (HV.o.grow (aY.o.trans bJ.o))).mono ?_;rintro e wg ⟨rfl,hg⟩;replace ar:=aa (ar.o.grow hg);replace dg:=aa (dg.o.grow hg);replace bJ:=aa (bJ.o.trans hg);have Aa:=aa (In.k_ HV.o);obtain⟨gx,hgx⟩:∃g,v.good=g:=⟨_,rfl⟩;rw[hgx];have qb:=aa hgx;have cr:=ar.o.cell;have kQ:=dg.o.cell;clear hg hgx;by_cases a1:gx=0
    ·have b1:(gx != 0)=false:=by rw[a1];rfl
     have od:=aa (EI (v:=v) (Or.inr (qb.o.trans a1)));clear a1;go_wp2_with fail;go_meet;exact⟨cT Value.bool (bX (p:=ei u≠0∨ei v≠0) (fun h=>h.elim (fun h=>h sB.o) (fun h=>h od.o))).symm,bJ.o⟩
    have b1:(gx != 0)=true:=by simpa using a1
    have A1:=aa a1;clear a1;by_cases a2:d.k=0
    ·have b2:(d.k != 0)=false:=by rw[a2];rfl
     have od:=aa (EI (v:=v) (Or.inl (Aa.o.symm.trans a2)));clear a2;go_wp2_with fail;go_meet;exact⟨cT Value.bool (bX (p:=ei u≠0∨ei v≠0) (fun h=>h.elim (fun h=>h sB.o) (fun h=>h od.o))).symm,bJ.o⟩
    have b2:(d.k != 0)=true:=by simpa using a2
    have od:=aa (RU (v:=v) (fun h=>a2 (Aa.o.trans h)) (fun h=>A1.o (qb.o.symm.trans h)));clear a2;go_wp2_with fail;go_meet;exact⟨cT Value.bool (bW (p:=ei u≠0∨ei v≠0) (Or.inr od.o)).symm,bJ.o⟩
   have b2:(c.k != 0)=true:=by simpa using a2
   have sB:=aa (RU (v:=u) (fun h=>a2 (Aa.o.trans h)) (fun h=>A1.o (qb.o.symm.trans h)));clear a2;go_wp2_with fail;go_meet;exact⟨cT Value.bool (bW (p:=ei u≠0∨ei v≠0) (Or.inl sB.o)).symm,bJ.o⟩
  obtain⟨rfl,hg⟩:=hcut;rename World=>E4;replace az:=aa (az.o.grow hg);replace ar:=aa (ar.o.grow hg);replace dg:=aa (dg.o.grow hg);replace dD:=aa (dD.o.grow hg);replace gp:=aa (gp.o.grow hg);replace qf:=aa (qf.o.grow hg);replace qd:=aa (qd.o.grow hg);replace aY:=aa (aY.o.trans hg);replace aH:=aa (aH.o.trans hg);replace cD:=aa (cD.o.trans hg);clear hg bJ;by_cases hbad:ei u≠0∨ei v≠0
  ·rw[bW hbad];obtain⟨ee,he,hRe⟩:=ag1 (ag:=c0.ag) (n:=64) hbad;obtain rfl:R=⟨ee,0,[],0⟩:=HR.o.symm.trans hRe;have be:(ee==0)=false:=by simpa using he
   have uM:=qf.o.cell;dsimp only at uM;clear hbad he hRe;go_wp2_with fail;go_roundg gk';exact⟨j+1,by omega,by omega,rfl,aH.o⟩;omega
  rw[bX hbad];have sB:=aa (tH fun h=>hbad (Or.inl h):ei u=0);have od:=aa (tH fun h=>hbad (Or.inr h):ei v=0);obtain rfl:=HR.o.symm.trans (ZJ (ag:=c0.ag) (n:=64) sB.o od.o);dsimp only at qf qd ⊢;have aaQ:=aa (fun(lo hi':V) (n:Int) (cl ch:Cv) (W:World) (hg:Grow E4 W) (hn:1≤n∧n≤64) (h1:lo.count≤20000) (h2:hi'.count≤20000) (h3:In W lo cl) (h4:In W hi' ch)=>Js.o lo hi' n cl ch W (cD.o.trans hg) hn h1 h2 h3 h4);clear hbad HR Js cD;generalize hWT:(jA c0.ag u v).take (Int.toNat 64)=WT at qf qd ⊢;have HWT:=aa hWT;clear hWT;go_wp2_with fail
  go_loopg [17,18] (c0.ag.length+1) (fun gk s i wx=>∃(b n:Nat) (AW:Option Addr) (cW:Nat) (LW:List V) (cs:List Cv),b≤c0.ag.length∧gk+b=c0.ag.length+1∧i=.int .i64 b∧ry c0.ag u v b=LW∧LW.length=n∧s=.slice AW n cW∧wx.ownsRow E4.heap.size 27 5 (.slice AW n cW) n (dG cs)∧Two (fun x y=>In E4 x y) LW cs∧Grow E4 wx);exact⟨0,0,none,0,[],[],ba _,rfl,rfl,ag5 _ _ _,rfl,rfl,iY _ _ _ _,⟨rfl,fun j a b h=>by simp at h⟩,ah _⟩;obtain⟨b,n,AW,cW,LW,cs,hb,aiW,rfl,Dw,xP,rfl,hown,mM,hgx⟩:=hrel;obtain⟨sJ,rfl⟩:∃g,gk=g+1:=⟨gk-1,by omega⟩;rename World=>wx;have oQ:=aa Dw;have nG:=aa xP;have HOWN:=aa hown;have og:=aa mM;have bJ:=aa hgx;have Qx:n≤64:=by rw[← xP,← Dw];exact ag7 _ _ _ _
  replace az:=aa (az.o.grow hgx);replace ar:=aa (ar.o.grow hgx);replace dg:=aa (dg.o.grow hgx);replace gp:=aa (gp.o.grow hgx);replace qf:=aa (qf.o.grow hgx);replace qd:=aa (qd.o.grow hgx);replace aY:=aa (aY.o.trans hgx);replace aH:=aa (aH.o.trans hgx);have hnd:=QS.o;clear Dw xP hown mM hgx;by_cases hbl:b<c0.ag.length
  ·have hcb:=gp.o.cell;obtain⟨dk,bj,y,ha,jT,e0,e1,e2,e3,e4,hy⟩:=eN.fO dD.o b hbl;dsimp only[kH] at ha;subst ha;have Ef:=aa (dI.o.ag _ (aW hbl));have HY:=aa hy;have oN:=aa (fun(W:World) (hg:Grow E4 W)=>And.intro ((hg.below.cell (p:=⟨dk,bj+b*5,none⟩) jT).trans e0) (And.intro ((hg.below.cell (p:=⟨dk,bj+b*5+1,none⟩) jT).trans e1) (And.intro ((hg.below.cell (p:=⟨dk,bj+b*5+2,none⟩) jT).trans e2) (And.intro ((hg.below.cell (p:=⟨dk,bj+b*5+3,none⟩) jT).trans e3) ((hg.below.cell (p:=⟨dk,bj+b*5+4,none⟩) jT).trans e4)))));have hc:=aiX c0.ag[b] lM y _ (HT.o.grow aY.o) (HM.o.grow aY.o) Ef.o.count (by decide) (oK hy bJ.o);clear e0 e1 e2 e3 e4;obtain⟨e0,e1,e2,e3,e4⟩:=oN.o _ bJ.o;rw[ag2 Ef.o] at hc
   have xY:((gI c0.ag[b]).getD V.zero).count≤20000:=by
    obtain⟨i0,hi0,-⟩:=Ef.o.id;rw[hi0];exact bn (GK hi0) Ef.o.count
   obtain⟨UI,SU⟩:∃x,(gI c0.ag[b]).getD V.zero=x:=⟨_,rfl⟩;rw[SU] at hc xY;have HUI:=aa SU;have aaR:=aa xY;have HC:=aa hc;have Na:(0:Int)≤(b:Int):=by omega
   have Ic:(b:Int)<(c0.ag.length:Int):=by omega
   have sI:=aa hbl;clear hy hc SU xY jT;go_wp2_with fail;refine HC.o.mono ?_;rintro e Jy ⟨hg,ci,ti,vi,rfl,hvi,MR⟩;obtain⟨hvu,rfl⟩:UI=vi∧ti=true:=by
    rcases MR with ⟨h,h2⟩ | ⟨h,-⟩
    ·exact⟨mU h,h2⟩
    cases h
   subst hvu;have nE:=aa (show In Jy UI ci from fw (fun p u h=>⟨h.1,ba _,h.2.2⟩) _ _ hvi);have aZ:=aa hg;clear hg hvi MR HC hcb e0 e1 e2 e3 e4;go_upto_region 23 with fail;have wP:=aa (aD Jy 27 ci.cells);have uE:=aa ((ah Jy).alloc (.cells ci.cells 27));generalize Jy.alloc (.cells ci.cells 27)=w17 at wP uE ⊢;obtain⟨gi,hgi⟩:∃g,Jy.heap.size=g:=⟨_,rfl⟩;rw[hgi] at wP ⊢;clear hgi;replace nE:=aa (nE.o.grow uE.o);replace aZ:=aa (aZ.o.trans uE.o);clear uE;have hib:=wP.o.cell;have cr:=(ar.o.grow aZ.o).cell;go_wp2_with fail;have hc:=KM UI u ci c w17 (zi aaR.o nE.o) (zi M_.o HU.o) (HT.o.grow (aY.o.trans aZ.o)) nE.o (HU.o.grow (aY.o.trans aZ.o));obtain⟨⟨x1,xe1⟩,hx1⟩:∃r,vW UI u=r:=⟨_,rfl⟩
   obtain⟨⟨x2,xe2⟩,hx2⟩:∃r,vW UI v=r:=⟨_,rfl⟩;rw[hx1] at hc;have Nc:=aa hx2;have HW:=aa (show fQ UI u v=((decide (c.k=0)||decide (0≤x1))&&(decide (d.k=0)||decide (x2≤0))) by unfold fQ;rw[hx1,hx2,In.k_ HU.o,In.k_ HV.o]);refine hc.mono ?_;rintro e w18 ⟨rfl,hg⟩;replace aZ:=aa (aZ.o.trans hg);replace wP:=aa (wP.o.grow hg);replace nE:=aa (nE.o.grow hg);clear hc hib cr hg hx1 hx2;have hib:=wP.o.cell;have kQ:=(dg.o.grow aZ.o).cell;go_wp2_with fail;have hc:=KM UI v ci d w18 (zi aaR.o nE.o) (zi Jr.o HV.o) (HT.o.grow (aY.o.trans aZ.o)) nE.o (HV.o.grow (aY.o.trans aZ.o));rw[Nc.o] at hc;refine hc.mono ?_;rintro e Nf ⟨rfl,hg⟩;replace aZ:=aa (aZ.o.trans hg);clear hc hib kQ hg Nc wP nE;go_upto_region 25 with fail
   go_cut [164] from 144 to 164 (fun tt wx=>tt=.bool (decide (fQ UI u v=true∧n<64))∧wx=Nf)
   case first =>
    have cr:=(ar.o.grow aZ.o).cell;have kQ:=(dg.o.grow aZ.o).cell;by_cases k1:c.k=0
    ·have bk1:(c.k==0)=true:=by rw[k1];rfl
     have K1:=aa k1;clear k1;by_cases k2:d.k=0
     ·have nW:(d.k==0)=true:=by rw[k2];rfl
      have K2:=aa k2;clear k2;by_cases k3:n<64
      ·have b3:decide ((n:Int)<64)=true:=bW (by omega);go_wp2_with fail;go_meet;exact⟨cT Value.bool (bW (p:=fQ UI u v=true∧n<64) (⟨by rw[HW.o];simp[K1.o,K2.o],k3⟩)).symm,rfl⟩
      have b3:decide ((n:Int)<64)=false:=bX (by omega);go_wp2_with fail;go_meet;exact⟨cT Value.bool (bX (p:=fQ UI u v=true∧n<64) (fun h=>k3 h.2)).symm,rfl⟩
     have nW:(d.k==0)=false:=by simpa using k2
     have K2:=aa k2;clear k2;by_cases m2:x2≤0
     ·have SV:decide (x2≤0)=true:=bW m2;have M2:=aa m2;clear m2;by_cases k3:n<64
      ·have b3:decide ((n:Int)<64)=true:=bW (by omega);go_wp2_with fail;go_meet;exact⟨cT Value.bool (bW (p:=fQ UI u v=true∧n<64) (⟨by rw[HW.o];simp[K1.o,K2.o,M2.o],k3⟩)).symm,rfl⟩
      have b3:decide ((n:Int)<64)=false:=bX (by omega);go_wp2_with fail;go_meet;exact⟨cT Value.bool (bX (p:=fQ UI u v=true∧n<64) (fun h=>k3 h.2)).symm,rfl⟩
     have SV:decide (x2≤0)=false:=bX m2;have M2:=aa m2;clear m2;go_wp2_with fail;go_meet;exact⟨cT Value.bool (bX (p:=fQ UI u v=true∧n<64) (fun h=>by have h:=h.1;rw[HW.o] at h;simp[K1.o,K2.o] at h;have:=M2.o;omega)).symm,rfl⟩
    have bk1:(c.k==0)=false:=by simpa using k1
    have K1:=aa k1;clear k1;by_cases m1:0≤x1
    ·have bm1:decide (0≤x1)=true:=bW m1;have M1:=aa m1;clear m1;by_cases k2:d.k=0
     ·have nW:(d.k==0)=true:=by rw[k2];rfl
      have K2:=aa k2;clear k2;by_cases k3:n<64
      ·have b3:decide ((n:Int)<64)=true:=bW (by omega);go_wp2_with fail;go_meet;exact⟨cT Value.bool (bW (p:=fQ UI u v=true∧n<64) (⟨by rw[HW.o];simp[K1.o,M1.o,K2.o],k3⟩)).symm,rfl⟩
      have b3:decide ((n:Int)<64)=false:=bX (by omega);go_wp2_with fail;go_meet;exact⟨cT Value.bool (bX (p:=fQ UI u v=true∧n<64) (fun h=>k3 h.2)).symm,rfl⟩
     have nW:(d.k==0)=false:=by simpa using k2
     have K2:=aa k2;clear k2;by_cases m2:x2≤0
     ·have SV:decide (x2≤0)=true:=bW m2;have M2:=aa m2;clear m2;by_cases k3:n<64
      ·have b3:decide ((n:Int)<64)=true:=bW (by omega);go_wp2_with fail;go_meet;exact⟨cT Value.bool (bW (p:=fQ UI u v=true∧n<64) (⟨by rw[HW.o];simp[K1.o,M1.o,K2.o,M2.o],k3⟩)).symm,rfl⟩
      have b3:decide ((n:Int)<64)=false:=bX (by omega);go_wp2_with fail;go_meet;exact⟨cT Value.bool (bX (p:=fQ UI u v=true∧n<64) (fun h=>k3 h.2)).symm,rfl⟩
     have SV:decide (x2≤0)=false:=bX m2;have M2:=aa m2;clear m2;go_wp2_with fail;go_meet;exact⟨cT Value.bool (bX (p:=fQ UI u v=true∧n<64) (fun h=>by have h:=h.1;rw[HW.o] at h;simp[K1.o,M1.o,K2.o] at h;have:=M2.o;omega)).symm,rfl⟩
    have bm1:decide (0≤x1)=false:=bX m1;have M1:=aa m1;clear m1;go_wp2_with fail;go_meet;exact⟨cT Value.bool (bX (p:=fQ UI u v=true∧n<64) (fun h=>by have h:=h.1;rw[HW.o] at h;simp[K1.o] at h;have:=M1.o;omega)).symm,rfl⟩
   obtain⟨rfl,rfl⟩:=hcut;rename World=>Nf;by_cases yx:fQ UI u v=true∧n<64
   ·rw[bW yx];have Ng:=aa yx;have hcb:=(gp.o.grow aZ.o).cell;obtain⟨e0,e1,e2,e3,e4⟩:=oN.o Nf (bJ.o.trans aZ.o);clear yx;go_wp2_with (at_builtin;refine sS (w0:=E4) (.tmp 165) (.tmp 171) 24 27 5 88 _ jv oO rfl rfl ((ki HOWN.o aZ.o).alloc _) rfl (LV y (aD Nf 27 y.cells)) (by omega) (by simp only[maxLen];omega) ((bJ.o.trans aZ.o).alloc _) ?_;intro A8 c8 ux cN cY);go_roundg sJ;exact⟨b+1,n+1,A8,c8,LW++[c0.ag[b]],cs++[y],by omega,by omega,rfl,(ag8 hbl (by rw[oQ.o,nG.o];exact Ng.o.2) (by rw[HUI.o];exact Ng.o.1)).trans (cT (·++[c0.ag[b]]) oQ.o),by rw[bG,nG.o];rfl,rfl,by rw[LX];simpa [dG] using cN,og.o.append (Two.one HY.o),cY⟩;omega
   rw[bX yx];have Ng:=aa yx;clear yx;go_wp2_with fail;go_roundg sJ;exact⟨b+1,n,AW,cW,LW,cs,by have:=sI.o;omega,by omega,rfl,(ag9 sI.o (by rw[oQ.o,nG.o,HUI.o];by_cases h:fQ UI u v=true;exact Or.inl (fun h2=>Ng.o ⟨h,h2⟩);exact Or.inr (by simpa using h))).trans oQ.o,nG.o,rfl,ki HOWN.o aZ.o,og.o,bJ.o.trans aZ.o⟩;omega
  have MV:b=c0.ag.length:=by omega
  subst MV;have aiY:=aa (show LW=WT from by rw[← oQ.o,ag6,← HWT.o];rfl);obtain rfl:=aiY.o;have Nh:=aa (Q8 HOWN.o (og.o.mono fun a b k=>oK k bJ.o) nG.o.symm (by rw[nG.o];omega));have hcap:=(nr HOWN.o).1;have aiZ:=aa hcap;have hk3:=HK.o;obtain⟨R3,SX⟩:∃R,sZ c0.ag u v (k:Int)=R:=⟨_,rfl⟩;have fT:=aa SX;clear hcap hk3;have hbs:=az.o.cell;have hcb:=gp.o.cell;have cr:=ar.o.cell;have kQ:=dg.o.cell;have hC:=aaQ.o u v (k:Int) c d wx bJ.o ⟨by have:=HK.o;omega,by have:=HK.o;omega⟩ M_.o Jr.o (HU.o.grow aY.o) (HV.o.grow aY.o);rw[SX] at hC;have HC:=aa hC;clear hC;go_wp2_with fail;refine HC.o.mono ?_;rintro e Jz ⟨hg,A3,c3,JA,JB,rfl,hst,ej⟩;have Ab:=aa (ej rfl);dsimp only at Ab ⊢;clear hst ej HC hbs hcb cr kQ
  go_upto_region 28 with fail;have fJ:=aa ((hg.alloc (.cells #[.slice A3 st.length c3] 44)).alloc (.cells (cO R3.e R3.n JA R3.ag.length JB R3.fL) 31));have Ac:=aa (cX (w:=Jz.alloc (.cells #[.slice A3 st.length c3] 44)) (g:=Jz.heap.size+1) (by simp) 31 (cO R3.e R3.n JA R3.ag.length JB R3.fL));replace Ab:=aa (Ab.o.grow (((ah Jz).alloc (.cells #[.slice A3 st.length c3] 44)).alloc (.cells (cO R3.e R3.n JA R3.ag.length JB R3.fL) 31)));clear hg;dsimp only[cO] at fJ Ac Ab ⊢;generalize (Jz.alloc (.cells #[.slice A3 st.length c3] 44)).alloc (.cells #[.int .i64 R3.e,.int .i64 R3.n,.slice JA R3.ag.length JB,.int .i64 R3.fL] 31)=JC at fJ Ac Ab ⊢;obtain⟨gr3,hgr⟩:∃g,Jz.heap.size+1=g:=⟨_,rfl⟩;rw[hgr] at Ac ⊢;clear hgr;clear SX;replace az:=aa (az.o.grow fJ.o)
  replace ar:=aa (ar.o.grow fJ.o);replace dg:=aa (dg.o.grow fJ.o);replace gp:=aa (gp.o.grow fJ.o);replace qf:=aa (qf.o.grow fJ.o);replace qd:=aa (qd.o.grow fJ.o);replace Nh:=aa (Nh.o.grow fJ.o);replace aY:=aa (aY.o.trans fJ.o);replace aH:=aa (aH.o.trans fJ.o);clear fJ aaQ;obtain⟨k3,k4⟩:=HK.o;obtain⟨q1,q2⟩:=ag_ (W:=jA c0.ag u v) (k:=k) (by omega);obtain rfl:=fT.o.symm.trans (ZJ (ag:=c0.ag) (n:=(k:Int)) sB.o od.o);dsimp only at Ac Ab ⊢;rw[show (jA c0.ag u v).take 64=LW from HWT.o] at q1 q2;generalize hT3:(jA c0.ag u v).take (Int.toNat (k:Int))=T3 at Ac Ab ⊢;rw[show (jA c0.ag u v).take k=T3 from hT3] at q1 q2;have SY:T3.length≤n:=by rw[← q2,nG.o];exact Nat.min_le_right _ _
  have ai0:=aa SY;have ai1:=aa (show min (k:Int) (n:Int)=(T3.length:Int) from by rw[← q2,nG.o];omega);have ai2:=aa (show InL JC AW cW T3 from by
   have h:=Nh.o.pre (n:=T3.length) (by rw[nG.o];exact SY);rw[q2] at q1;rwa [q1] at h)
  have hn:=nG.o;subst hn;clear q1 q2 SY hT3 k3 k4;go_upto_region 28 with fail;refine dN ?_;refine dO (S:=fun w'=>Grow JC w') (by kernel_rfl) ((ah _).drew) (fun hHeld=>?_);have aC:=aa (show Grow JC JC.drew from (ah _).drew);generalize JC.drew=W0 at aC hHeld ⊢;refine aJ 0 ?_
  try simp only[ak]
  refine aj 1 (hy:=bt fun w ax=>by have b:=(qf.o.grow ax).cell;clear ax;go_simp;try rfl) ?_;refine aJ 2 ?_
  try simp only[ak]
  refine aJ 3 ?_
  try simp only[ak]
  refine aJ 4 ?_
  try simp only[ak]
  refine aj 5 (hy:=bt fun w ax=>by have b:=(qf.o.grow ax).cell;clear ax;go_simp;try rfl) ?_;refine aJ 6 ?_
  try simp only[ak]
  refine aK 7 (fun K hK=>?_);have hC:=G_ LW LW Jw AW Jx cW W0 (qd.o.grow aC.o) (Nh.o.grow aC.o);go_simp;go_at_call 19;refine hC.mono ?_;rintro ee W1 ⟨bb,rfl,hbb,hg1⟩;obtain rfl:bb=true:=hbb.2 rfl;have aZ:=aa (aC.o.trans hg1);refine hK.out _ _ aZ.o (fun hHeld=>?_);clear hC hbb hg1;clear hK K
  try simp only[ak]
  refine aJ 8 ?_
  try simp only[ak]
  refine aJ 9 ?_
  try simp only[ak]
  refine aJ 10 ?_
  try simp only[ak]
  refine aJ 11 ?_
  try simp only[ak]
  refine aj 12 (hy:=bt fun w ax=>by have b:=(Ac.o.grow ax).cell;clear ax;go_simp;try rfl) ?_;refine aJ 13 ?_
  try simp only[ak]
  refine aJ 14 ?_
  try simp only[ak]
  refine aJ 15 ?_
  try simp only[ak]
  refine mr (i:=16) (v:=.int .i64 (T3.length:Int)) (by simp only[pJ,pK,pL];rfl) (by kernel_rfl) (by kernel_rfl) (by kernel_rfl) (fun _ _ _ h=>h) (Or.inl ⟨by rfl,?_⟩) (by assumption) ?_
  ·(intro w hSw;(try dsimp only at hSw);clear hSw;have e:=ai1.o
    rw[← e];go_simp)
  try simp only[ak]
  refine aJ 17 ?_
  try simp only[ak]
  refine aJ 18 ?_
  try simp only[ak]
  refine aJ 19 ?_
  try simp only[ak]
  refine aJ 20 ?_
  try simp only[ak]
  refine aj 21 (hy:=bt fun w ax=>by have b:=(Ac.o.grow ax).cell;clear ax;go_simp;try rfl) ?_;refine aJ 22 ?_
  try simp only[ak]
  refine aJ 23 ?_
  try simp only[ak]
  refine aj 24 (hy:=bt fun w ax=>by have b:=(Ac.o.grow ax).cell;clear ax;go_simp;try rfl) ?_;refine mr (i:=25) (v:=.slice AW T3.length cW) (by simp only[pJ,pK,pL];rfl) (by kernel_rfl) (by kernel_rfl) (by kernel_rfl) (fun _ _ _ h=>h) (Or.inl ⟨by rfl,fun w _=>aaM (n:=LW.length) (by rfl) (by rfl) ai0.o aiZ.o⟩) (by assumption) ?_
  try simp only[ak]
  refine aK 26 (fun K hK=>?_);have hC:=G_ T3 T3 JA AW JB cW W1 (Ab.o.grow aZ.o) (ai2.o.grow aZ.o);go_simp;go_at_call 19;refine hC.mono ?_;rintro ee W2 ⟨bb,rfl,hbb,hg1⟩;obtain rfl:bb=true:=hbb.2 rfl;have aaS:=aa (aZ.o.trans hg1);refine hK.out _ _ aaS.o (fun hHeld=>?_);clear hC hbb hg1;clear hK K
  try simp only[ak]
  refine aJ 27 ?_
  try simp only[ak]
  refine aJ 28 ?_
  try simp only[ak]
  refine cz ?_;clear hHeld;go_wp2_with fail;go_roundg gk';exact⟨j+1,by omega,by omega,rfl,aH.o.trans aaS.o⟩;omega
 go_wp2_with fail;go_ret;exact⟨rfl,aY.o⟩
end
section
open Go.RowKit Go.ChangeShapes Go.ChangeAt Go.Shelf Go.WideShapes Go.Deep
theorem ai3:aaL:=fun N cap A st i hi lo hi' n cl ch W h1 h2 h3 hn h4 h5 hT hM h6 h7 =>
 SM N cap A st st (sZ st[i].ag lo hi' n) (oz st[i].name lo hi' n) Cv.zero cl ch Cv.zero W h1 h2 h3 ⟨wU,h4,h5,wU,SN⟩ hT hM M9 h6 h7 M9 (agX h2 hi lo hi' n) (agY h2 hi lo hi' n hn)
theorem ai4(os:Os){H:Type}(enc:TypeId×Value→H):∃places,DataW.whole enc prog ((KO os).forCall (fun _ _=>0) ⟨#[],#[.slice none 0 0,Cv.zero.agg,Cv.zero.agg,.int .i64 0],[]⟩).memory f4.params.toList Rows.plainFindsSpec.vars false (#[.slice none 0 0,Cv.zero.agg,Cv.zero.agg,.int .i64 0]:Array Value).toList 8=some ([.nil,VN,VN,.lit (.int .i64 0)],[],places):=
 ⟨[],by kernel_rfl⟩
theorem ai5(os:Os)(started:os.Started)(H:Type)(enc:TypeId×Value→H)(F:Stop.Interp) :
 ReturnsInHanded {} checked os 4 .any ((Rows.OpenSpec.upto Rows.plainFindsSpec).preRow enc prog f4 Rows.plainFindsUptoRow.domain false Rows.plainFindsUptoRow.laid) (((Rows.OpenSpec.upto Rows.plainFindsSpec).at F).post enc prog f4 false true false false):=by
 obtain⟨places,hx⟩:=ai4 os enc;refine returnsInHanded_of_row (C:=checked) (s:=Rows.OpenSpec.upto Rows.plainFindsSpec) acI started (by kernel_rfl) func4
  (witness_row_atRef (enc:=enc) (C:=checked) false (KO os) #[.slice none 0 0,Cv.zero.agg,Cv.zero.agg,.int .i64 0] rfl (by kernel_rfl) (by kernel_rfl) (by kernel_rfl)
   (OpenSpec.preRow_of_cond 8 hx (by kernel_rfl) (fun k hk=>by cases hk;kernel_rfl) (by kernel_rfl) (acJ os _))) ?_
 intro W base args ds gs before ai6 hW _ hcond hsz hL hsh _;have hval:∀(j:Nat) t v,f4.params[j]?=some t→args[j]?=some v→Value.okWide prog W .any base t v:=ai6;have hW':=hW;obtain⟨p,q,hA0,LC,rfl,_,_⟩:=hW;have hA:DataW.TrodAll enc prog W 0 (fun _=>true) true f4.params.toList args.toList ds p:=hA0;rw[params4] at hA hval;obtain⟨v0,v1,v2,v3,d0,d1,d2,d3,p0,p1,p2,p3,rfl,rfl,rfl,h0,h1,h2,h3⟩:=trodAll_four hA;obtain⟨rfl,rfl⟩:=trodVars_none LC;have ai7:Rows.uptoBulkAll ([d0,d1,d2,d3]++[])≤1048576:=yI (hcond _ rfl);obtain⟨A00,ai8,ai9,rfl⟩:=okWide_slice Pb (hval 0 36 v0 rfl rfl);have h0k:=h0;obtain⟨amC,h0f⟩:=h0;obtain⟨A0,ai_,l0,hv0,aja,ajb,-,ajc⟩:=acS (c:=.slice A00 ai8 ai9) h0f (fun n hn=>by
  have:=nS.1 hsz _ (DataW.weights_mem_each (j:=0) (t:=36) (d:=d0) (by rw[params4];rfl) rfl n hn);simpa using this)
 obtain⟨x1,c1,rfl,ajd,amD⟩:=VP (hval 1 27 v1 rfl rfl) h1 (fun n hn=>by
  have:=nS.1 hsz _ (DataW.weights_mem_each (j:=1) (t:=27) (d:=d1) (by rw[params4];rfl) rfl n hn);simpa using this)
 obtain⟨x2,c2,rfl,S3,E5⟩:=VP (hval 2 27 v2 rfl rfl) h2 (fun n hn=>by
  have:=nS.1 hsz _ (DataW.weights_mem_each (j:=2) (t:=27) (d:=d2) (by rw[params4];rfl) rfl n hn);simpa using this)
 have h3k:=h3;obtain⟨n3,rfl,-,-,wf3⟩:=open_int Dn (hval 3 3 v3 rfl rfl) h3;have hn3:-9223372036854775808≤n3∧n3≤9223372036854775807:=Gn wf3;rw[hv0] at h0k hW' ⊢;have hM:mJ W:=adJ W hsh;have hqb:∀q∈l0,BS q:=fun q hq=>by
  obtain⟨b1,b2,b3⟩:=ajc q hq;have k1:=b1 q.key (by simp);have k2:=b1 q.low (by simp);have k3:=b1 q.high (by simp);have k4:=b1 q.doc (by simp);simp only[ml,Rows.uptoBulkAll] at ai7;dsimp only at k1 k2 k3 k4;exact⟨b2,b3,by omega,by omega,by omega,by omega⟩
 have uB:∀x∈p0,x.block<W.heap.size:=fun x hx=>by
  have:=hW'.lt x (by simp[hx]);simpa using this
 have iO:∀x∈p1,x.block<W.heap.size:=fun x hx=>by
  have:=hW'.lt x (by simp[hx]);simpa using this
 have eO:∀x∈p2,x.block<W.heap.size:=fun x hx=>by
  have:=hW'.lt x (by simp[hx]);simpa using this
 have OS:∀x∈p3,x.block<W.heap.size:=fun x hx=>by
  have:=hW'.lt x (by simp[hx]);simpa using this
 refine(aiU aiI ai3 l0 A0 ai_ x1 x2 c1 c2 n3 W (acK hL) hM aja ajb hqb ajd S3 hn3).mono ?_;rintro e W' ⟨rfl,JD⟩;have e1:((Rows.OpenSpec.upto Rows.plainFindsSpec).at F).fn H ([d0,d1,d2,d3]++[])={ results:=[.lit (.bool true)],args:=[d0,d1,d2,d3] }:=rfl;refine⟨_,rfl,_,_,_,[],p0++(p1++(p2++p3)),[],hW',?_,?_,?_,JD.below.frame _,fun h=>by cases h⟩
 ·rw[e1];exact trodAll_mk1 (shut_bool underlying4 _)
 ·rw[e1];exact trodAll_mk4 (Below.trod KS (by kernel_rfl) (yI (by kernel_rfl)) h0k JD.below uB) (Below.trod KS (by kernel_rfl) (yI (by kernel_rfl)) h1 JD.below iO) (Below.trod KS (by kernel_rfl) (yI (by kernel_rfl)) h2 JD.below eO) (Below.trod KS (by kernel_rfl) (yI (by kernel_rfl)) h3 JD.below OS)
 rw[e1];rfl
theorem aje:Rows.PlainFindsUptoSaid:=
 OpenClaim.holds_of_cond 4 f4 rfl rfl rfl rfl rfl rfl rfl ⟨rfl,rfl,rfl,rfl,rfl⟩ rfl rfl rfl rfl rfl (by kernel_rfl) func4 (by kernel_rfl)
  (yI (by kernel_rfl)) (by unfold Func.isWrapper;first | (rw[aw (by decide +kernel)];kernel_rfl) | (rw[ai (by decide +kernel)];exact⟨rfl,rfl⟩))
  (fun os started H enc _ F=>by rw[OpenClaim.pre_eq_preRow];exact ai5 os started H enc F)
theorem ajf(f:FuncId)(fn:Func)(hf:Tryz.pinned.checked.prog.funcNamed "muniment/munimentlaw15.PlainFinds" = some f)(hfn:Tryz.pinned.checked.prog.funcs[f]?=some fn) :
 true=Tryz.pinned.checked.prog.looks []∧∀(j:Nat) t,fn.params[j]?=some t→Tryz.pinned.checked.prog.wantsStandIn t=false:=by
 obtain rfl:f=4:=mU ((show prog.funcNamed "muniment/munimentlaw15.PlainFinds" = some 4 by kernel_rfl).symm.trans hf) |>.symm;obtain rfl:fn=f4:=(mU (func4.symm.trans hfn)).symm;refine⟨by kernel_rfl, fun j t ht=>?_⟩;rw[params4] at ht;have hm:=Array.mem_of_getElem? ht;have:t=36∨t=27∨t=3:=by simpa using hm
 rcases this with rfl | rfl | rfl
 ·exact(show prog.wantsStandIn 36=false by kernel_rfl)
 ·exact(show prog.wantsStandIn 27=false by kernel_rfl)
 exact(show prog.wantsStandIn 3=false by kernel_rfl)
theorem pfinds_card:Rows.PlainFindsUptoCardSaid:=
 Claim7.holds_tied_plain_at .later [] _ _ _ _ aje (fun _ h=>by cases h) (by kernel_rfl) (fun _ h=>by cases h) plainFindsUpto_row_tie rfl ⟨rfl,rfl⟩ (by kernel_rfl) rfl ajf (by kernel_rfl)
end
end Go.Proofs.YtndjopkdbdcmdaaGreatDoor
