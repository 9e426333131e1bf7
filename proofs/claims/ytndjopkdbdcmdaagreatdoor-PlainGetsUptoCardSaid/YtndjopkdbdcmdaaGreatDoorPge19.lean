/- Part 19 of the proof of pgets_card. -/
import Derived.Test.YtndjopkdbdcmdaaGreatDoorPge18
set_option linter.unusedVariables false
set_option linter.unusedSimpArgs false
set_option maxRecDepth 100000
set_option maxHeartbeats 12800000
open Go.Proofs.Tryz
open Go.RowKit
namespace Go.Proofs.YtndjopkdbdcmdaaGreatDoor
variable {E:Prop}{K:Act→World→Prop}{Q:Exit→Act→World→Prop}{T:TypeId}{W3 w w' w0 wn:World}{a:Act}{base c g i m:Nat}{news xs:List Value}{ops:Array Oper}{q:Rq}{s:ByteArray}{st:List Co}{u v:Value}
section
open Go.RowKit
structure CJ (q:Rq):Prop where
 aw:q.aw.size≤140737488355328
 index:q.index.size≤140737488355328
 key:q.key.bytes.length≤140737488355328
 low:q.low.bytes.length≤140737488355328
 high:q.high.bytes.length≤140737488355328
 doc:q.doc.bytes.length≤140737488355328
structure aab (st:List Co) (q:Rq):Prop where
 aM:1≤q.aM∧q.aM≤10
 make:q.aM=1→V.name q.aw=true∧cr (aP st) q.aw=false∧¬ 16≤st.length
 co:q.aM≠1→cr (aP st) q.aw=true
 put:q.aM=3∨q.aM=4→(bV q.doc).2=0∧rX q.doc (bX st q.aw).aj=0
 key:q.aM=5∨q.aM=6→(bl q.key).2=0
 ix:q.aM=7→V.name q.index=true∧¬ 200<q.path.size∧cr (gM (bX st q.aw)) q.index=false∧¬ 8≤(bX st q.aw).aj.length
 un:q.aM=8→cr (gM (bX st q.aw)) q.index=true
 fi:q.aM=9→(q.index≠⟨#[]⟩→cr (gM (bX st q.aw)) q.index=true)∧(q.low.k=0∨q.low.good=0)∧(q.high.k=0∨q.high.good=0)
def fM(w:World)(st:List Co)(q:Rq)(e:Ending)(w':World):Prop:=∃x,e=.returned (.int .i64 x)∧(x=0→aab st q)∧Grow w w'
theorem fM.err{x:Int}(h:x≠0)(hg:Grow w w'):fM w st q (.returned (.int .i64 x)) w':=⟨x,rfl,fun k=>absurd k h,hg⟩
theorem fM.ok(h:aab st q)(hg:Grow w w'):fM w st q (.returned (.int .i64 0)) w':=⟨0,rfl,fun _=>h,hg⟩
theorem yJ{names:List ByteArray}(h:cr names s=true):tP names s=(bg names s:Int):=by unfold tP;rw[aD h]
theorem CK{names:List ByteArray}(h:cr names s=false):tP names s=-1:=by unfold tP;rw[ak (by rw[h];decide)]
theorem E9(h:cr (aP st) s=true):∃hlt:bg (aP st) s<st.length,st[bg (aP st) s]=bX st s:=by
 obtain⟨h1,-,-,h4⟩:=iC h;refine⟨h4,?_⟩;rw[bH h4] at h1;injection h1
theorem ahZ(N cap:Nat)(A:Option Addr)(st:List Co)(co ix pa:ByteArray)(un:Bool)(kv lv hv dv:V)(n:Int)(ck cl ch cx:Cv)(w:World)(hst:cQ w A cap st)(hok:cz N st)(hsz:co.size≤140737488355328) :
 Calls prog 67 #[.agg #[.slice A st.length cap],.agg (b9 1 co ix pa un ck cl ch cx n)] w (fM w st ⟨1,co,ix,pa,un,kv,lv,hv,dv,n⟩):=by
 have HST:=aa hst;have bD:=aa hok;have hn:=hok.n;have HG:=aa (((ah w).alloc (.cells #[.slice A st.length cap] 44)).alloc (.cells (b9 1 co ix pa un ck cl ch cx n) 33));have ax:=aa ((az w 44 #[.slice A st.length cap]).alloc (.cells (b9 1 co ix pa un ck cl ch cx n) 33));have aq:=aa (cM (w:=w.alloc (.cells #[.slice A st.length cap] 44)) (g:=w.heap.size+1) (by simp) 33 (b9 1 co ix pa un ck cl ch cx n));have HC:=aa (fun(W:World) (hg:Grow w W)=>Ld st co A cap W (hst.grow hg) hok.oI (by omega));have oM:=aa (fun W=>Sk co W hsz);clear hst hok hsz;go_enter func67,ntmps67;go_upto_region 1 with fail;generalize (w.alloc (.cells #[.slice A st.length cap] 44)).alloc (.cells (b9 1 co ix pa un ck cl ch cx n) 33)=w3 at HG ax aq ⊢;have q0:_=some (Value.int .i64 1):=aq.o.cell 0
 have q1:_=some (Value.string co):=aq.o.cell 1;go_wp2_with fail;clear q0 q1;refine(oM.o _).mono ?_;rintro e w4 ⟨rfl,hg⟩;replace HG:=aa (HG.o.trans hg);replace ax:=aa (ax.o.grow hg);replace aq:=aa (aq.o.grow hg);clear hg;have q0:_=some (Value.int .i64 1):=aq.o.cell 0;have q1:_=some (Value.string co):=aq.o.cell 1;have b0:=ax.o.cell 0;obtain⟨nb,hnb⟩:∃b,V.name co=b:=⟨_,rfl⟩;rw[hnb];have jz:=aa hnb;clear hnb
 cases nb with
 | false =>
  go_wp2_with fail;go_ret;exact fM.err (by decide) HG.o
 | true =>
  obtain⟨F,hF⟩:∃b,cr (aP st) co=b:=⟨_,rfl⟩;have HF:=aa hF
  cases F with
  | true =>
   rw[yJ hF] at HC;obtain⟨P,hP⟩:∃p,bg (aP st) co=p:=⟨_,rfl⟩;rw[hP] at HC;have hp0:(0:Int)≤(P:Int):=by omega
   clear hP hF;go_wp2_with fail;clear q0 q1 b0;refine(HC.o _ HG.o).mono ?_;rintro e w5 ⟨rfl,hg⟩;replace HG:=aa (HG.o.trans hg);replace ax:=aa (ax.o.grow hg);replace aq:=aa (aq.o.grow hg);clear hg;have q0:_=some (Value.int .i64 1):=aq.o.cell 0;go_wp2_with fail;go_ret;exact fM.err (by decide) HG.o
  | false =>
   rw[CK hF] at HC;clear hF;go_wp2_with fail;clear q0 q1 b0;refine(HC.o _ HG.o).mono ?_;rintro e w5 ⟨rfl,hg⟩;replace HG:=aa (HG.o.trans hg);replace ax:=aa (ax.o.grow hg);replace aq:=aa (aq.o.grow hg);clear hg;have q0:_=some (Value.int .i64 1):=aq.o.cell 0;have b0:=ax.o.cell 0;by_cases LR:(16:Int)≤(st.length:Int)
   ·go_wp2_with fail;go_ret;exact fM.err (by decide) HG.o
   go_wp2_with fail;go_ret;exact fM.ok ⟨⟨by dsimp only;omega,by dsimp only;omega⟩,(fun _=>⟨jz.o,HF.o,fun h=>by omega⟩),(fun h=>by dsimp only at h;omega),(fun h=>by dsimp only at h;omega),(fun h=>by dsimp only at h;omega),(fun h=>by dsimp only at h;omega),(fun h=>by dsimp only at h;omega),(fun h=>by dsimp only at h;omega)⟩ HG.o
theorem ah0(N cap:Nat)(A:Option Addr)(st:List Co)(co ix pa:ByteArray)(un:Bool)(kv lv hv dv:V)(n:Int)(ck cl ch cx:Cv)(w:World)(hst:cQ w A cap st)(hok:cz N st)(hsz:ix.size≤140737488355328) :
 Calls prog 67 #[.agg #[.slice A st.length cap],.agg (b9 7 co ix pa un ck cl ch cx n)] w (fM w st ⟨7,co,ix,pa,un,kv,lv,hv,dv,n⟩):=by
 have HST:=aa hst;have bD:=aa hok;have hn:=hok.n;have HG:=aa (((ah w).alloc (.cells #[.slice A st.length cap] 44)).alloc (.cells (b9 7 co ix pa un ck cl ch cx n) 33));have ax:=aa ((az w 44 #[.slice A st.length cap]).alloc (.cells (b9 7 co ix pa un ck cl ch cx n) 33));have aq:=aa (cM (w:=w.alloc (.cells #[.slice A st.length cap] 44)) (g:=w.heap.size+1) (by simp) 33 (b9 7 co ix pa un ck cl ch cx n));have HC:=aa (fun(W:World) (hg:Grow w W)=>Ld st co A cap W (hst.grow hg) hok.oI (by omega));have oM:=aa (fun W=>Sk ix W hsz);clear hst hok hsz;go_enter func67,ntmps67;go_upto_region 1 with fail;generalize (w.alloc (.cells #[.slice A st.length cap] 44)).alloc (.cells (b9 7 co ix pa un ck cl ch cx n) 33)=w3 at HG ax aq ⊢;have q0:_=some (Value.int .i64 7):=aq.o.cell 0
 have q2:_=some (Value.string ix):=aq.o.cell 2;go_wp2_with fail;clear q0 q2;refine(oM.o _).mono ?_;rintro e w4 ⟨rfl,hg⟩;replace HG:=aa (HG.o.trans hg);replace ax:=aa (ax.o.grow hg);replace aq:=aa (aq.o.grow hg);clear hg;have q0:_=some (Value.int .i64 7):=aq.o.cell 0;have q3:_=some (Value.string pa):=aq.o.cell 3;have b0:=ax.o.cell 0;have q1:_=some (Value.string co):=aq.o.cell 1;obtain⟨nb,hnb⟩:∃b,V.name ix=b:=⟨_,rfl⟩;rw[hnb];have jz:=aa hnb;clear hnb
 cases nb with
 | false =>
  go_wp2_with fail;go_ret;exact fM.err (by decide) HG.o
 | true =>
  by_cases hpa:(200:Int)<(pa.size:Int)
  ·go_wp2_with fail;go_ret;exact fM.err (by decide) HG.o
  obtain⟨F,hF⟩:∃b,cr (aP st) co=b:=⟨_,rfl⟩
  cases F with
  | false =>
   rw[CK hF] at HC;clear hF;go_wp2_with fail;clear q0 q1 q3;refine(HC.o _ HG.o).mono ?_;rintro e w5 ⟨rfl,hg⟩;replace HG:=aa (HG.o.trans hg);replace ax:=aa (ax.o.grow hg);replace aq:=aa (aq.o.grow hg);clear hg;have q0:_=some (Value.int .i64 7):=aq.o.cell 0;go_wp2_with fail;go_ret;exact fM.err (by decide) HG.o
  | true =>
   have HF:=aa hF;rw[yJ hF] at HC;obtain⟨P,hlt,hget,hP⟩:∃P,∃h:P<st.length,st[P]=bX st co∧bg (aP st) co=P:=⟨_,(E9 hF).1,(E9 hF).2,rfl⟩;obtain⟨c,hc⟩:∃c,bX st co=c:=⟨_,rfl⟩;have hmem:=(iC hF).2.1;rw[hc] at hmem;have dS:=aa (bD.o.co c hmem);have fY:=aa hc;rw[hP] at HC;rw[hc] at hget;clear hP hc hmem hF;go_wp2_with fail;clear q0 q1 q3;refine(HC.o _ HG.o).mono ?_;rintro e w5 ⟨rfl,hg⟩;replace HG:=aa (HG.o.trans hg);replace ax:=aa (ax.o.grow hg);replace aq:=aa (aq.o.grow hg);clear hg;obtain⟨bk,o,e,rfl,hbk,aA,hcell⟩:=(HST.o.grow HG.o).pN P hlt;rw[hget] at aA;obtain⟨nm,dA,dn,dc,xA,xn,xc⟩:=e;obtain⟨h1,h2,h3,h4,h5,h6⟩:=aA;dsimp only at h1 h2 h3 h4 h5 h6;subst h1 h2 h3;have c0:=hcell 0 _ rfl (by omega);have c1:=hcell 1 _ rfl (by omega)
   have c2:=hcell 2 _ rfl (by omega);simp only[fX] at c0;have ct:=aa (show jR w5 xA c.aj from h6);have b0:=ax.o.cell 0;have q0:_=some (Value.int .i64 7):=aq.o.cell 0;have hp0:(0:Int)≤(P:Int):=by omega
   have hp1:(P:Int)<(st.length:Int):=by omega
   clear hcell h4 h5 h6 hget;go_upto_region 17 with fail;replace HG:=aa (HG.o.alloc (.cells #[.string c.name,.slice dA c.ag.length dc,.slice xA c.aj.length xc] 48));replace ax:=aa (ax.o.alloc (.cells #[.string c.name,.slice dA c.ag.length dc,.slice xA c.aj.length xc] 48));replace aq:=aa (aq.o.alloc (.cells #[.string c.name,.slice dA c.ag.length dc,.slice xA c.aj.length xc] 48));have aQ:=aa (az w5 48 #[.string c.name,.slice dA c.ag.length dc,.slice xA c.aj.length xc]);replace ct:=aa (ct.o.grow ((ah w5).alloc (.cells #[.string c.name,.slice dA c.ag.length dc,.slice xA c.aj.length xc] 48)));obtain⟨gc,dK⟩:∃g,w5.heap.size=g:=⟨_,rfl⟩;rw[dK] at aQ ⊢;generalize w5.alloc (.cells #[.string c.name,.slice dA c.ag.length dc,.slice xA c.aj.length xc] 48)=w6 at HG ax aq aQ ct ⊢;clear c0 c1 c2 b0 q0 dK
   have q0:_=some (Value.int .i64 7):=aq.o.cell 0;have HX:=aa (fun(W:World) (hg:Grow w6 W)=>GW c.name dA c.ag.length dc c.aj ix xA xc W (ct.o.grow hg) dS.o.aj (by have:=dS.o.nx;omega));have hbc:=aQ.o.cell;have q2:_=some (Value.string ix):=aq.o.cell 2;obtain⟨FF,fe⟩:∃b,cr (c.aj.map Ix.name) ix=b:=⟨_,rfl⟩
   cases FF with
   | true =>
    rw[yJ fe] at HX;obtain⟨I,hI⟩:∃p,bg (c.aj.map Ix.name) ix=p:=⟨_,rfl⟩;rw[hI] at HX;have hi0:(0:Int)≤(I:Int):=by omega
    have jg:=aa fe;clear fe;go_wp2_with fail;clear q0 q2;clear hbc;refine(HX.o _ (ah _)).mono ?_;rintro e w7 ⟨rfl,hg⟩;replace HG:=aa (HG.o.trans hg);replace ax:=aa (ax.o.grow hg);replace aq:=aa (aq.o.grow hg);replace aQ:=aa (aQ.o.grow hg);clear hg;go_wp2_with fail;go_ret;exact fM.err (by decide) HG.o
   | false =>
    rw[CK fe] at HX;have jg:=aa fe;clear fe;go_wp2_with fail;clear q0 q2;clear hbc;refine(HX.o _ (ah _)).mono ?_;rintro e w7 ⟨rfl,hg⟩;replace HG:=aa (HG.o.trans hg);replace ax:=aa (ax.o.grow hg);replace aq:=aa (aq.o.grow hg);replace aQ:=aa (aQ.o.grow hg);clear hg;have hbc:=aQ.o.cell;by_cases h8:(8:Int)≤(c.aj.length:Int)
    ·go_wp2_with fail;go_ret;exact fM.err (by decide) HG.o
    go_wp2_with fail;go_ret;exact fM.ok ⟨⟨by dsimp only;omega,by dsimp only;omega⟩,(fun h=>by dsimp only at h;omega),(fun _=>HF.o),(fun h=>by dsimp only at h;omega),(fun h=>by dsimp only at h;omega),(fun _=>⟨jz.o,fun h=>by dsimp only at h;omega,by dsimp only;rw[fY.o];exact jg.o,fun h=>by dsimp only at h;rw[fY.o] at h;omega⟩),(fun h=>by dsimp only at h;omega),(fun h=>by dsimp only at h;omega)⟩ HG.o
theorem ah1(N cap:Nat)(A:Option Addr)(st:List Co)(co ix pa:ByteArray)(un:Bool)(kv lv hv dv:V)(n:Int)(ck cl ch cx:Cv)(w:World)(hst:cQ w A cap st)(hok:cz N st)(d:Int)(hd:d≠1∧d≠7)(hR:sD ⟨d,co,ix,pa,un,kv,lv,hv,dv,n⟩)(hB:CJ ⟨d,co,ix,pa,un,kv,lv,hv,dv,n⟩)(hk:In w kv ck)(hl:In w lv cl)(hh:In w hv ch)(hx:In w dv cx) :
 Calls prog 67 #[.agg #[.slice A st.length cap],.agg (b9 d co ix pa un ck cl ch cx n)] w (fM w st ⟨d,co,ix,pa,un,kv,lv,hv,dv,n⟩):=by
 have HST:=aa hst;have bD:=aa hok;have hn:=hok.n;have HG:=aa (((ah w).alloc (.cells #[.slice A st.length cap] 44)).alloc (.cells (b9 d co ix pa un ck cl ch cx n) 33));have ax:=aa ((az w 44 #[.slice A st.length cap]).alloc (.cells (b9 d co ix pa un ck cl ch cx n) 33));have aq:=aa (cM (w:=w.alloc (.cells #[.slice A st.length cap] 44)) (g:=w.heap.size+1) (by simp) 33 (b9 d co ix pa un ck cl ch cx n));have HC:=aa (fun(W:World) (hg:Grow w W)=>Ld st co A cap W (hst.grow hg) hok.oI (by omega));have HD:=aa hd;have aac:=aa (fun(W:World) (hg:Grow w W)=>Gi dv W cx hR.doc (fun _=>hB.doc) (hx.grow hg));have aad:=aa (fun(W:World) (hg:Grow w W)=>Gi kv W ck hR.key (fun _=>hB.key) (hk.grow hg))
 have Mv:=aa (fun(W:World) (hg:Grow w W)=>Gi lv W cl hR.low (fun _=>hB.low) (hl.grow hg));have Mw:=aa (fun(W:World) (hg:Grow w W)=>Gi hv W ch hR.high (fun _=>hB.high) (hh.grow hg));have HKEY:=aa (fun(W:World) (hg:Grow w W)=>RG dv cx W hR.doc (fun _=>hB.doc) (hx.grow hg));have kB:=aa (fun(W:World) (hg:Grow w W)=>H9 kv ck W (DZ hR.key) (fun _=>hB.key) (hk.grow hg));have mZ:=aa (fun(x:Ix) (W:World) (hp:x.path.size≤200) (hg:Grow w W)=>RJ x dv cx W (by omega) hR.doc hR.fit (fun _=>hB.doc) (hx.grow hg));have EN:Hid (cl.k=lv.k):=aa (by obtain⟨k,n,b,l,f⟩:=lv;obtain⟨aB,aL,aF,cB,cL,cF,rfl,_⟩:=In.open hl;rfl);have HKH:Hid (ch.k=hv.k):=aa (by obtain⟨k,n,b,l,f⟩:=hv;obtain⟨aB,aL,aF,cB,cL,cF,rfl,_⟩:=In.open hh;rfl)
 have hd1:(d==1)=false:=by have:=hd.1;simpa using this
 have hd7:(d==7)=false:=by have:=hd.2;simpa using this
 clear hst hok hR hB hk hl hh hx hd;go_enter func67,ntmps67;go_upto_region 1 with fail;generalize (w.alloc (.cells #[.slice A st.length cap] 44)).alloc (.cells (b9 d co ix pa un ck cl ch cx n) 33)=w3 at HG ax aq ⊢;have q0:_=some (Value.int .i64 d):=aq.o.cell 0;have q1:_=some (Value.string co):=aq.o.cell 1;have b0:=ax.o.cell 0;by_cases hlo:d<1
 ·go_wp2_with fail;go_ret;exact fM.err (by decide) HG.o
 by_cases hhi:(10:Int)<d
 ·go_wp2_with fail;go_ret;exact fM.err (by decide) HG.o
 obtain⟨F,hF⟩:∃b,cr (aP st) co=b:=⟨_,rfl⟩
 cases F with
 | false =>
  rw[CK hF] at HC;clear hF;go_wp2_with fail;clear q0 q1;refine(HC.o _ HG.o).mono ?_;rintro e w5 ⟨rfl,hg⟩;replace HG:=aa (HG.o.trans hg);replace ax:=aa (ax.o.grow hg);replace aq:=aa (aq.o.grow hg);clear hg;have q0:_=some (Value.int .i64 d):=aq.o.cell 0;go_wp2_with fail;go_ret;exact fM.err (by decide) HG.o
 | true =>
  have HF:=aa hF;rw[yJ hF] at HC;obtain⟨P,hlt,hget,hP⟩:∃P,∃h:P<st.length,st[P]=bX st co∧bg (aP st) co=P:=⟨_,(E9 hF).1,(E9 hF).2,rfl⟩;obtain⟨c,hc⟩:∃c,bX st co=c:=⟨_,rfl⟩;have hmem:=(iC hF).2.1;rw[hc] at hmem;have dS:=aa (bD.o.co c hmem);have fY:=aa hc;rw[hP] at HC;rw[hc] at hget;clear hP hc hmem hF;go_wp2_with fail;clear q0 q1;refine(HC.o _ HG.o).mono ?_;rintro e w5 ⟨rfl,hg⟩;replace HG:=aa (HG.o.trans hg);replace ax:=aa (ax.o.grow hg);replace aq:=aa (aq.o.grow hg);clear hg;obtain⟨bk,o,e,rfl,hbk,aA,hcell⟩:=(HST.o.grow HG.o).pN P hlt;rw[hget] at aA;obtain⟨nm,dA,dn,dc,xA,xn,xc⟩:=e;obtain⟨h1,h2,h3,h4,h5,h6⟩:=aA;dsimp only at h1 h2 h3 h4 h5 h6;subst h1 h2 h3;have c0:=hcell 0 _ rfl (by omega);have c1:=hcell 1 _ rfl (by omega)
  have c2:=hcell 2 _ rfl (by omega);simp only[fX] at c0;have ct:=aa (show jR w5 xA c.aj from h6);have b0:=ax.o.cell 0;have q0:_=some (Value.int .i64 d):=aq.o.cell 0;have hp0:(0:Int)≤(P:Int):=by omega
  have hp1:(P:Int)<(st.length:Int):=by omega
  clear hcell h4 h5 h6 hget;go_upto_region 17 with fail;replace HG:=aa (HG.o.alloc (.cells #[.string c.name,.slice dA c.ag.length dc,.slice xA c.aj.length xc] 48));replace ax:=aa (ax.o.alloc (.cells #[.string c.name,.slice dA c.ag.length dc,.slice xA c.aj.length xc] 48));replace aq:=aa (aq.o.alloc (.cells #[.string c.name,.slice dA c.ag.length dc,.slice xA c.aj.length xc] 48));have aQ:=aa (az w5 48 #[.string c.name,.slice dA c.ag.length dc,.slice xA c.aj.length xc]);replace ct:=aa (ct.o.grow ((ah w5).alloc (.cells #[.string c.name,.slice dA c.ag.length dc,.slice xA c.aj.length xc] 48)));obtain⟨gc,dK⟩:∃g,w5.heap.size=g:=⟨_,rfl⟩;rw[dK] at aQ ⊢;generalize w5.alloc (.cells #[.string c.name,.slice dA c.ag.length dc,.slice xA c.aj.length xc] 48)=w6 at HG ax aq aQ ct ⊢;clear c0 c1 c2 b0 q0 dK
  have q0:_=some (Value.int .i64 d):=aq.o.cell 0;have hcs:d=2∨(d=3∨d=4)∨(d=5∨d=6)∨d=8∨d=9∨d=10:=by
   have:=HD.o;omega
  clear hd1 hd7 hlo hhi HD;obtain rfl | yK | Iy | rfl | rfl | rfl:=hcs
  ·go_wp2_with fail;go_ret;exact fM.ok ⟨⟨by dsimp only;omega,by dsimp only;omega⟩,(fun h=>by dsimp only at h;omega),(fun _=>HF.o),(fun h=>by dsimp only at h;omega),(fun h=>by dsimp only at h;omega),(fun h=>by dsimp only at h;omega),(fun h=>by dsimp only at h;omega),(fun h=>by dsimp only at h;omega)⟩ HG.o
  ·have Sl:=aa yK;go_upto_if 72 with fail;go_cut [72] from 73 to 75 (fun t wx=>t=.bool true∧w6=wx)
   case first =>
    rcases yK with rfl | rfl
    ·go_wp2_with fail;go_meet;exact⟨rfl,rfl⟩
    go_wp2_with fail;go_meet;exact⟨rfl,rfl⟩
   obtain⟨rfl,rfl⟩:=hcut;clear yK q0;obtain⟨gd,hgd⟩:∃g,dv.good=g:=⟨_,rfl⟩;rw[hgd] at aac;have Hgd:=aa hgd;clear hgd;have Sm:_=some (Value.int .i64 cx.k):=aq.o.cell 20;have Sn:_=some (Value.int .u64 cx.n):=aq.o.cell 21;have Sq:_=some (Value.slice cx.aB cx.nB cx.cB):=aq.o.cell 22;have Sr:_=some (Value.slice cx.aL cx.nL cx.cL):=aq.o.cell 23;have Ss:_=some (Value.slice cx.aF cx.nF cx.cF):=aq.o.cell 24;go_wp2_with fail;clear Sm Sn Sq Sr Ss;refine(aac.o _ HG.o).mono ?_;rintro e w7 ⟨rfl,hg⟩;replace HG:=aa (HG.o.trans hg);have bI:=aa hg;replace ax:=aa (ax.o.grow hg);replace aq:=aa (aq.o.grow hg);replace aQ:=aa (aQ.o.grow hg);clear hg;have cX:=aa (show Grow w6 w7 from bI.o);by_cases hz:gd=0
   ·subst hz;obtain⟨ke,eQ⟩:∃x,(bV dv).2=x:=⟨_,rfl⟩;have fq:=aa eQ;have Sm:_=some (Value.int .i64 cx.k):=aq.o.cell 20;have Sn:_=some (Value.int .u64 cx.n):=aq.o.cell 21;have Sq:_=some (Value.slice cx.aB cx.nB cx.cB):=aq.o.cell 22;have Sr:_=some (Value.slice cx.aL cx.nL cx.cL):=aq.o.cell 23;have Ss:_=some (Value.slice cx.aF cx.nF cx.cF):=aq.o.cell 24;go_wp2_with fail;clear Sm Sn Sq Sr Ss;refine(HKEY.o _ HG.o).mono ?_;rintro e w8 ⟨ah2,A8,c8,rfl,kI,yl,hg⟩;rw[eQ];replace HG:=aa (HG.o.trans hg);have bR:=aa (cX.o.trans hg);replace aq:=aa (aq.o.grow hg);replace aQ:=aa (aQ.o.grow hg);clear hg kI yl eQ;by_cases hzk:ke=0
    ·subst hzk;go_upto_region 26 with fail;go_wp2_with fail;go_loopg [8] (c.aj.length+1) (fun gk i wr=>∃j:Nat,j≤c.aj.length∧gk+j=c.aj.length+1∧i=.int .i64 j∧(∀i (hi:i<c.aj.length),i<j→(eB c.aj[i].path dv).2.2=0)∧Grow w8 wr);exact⟨0,aR _,rfl,rfl,fun _ _ h=>absurd h (by omega),ah _⟩;obtain⟨j,hj,ji,rfl,hne,hgr⟩:=hrel;obtain⟨gk',rfl⟩:=bz gk (by omega);have HN:=aa hne;replace HG:=aa (HG.o.trans hgr);have Mn:=aa (ct.o.grow (bR.o.trans hgr));have aJ:=aa hgr;replace aq:=aa (aq.o.grow hgr);replace aQ:=aa (aQ.o.grow hgr);have hbc:=aQ.o.cell;have h8:=dS.o.nx;clear hne hgr;by_cases hlt:j<c.aj.length
     ·obtain⟨bx,ox,rfl,fH,x0,x1,x2⟩:=Mn.o.pN j hlt;have HE:=aa (fun(W:World) (hg:Grow wr W)=>mZ.o c.aj[j] W (dS.o.path _ (aS hlt)) (HG.o.trans hg));clear Mn;go_upto_region 29 with fail
      have vH:=aa (fun(W:World) (hg:Grow wr W)=>show W.cell? ⟨gc,2,none⟩=some (.slice (some ⟨bx,ox,none⟩) c.aj.length xc)∧W.cell? ⟨bx,ox+j*3,none⟩=some (.string c.aj[j].name)∧W.cell? ⟨bx,ox+j*3+1,none⟩=some (.string c.aj[j].path)∧W.cell? ⟨bx,ox+j*3+2,none⟩=some (.bool c.aj[j].uniq)∧W.cell? ⟨w.heap.size+1,20,none⟩=some (.int .i64 cx.k)∧W.cell? ⟨w.heap.size+1,21,none⟩=some (.int .u64 cx.n)∧W.cell? ⟨w.heap.size+1,22,none⟩=some (.slice cx.aB cx.nB cx.cB)∧W.cell? ⟨w.heap.size+1,23,none⟩=some (.slice cx.aL cx.nL cx.cL)∧W.cell? ⟨w.heap.size+1,24,none⟩=some (.slice cx.aF cx.nF cx.cF) from
       ⟨(aQ.o.grow hg).cell 2,(hg.below.cell (p:=⟨bx,ox+j*3,none⟩) fH).trans x0,(hg.below.cell (p:=⟨bx,ox+j*3+1,none⟩) fH).trans x1,(hg.below.cell (p:=⟨bx,ox+j*3+2,none⟩) fH).trans x2,(aq.o.grow hg).cell 20,(aq.o.grow hg).cell 21,(aq.o.grow hg).cell 22,(aq.o.grow hg).cell 23,(aq.o.grow hg).cell 24⟩)
      clear x0 x1 x2 hbc;refine dg ?_;refine cW (S:=fun w'=>w'.cell? ⟨gc,2,none⟩=some (.slice (some ⟨bx,ox,none⟩) c.aj.length xc)∧w'.cell? ⟨bx,ox+j*3,none⟩=some (.string c.aj[j].name)∧w'.cell? ⟨bx,ox+j*3+1,none⟩=some (.string c.aj[j].path)∧w'.cell? ⟨bx,ox+j*3+2,none⟩=some (.bool c.aj[j].uniq)∧w'.cell? ⟨w.heap.size+1,20,none⟩=some (.int .i64 cx.k)∧w'.cell? ⟨w.heap.size+1,21,none⟩=some (.int .u64 cx.n)∧w'.cell? ⟨w.heap.size+1,22,none⟩=some (.slice cx.aB cx.nB cx.cB)∧w'.cell? ⟨w.heap.size+1,23,none⟩=some (.slice cx.aL cx.nL cx.cL)∧w'.cell? ⟨w.heap.size+1,24,none⟩=some (.slice cx.aF cx.nF cx.cF)) (by kernel_rfl) (vH.o _ (ah _).drew) (fun hHeld=>?_);have iU:=aa (show Grow wr wr.drew from (ah _).drew);generalize wr.drew=W0 at iU hHeld ⊢
      refine aZ 0 ?_;refine ai 1 (hy:=bU fun w ay=>by obtain⟨gg,-,-,-,-,-,-,-,-⟩:=ay;go_simp;try rfl) ?_;refine aZ 2 ?_;refine aZ 3 ?_;refine ai 4 (hy:=bU fun w ay=>by obtain⟨-,y0,y1,y2,-,-,-,-,-⟩:=ay;go_simp;try rfl) ?_;refine aZ 5 ?_;refine ai 6 (hy:=bU fun w ay=>by obtain⟨-,-,-,-,k0,k1,k2,k3,k4⟩:=ay;go_simp;try rfl) ?_;refine aK 7 (fun K hK=>?_);have hC:=HE.o W0 iU.o;go_simp;go_at_call 29;refine hC.mono ?_;rintro ee W1 ⟨Zw,A1,c1,rfl,hb1,hr1,hg1⟩;refine aT hK (vH.o _ (iU.o.trans hg1)) (fun hHeld=>?_);refine aZ 8 ?_;refine aZ 9 ?_;refine aZ 10 ?_;refine aZ 11 ?_;refine aZ 12 ?_;refine aZ 13 ?_;refine aZ 14 ?_;refine cG ?_;clear hHeld hC;have HG2:=aa (iU.o.trans hg1);obtain⟨en,hen⟩:∃x,(eB c.aj[j].path dv).2.2=x:=⟨_,rfl⟩;have ah3:=aa hen;rw[hen];clear hg1 hen
      by_cases hz:en=0
      ·subst hz;go_wp2_with fail;go_roundg gk';refine⟨j+1,by omega,by omega,by go_num,fun i hi hij=>?_,aJ.o.trans HG2.o⟩;by_cases pJ:i=j
       ·subst pJ;exact ah3.o
       exact HN.o i hi (by omega);omega
      go_wp2_with fail;go_ret;exact fM.err hz (HG.o.trans HG2.o)
     have hjl:j=c.aj.length:=by omega
     subst hjl;have LM:=aa (show rX dv c.aj=0 from P5.2 fun x hx=>by
      obtain⟨i,hi,rfl⟩:=sQ hx;exact HN.o i hi hi)
     go_wp2_with fail;go_ret;have hfk:=Sl.o;exact fM.ok ⟨⟨by dsimp only;omega,by dsimp only;omega⟩,(fun h=>by dsimp only at h;omega),(fun _=>HF.o),(fun _=>⟨fq.o,by dsimp only;rw[fY.o];exact LM.o⟩),(fun h=>by dsimp only at h;omega),(fun h=>by dsimp only at h;omega),(fun h=>by dsimp only at h;omega),(fun h=>by dsimp only at h;omega)⟩ HG.o
    go_wp2_with fail;go_ret;exact fM.err hzk HG.o
   go_wp2_with fail;go_ret;exact fM.err hz HG.o
  ·have hd3:(d==3)=false:=by rcases Iy with rfl | rfl<;>rfl
   have O6:(d==4)=false:=by rcases Iy with rfl | rfl<;>rfl
   have Sl:=aa Iy;go_upto_if 112 with fail;go_cut [112] from 113 to 115 (fun t wx=>t=.bool true∧w6=wx)
   case first =>
    rcases Iy with rfl | rfl
    ·go_wp2_with fail;go_meet;exact⟨rfl,rfl⟩
    go_wp2_with fail;go_meet;exact⟨rfl,rfl⟩
   obtain⟨rfl,rfl⟩:=hcut;clear Iy hd3 O6 q0;obtain⟨gd,hgd⟩:∃g,kv.good=g:=⟨_,rfl⟩;rw[hgd] at aad;have Hgd:=aa hgd;clear hgd;have q5:_=some (Value.int .i64 ck.k):=aq.o.cell 5;have q6:_=some (Value.int .u64 ck.n):=aq.o.cell 6;have q7:_=some (Value.slice ck.aB ck.nB ck.cB):=aq.o.cell 7;have q8:_=some (Value.slice ck.aL ck.nL ck.cL):=aq.o.cell 8;have q9:_=some (Value.slice ck.aF ck.nF ck.cF):=aq.o.cell 9;go_wp2_with fail;clear q5 q6 q7 q8 q9;refine(aad.o _ HG.o).mono ?_;rintro e w7 ⟨rfl,hg⟩;replace HG:=aa (HG.o.trans hg);replace ax:=aa (ax.o.grow hg);replace aq:=aa (aq.o.grow hg);replace aQ:=aa (aQ.o.grow hg);clear hg;by_cases hz:gd=0
   ·subst hz;have q5:_=some (Value.int .i64 ck.k):=aq.o.cell 5;have q6:_=some (Value.int .u64 ck.n):=aq.o.cell 6;have q7:_=some (Value.slice ck.aB ck.nB ck.cB):=aq.o.cell 7;have q8:_=some (Value.slice ck.aL ck.nL ck.cL):=aq.o.cell 8;have q9:_=some (Value.slice ck.aF ck.nF ck.cF):=aq.o.cell 9;go_wp2_with fail;clear q5 q6 q7 q8 q9;refine(kB.o _ HG.o).mono ?_;rintro e w8 ⟨ah2,A8,c8,rfl,kI,yl,hg⟩;replace HG:=aa (HG.o.trans hg);clear hg kI yl;go_wp2_with fail;go_ret;have hfk:=Sl.o;exact⟨_,rfl,fun h=>⟨⟨by dsimp only;omega,by dsimp only;omega⟩,(fun h=>by dsimp only at h;omega),(fun _=>HF.o),(fun h=>by dsimp only at h;omega),fun _=>h,(fun h=>by dsimp only at h;omega),(fun h=>by dsimp only at h;omega),(fun h=>by dsimp only at h;omega)⟩,HG.o⟩
   go_wp2_with fail;go_ret;exact fM.err hz HG.o
  ·have HX:=aa (fun(W:World) (hg:Grow w6 W)=>GW c.name dA c.ag.length dc c.aj ix xA xc W (ct.o.grow hg) dS.o.aj (by have:=dS.o.nx;omega));have hbc:=aQ.o.cell;have q2:_=some (Value.string ix):=aq.o.cell 2;obtain⟨FF,fe⟩:∃b,cr (c.aj.map Ix.name) ix=b:=⟨_,rfl⟩
   cases FF with
   | true =>
    rw[yJ fe] at HX;obtain⟨I,hI⟩:∃p,bg (c.aj.map Ix.name) ix=p:=⟨_,rfl⟩;rw[hI] at HX;have hi0:(0:Int)≤(I:Int):=by omega
    have jg:=aa fe;clear fe;go_wp2_with fail;clear q0 q2;clear hbc;refine(HX.o _ (ah _)).mono ?_;rintro e w7 ⟨rfl,hg⟩;replace HG:=aa (HG.o.trans hg);replace ax:=aa (ax.o.grow hg);replace aq:=aa (aq.o.grow hg);replace aQ:=aa (aQ.o.grow hg);clear hg;go_wp2_with fail;go_ret;exact fM.ok ⟨⟨by dsimp only;omega,by dsimp only;omega⟩,(fun h=>by dsimp only at h;omega),(fun _=>HF.o),(fun h=>by dsimp only at h;omega),(fun h=>by dsimp only at h;omega),(fun h=>by dsimp only at h;omega),(fun _=>by dsimp only;rw[fY.o];exact jg.o),(fun h=>by dsimp only at h;omega)⟩ HG.o
   | false =>
    rw[CK fe] at HX;have jg:=aa fe;clear fe;go_wp2_with fail;clear q0 q2;clear hbc;refine(HX.o _ (ah _)).mono ?_;rintro e w7 ⟨rfl,hg⟩;replace HG:=aa (HG.o.trans hg);replace ax:=aa (ax.o.grow hg);replace aq:=aa (aq.o.grow hg);replace aQ:=aa (aQ.o.grow hg);clear hg;go_wp2_with fail;go_ret;exact fM.err (by decide) HG.o
  ·go_upto_region 48 with fail;go_cut [157] from 148 to 157 (fun t wx=>∃b,t=.bool b∧Grow w wx∧Blk wx (w.heap.size+1) 33 (b9 9 co ix pa un ck cl ch cx n)∧(b=false→ix≠⟨#[]⟩→cr (gM c) ix=true))
   case first =>
    by_cases uk:ix=⟨#[]⟩
    ·subst uk;have q2:_=some (Value.string ⟨#[]⟩):=aq.o.cell 2;go_wp2_with fail;go_meet;exact⟨false,rfl,HG.o,aq.o,fun _ h=>absurd rfl h⟩
    have tZ:(ix.toList==[])=false:=by rw[show ([]:List UInt8)=(⟨#[]⟩:ByteArray).toList from by rw[toList_data]];exact Qg uk
    have HX:=aa (fun(W:World) (hg:Grow w6 W)=>GW c.name dA c.ag.length dc c.aj ix xA xc W (ct.o.grow hg) dS.o.aj (by have:=dS.o.nx;omega));have hbc:=aQ.o.cell;have q2:_=some (Value.string ix):=aq.o.cell 2;obtain⟨FF,fe⟩:∃b,cr (c.aj.map Ix.name) ix=b:=⟨_,rfl⟩
    cases FF with
    | true =>
     rw[yJ fe] at HX;obtain⟨I,hI⟩:∃p,bg (c.aj.map Ix.name) ix=p:=⟨_,rfl⟩;rw[hI] at HX;have hi0:(0:Int)≤(I:Int):=by omega
     have jg:=aa fe;clear fe;go_wp2_with fail;clear q0 q2;clear hbc;refine(HX.o _ (ah _)).mono ?_;rintro e w7 ⟨rfl,hg⟩;replace HG:=aa (HG.o.trans hg);replace ax:=aa (ax.o.grow hg);replace aq:=aa (aq.o.grow hg);replace aQ:=aa (aQ.o.grow hg);clear hg;go_wp2_with fail;go_meet;exact⟨false,rfl,HG.o,aq.o,fun _ _=>jg.o⟩
    | false =>
     rw[CK fe] at HX;have jg:=aa fe;clear fe;go_wp2_with fail;clear q0 q2;clear hbc;refine(HX.o _ (ah _)).mono ?_;rintro e w7 ⟨rfl,hg⟩;replace HG:=aa (HG.o.trans hg);replace ax:=aa (ax.o.grow hg);replace aq:=aa (aq.o.grow hg);replace aQ:=aa (aQ.o.grow hg);clear hg;go_wp2_with fail;go_meet;exact⟨true,rfl,HG.o,aq.o,fun h=>(by cases h)⟩
   obtain⟨b,rfl,hg,rq,hb0⟩:=hcut;obtain⟨w7,CL⟩:∃x:World,x=wc:=⟨_,rfl⟩;subst CL;replace HG:=aa hg;replace aq:=aa rq;clear hg rq
   cases b with
   | true =>
    go_wp2_with fail;go_ret;exact fM.err (by decide) HG.o
   | false =>
    have HFI:=aa (show ix≠⟨#[]⟩→cr (gM (bX st co)) ix=true from fun h=>by rw[fY.o];exact hb0 rfl h);clear hb0;have Mx:_=some (Value.int .i64 n):=aq.o.cell 25;by_cases rH:n<1
    ·go_wp2_with fail;go_ret;exact fM.err (by decide) HG.o
    by_cases qy:(64:Int)<n
    ·go_wp2_with fail;go_ret;exact fM.err (by decide) HG.o
    go_upto_region 52 with fail;clear Mx;go_cut [175] from 166 to 175 (fun t wx=>∃b,t=.bool b∧Grow w wx∧Blk wx (w.heap.size+1) 33 (b9 9 co ix pa un ck cl ch cx n)∧(b=false→lv.k=0∨lv.good=0)∧(b=true→lv.good≠0))
    case first =>
     by_cases CM:cl.k=0
     ·have hk1:(cl.k==0)=true:=by rw[CM];rfl
      have hk2:(cl.k != 0)=false:=by rw[CM];rfl
      have Su:=aa (show lv.k=0 from EN.o ▸ CM);clear CM;have Aj:_=some (Value.int .i64 cl.k):=aq.o.cell 10;go_wp2_with fail;go_meet;exact⟨false,rfl,HG.o,aq.o,fun _=>.inl Su.o,fun h=>(by cases h)⟩
     have hk1:(cl.k==0)=false:=by simpa using CM
     have hk2:(cl.k != 0)=true:=by simpa using CM
     clear CM;obtain⟨gg,hgg⟩:∃g,lv.good=g:=⟨_,rfl⟩;have Iz:=aa hgg;rw[hgg] at Mv;clear hgg;have Aj:_=some (Value.int .i64 cl.k):=aq.o.cell 10;have IA:_=some (Value.int .u64 cl.n):=aq.o.cell 11;have IB:_=some (Value.slice cl.aB cl.nB cl.cB):=aq.o.cell 12;have IC:_=some (Value.slice cl.aL cl.nL cl.cL):=aq.o.cell 13;have ID:_=some (Value.slice cl.aF cl.nF cl.cF):=aq.o.cell 14;go_wp2_with fail;clear Aj IA IB IC ID;refine(Mv.o _ HG.o).mono ?_;rintro e w8 ⟨rfl,hg⟩;replace HG:=aa (HG.o.trans hg);replace aq:=aa (aq.o.grow hg);clear hg;by_cases hz:gg=0
     ·subst hz;go_wp2_with fail;go_meet;exact⟨false,rfl,HG.o,aq.o,fun _=>.inr Iz.o,fun h=>(by cases h)⟩
     go_wp2_with fail;go_meet;exact⟨true,dJ Value.bool (by simpa using hz),HG.o,aq.o,fun h=>(by cases h),fun _=>by rw[Iz.o];exact hz⟩
    obtain⟨b,rfl,hg,rq,hb0,hb1⟩:=hcut;obtain⟨w8,CL⟩:∃x:World,x=wc:=⟨_,rfl⟩;subst CL;replace HG:=aa hg;replace aq:=aa rq;clear hg rq
    cases b with
    | true =>
     have hz:=hb1 rfl;clear hb0 hb1;have Aj:_=some (Value.int .i64 cl.k):=aq.o.cell 10;have IA:_=some (Value.int .u64 cl.n):=aq.o.cell 11;have IB:_=some (Value.slice cl.aB cl.nB cl.cB):=aq.o.cell 12;have IC:_=some (Value.slice cl.aL cl.nL cl.cL):=aq.o.cell 13;have ID:_=some (Value.slice cl.aF cl.nF cl.cF):=aq.o.cell 14;obtain⟨gg,hgg⟩:∃g,lv.good=g:=⟨_,rfl⟩;rw[hgg] at Mv hz;clear hgg;go_wp2_with fail;clear Aj IA IB IC ID;refine(Mv.o _ HG.o).mono ?_;rintro e w8b ⟨rfl,hg⟩;replace HG:=aa (HG.o.trans hg);replace aq:=aa (aq.o.grow hg);clear hg;go_wp2_with fail;go_ret;exact fM.err hz HG.o
    | false =>
     have Ey:=aa (hb0 rfl);clear hb0 hb1;go_upto_region 54 with fail;go_cut [188] from 179 to 188 (fun t wx=>∃b,t=.bool b∧Grow w wx∧Blk wx (w.heap.size+1) 33 (b9 9 co ix pa un ck cl ch cx n)∧(b=false→hv.k=0∨hv.good=0)∧(b=true→hv.good≠0))
     case first =>
      by_cases CN:ch.k=0
      ·have hk1:(ch.k==0)=true:=by rw[CN];rfl
       have hk2:(ch.k != 0)=false:=by rw[CN];rfl
       have Su:=aa (show hv.k=0 from HKH.o ▸ CN);clear CN;have E_:_=some (Value.int .i64 ch.k):=aq.o.cell 15;go_wp2_with fail;go_meet;exact⟨false,rfl,HG.o,aq.o,fun _=>.inl Su.o,fun h=>(by cases h)⟩
      have hk1:(ch.k==0)=false:=by simpa using CN
      have hk2:(ch.k != 0)=true:=by simpa using CN
      clear CN;obtain⟨gg,hgg⟩:∃g,hv.good=g:=⟨_,rfl⟩;have Iz:=aa hgg;rw[hgg] at Mw;clear hgg;have E_:_=some (Value.int .i64 ch.k):=aq.o.cell 15;have IE:_=some (Value.int .u64 ch.n):=aq.o.cell 16;have IG:_=some (Value.slice ch.aB ch.nB ch.cB):=aq.o.cell 17;have II:_=some (Value.slice ch.aL ch.nL ch.cL):=aq.o.cell 18;have IJ:_=some (Value.slice ch.aF ch.nF ch.cF):=aq.o.cell 19;go_wp2_with fail;clear E_ IE IG II IJ;refine(Mw.o _ HG.o).mono ?_;rintro e w9 ⟨rfl,hg⟩;replace HG:=aa (HG.o.trans hg);replace aq:=aa (aq.o.grow hg);clear hg;by_cases hz:gg=0
      ·subst hz;go_wp2_with fail;go_meet;exact⟨false,rfl,HG.o,aq.o,fun _=>.inr Iz.o,fun h=>(by cases h)⟩
      go_wp2_with fail;go_meet;exact⟨true,dJ Value.bool (by simpa using hz),HG.o,aq.o,fun h=>(by cases h),fun _=>by rw[Iz.o];exact hz⟩
     obtain⟨b,rfl,hg,rq,hb0,hb1⟩:=hcut;obtain⟨w9,CL⟩:∃x:World,x=wc:=⟨_,rfl⟩;subst CL;replace HG:=aa hg;replace aq:=aa rq;clear hg rq
     cases b with
     | true =>
      have hz:=hb1 rfl;clear hb0 hb1;have E_:_=some (Value.int .i64 ch.k):=aq.o.cell 15;have IE:_=some (Value.int .u64 ch.n):=aq.o.cell 16;have IG:_=some (Value.slice ch.aB ch.nB ch.cB):=aq.o.cell 17;have II:_=some (Value.slice ch.aL ch.nL ch.cL):=aq.o.cell 18;have IJ:_=some (Value.slice ch.aF ch.nF ch.cF):=aq.o.cell 19;obtain⟨gg,hgg⟩:∃g,hv.good=g:=⟨_,rfl⟩;rw[hgg] at Mw hz;clear hgg;go_wp2_with fail;clear E_ IE IG II IJ;refine(Mw.o _ HG.o).mono ?_;rintro e w9b ⟨rfl,hg⟩;replace HG:=aa (HG.o.trans hg);replace aq:=aa (aq.o.grow hg);clear hg;go_wp2_with fail;go_ret;exact fM.err hz HG.o
     | false =>
      have HBH:=aa (hb0 rfl);clear hb0 hb1;go_wp2_with fail;go_ret;exact fM.ok ⟨⟨by dsimp only;omega,by dsimp only;omega⟩,(fun h=>by dsimp only at h;omega),(fun _=>HF.o),(fun h=>by dsimp only at h;omega),(fun h=>by dsimp only at h;omega),(fun h=>by dsimp only at h;omega),(fun h=>by dsimp only at h;omega),(fun _=>⟨HFI.o,Ey.o,HBH.o⟩)⟩ HG.o
  go_wp2_with fail;go_ret;exact fM.ok ⟨⟨by dsimp only;omega,by dsimp only;omega⟩,(fun h=>by dsimp only at h;omega),(fun _=>HF.o),(fun h=>by dsimp only at h;omega),(fun h=>by dsimp only at h;omega),(fun h=>by dsimp only at h;omega),(fun h=>by dsimp only at h;omega),(fun h=>by dsimp only at h;omega)⟩ HG.o
theorem ah4(N cap:Nat)(A:Option Addr)(st:List Co)(q:Rq)(ck cl ch cx:Cv)(w:World)(hst:cQ w A cap st)(hok:cz N st)(hR:sD q)(hB:CJ q)(hk:In w q.key ck)(hl:In w q.low cl)(hh:In w q.high ch)(hx:In w q.doc cx) :
 Calls prog 67 #[.agg #[.slice A st.length cap],.agg (b9 q.aM q.aw q.index q.path q.unique ck cl ch cx q.n)] w (fM w st q):=by
 obtain⟨d,co,ix,pa,un,kv,lv,hv,dv,n⟩:=q;by_cases h1:d=1
 ·subst h1;exact ahZ N cap A st co ix pa un kv lv hv dv n ck cl ch cx w hst hok hB.aw
 by_cases h7:d=7
 ·subst h7;exact ah0 N cap A st co ix pa un kv lv hv dv n ck cl ch cx w hst hok hB.index
 exact ah1 N cap A st co ix pa un kv lv hv dv n ck cl ch cx w hst hok d ⟨h1,h7⟩ hR hB hk hl hh hx
end
abbrev anI:=@fM.err
abbrev anJ:=@fM.ok
structure Hc where
 e:ByteArray
 k:ByteArray
 d:Cv
abbrev Hc.cells(h:Hc):Array Value:=#[.string h.e,.string h.k,.int .i64 h.d.k,.int .u64 h.d.n,.slice h.d.aB h.d.nB h.d.cB,.slice h.d.aL h.d.nL h.d.cL,.slice h.d.aF h.d.nF h.d.cF]
def jZ(hs:List Hc):List Value:=(hs.map fun h=>h.cells.toList).flatten
theorem aae(hs:List Hc):∀v∈jZ hs,v.oneCell'=true:=by
 intro v hv;simp only[jZ,F3,mI] at hv;obtain⟨_,⟨e,_,rfl⟩,h⟩:=hv;simp at h;rcases h with rfl | rfl | rfl | rfl | rfl | rfl | rfl<;>rfl
theorem Sv:(prog.info? 135).map (fun i=>(i.zero,i.size,i.bytes))=some (some (.agg #[.string ⟨#[]⟩,.string ⟨#[]⟩,.int .i64 0,.int .u64 0,.slice none 0 0,.slice none 0 0,.slice none 0 0]),7,120):=by kernel_rfl
theorem Fa:prog.underlying 132=some (.slice 135):=by kernel_rfl
section
variable {w:World} {ad:Addr} {A:Option Addr} {n:Nat} {xs:List Hc}
theorem ah5(h:Reads (bQ w 0 w.heap.size) 7 A n (jZ xs))(i c:Nat)(hi:i≤n):Src prog 7 132 (.slice A i c) i (jZ (xs.take i)) w:=by
 have hh:=eW (c:=c) Fa (h.Ia i hi) (fun u hu=>aae xs u (Bg hu));rwa [show (jZ xs).take (i*7)=jZ (xs.take i) from yi (fun e:Hc=>e.cells.toList) 7 (fun _=>rfl) xs i] at hh
theorem ah6{cap:Nat}(h1:i≤n)(h2:n≤cap)(w:World):(Instr.sliceAt 132 (.slice A n cap) none (some (.int .i64 (i:Int))) none).run prog w=.ok (.slice A i cap) w:=by
 have k1:(0:Int)≤(i:Int):=by omega
 have k2:(i:Int)≤(n:Int):=by omega
 have k3:(i:Int)≤(cap:Int):=by omega
 rcases A with _ | a<;>go_simp
theorem ah7{cap:Nat}(h1:i≤n)(h2:n≤cap):∃B,(∀w,(Instr.sliceAt 132 (.slice A n cap) (some (.int .i64 (i:Int))) none none).run prog w=.ok (.slice B (n-i) (cap-i)) w) ∧
 ∀(w:World) (c:Nat) (xs:List Hc),Reads (bQ w 0 w.heap.size) 7 A n (jZ xs)→Src prog 7 132 (.slice B (n-i) c) (n-i) (jZ (xs.drop i)) w:=by
 have k1:(0:Int)≤(i:Int):=by omega
 have k2:(i:Int)≤(n:Int):=by omega
 have k3:(i:Int)≤(cap:Int):=by omega
 refine⟨if cap=i then A else A.map (·.add (i*7)),fun w=>by rcases A with _ | a<;>go_simp,fun w c xs h=>?_⟩;have hh:=eW (c:=c) Fa (h.Ib i cap h1 h2) (fun u hu=>aae xs u (uA hu));rwa [show (jZ xs).drop (i*7)=jZ (xs.drop i) from tN (fun e:Hc=>e.cells.toList) 7 (fun _=>rfl) xs i] at hh
theorem ah8(c:Hc)(hb:Blk w g 135 c.cells):Src prog 7 132 (.slice (some ⟨g,0,none⟩) 1 1) 1 c.cells.toList w:=
 Src.ofSlice _ Fa ⟨g,0,none⟩ 1 1 _ rfl (fun j u hu=>by
  rw[add_lit,eo,hb.cell j,← hu,nC]) (fun u hu=>by
  simp only[jI,wu,wB] at hu;rcases hu with rfl | rfl | rfl | rfl | rfl | rfl | rfl<;>rfl)
theorem ah9{P:Nat}{x:Hc}(h:w.ownsRow base 135 7 (.slice A n c) n (jZ (xs.take P)++x.cells.toList++jZ (xs.drop P)))(hn:n=(cD xs P x).length):w.ownsRow base 135 7 (.slice A (cD xs P x).length c) (cD xs P x).length (jZ (cD xs P x)):=by
 have e:jZ (cD xs P x)=jZ (xs.take P)++x.cells.toList++jZ (xs.drop P):=by simp[cD,jZ]
 rw[← hn,e];exact h
theorem Hc.at_(h:Reads (bQ w 0 w.heap.size) 7 A xs.length (jZ xs)){k:Nat}(hk:k<xs.length):∃bk o,A=some ⟨bk,o,none⟩∧bk<w.heap.size∧∀i v,xs[k].cells.toList[i]?=some v→i<7→w.cell? ⟨bk,o+k*7+i,none⟩=some v:=by
 obtain⟨bk,o,hA,hc⟩:=h.2 (by omega);have hf:∀i v,xs[k].cells.toList[i]?=some v→i<7→bQ w 0 w.heap.size ⟨bk,o+(k*7+i),none⟩ v:=fun i v hv hi =>
  hc (k*7+i) v (by rw[jZ,mV _ 7 (fun _=>rfl) xs k i hi xs[k] (bH hk)];exact hv)
 exact⟨bk,o,hA,(hf 0 _ rfl (by omega)).2.2,fun i v hv hi=>by rw[lu];exact(hf i v hv hi).1⟩
end
theorem In.kind{v:V}{c:Cv}(h:In w v c):c.k=v.k:=by obtain⟨k,n,b,l,f⟩:=v;obtain⟨aB,aL,aF,cB,cL,cF,rfl,_⟩:=In.open h;rfl
theorem aaf{g:Option V}{t:Bool}{u:V}{c:Cv}(h:(g=some u∧t=true)∨(g=none∧t=false∧u=V.zero∧c=Cv.zero)):(g=some u∧t=true)∨(g=none∧t=false):=h.imp id fun h=>⟨h.1,h.2.1⟩
theorem aag{d u:V}(hg:d.good=0)(h:mX d s=some u):u.formed=true:=(mP (Lf ((RD hg s).trans h))).1
theorem ah_{o:Oper}(hgd:o.guard=none)(s x:Operand)(t e:TypeId)(ho:o.op=.call { callee:=.builtin .append,args:=#[s,x],argTypes:=#[t,t] })(z dR:Nat)(zv:Value)(ht:prog.underlying t=some (.slice e))(hi:(prog.info? e).map (fun i=>(i.zero,i.size,i.bytes))=some (some zv,z,dR))(hzs:zv.cells.size=z)
 {n:Nat} (hv:a.eval s=v) (hown:w.ownsRow w0.heap.size e z v n xs)  (hx:a.eval x=u) (hs:Src prog z t u m news w) (hb:(n+m)*dR≤140737488355328) (h63:n+m≤maxLen) (hg0:Grow w0 w)
 (h:∀A c w',w'.ownsRow w0.heap.size e z (.slice A (n+m) c) (n+m) (xs++news)→Grow w0 w'→K (a.put o.dst (.slice A (n+m) c)) w') :
 if Region.wanted o (yielded ops a.tmps)=true then Oper.wp prog o a w K Q else E:=by
 obtain⟨i0,h0,h1,h2,h3⟩:=info_parts hi;exact oa hgd s x t t ho w0.heap.size e i0 zv z dR ht h0 h1 h2 h3 hzs v n xs hv hown u m news hx hs hb h63 hg0.size (fun A c w' k1 k2 _=>h A c w' k1 (hg0.grown k2 (fun k hk=>(bJ hown k hk).1)))
theorem aia{a b c a' b' c':Value}(hg:Grow wn W3)(hn:wn.heap.size≤g)(hB:Blk W3 g T #[a',b',c']):Grow wn (((W3.setCell ⟨g,0,none⟩ a).setCell ⟨g,1,none⟩ b).setCell ⟨g,2,none⟩ c)∧Blk (((W3.setCell ⟨g,0,none⟩ a).setCell ⟨g,1,none⟩ b).setCell ⟨g,2,none⟩ c) g T #[a,b,c]:=
 ⟨((hg.setCell (p:=⟨g,0,none⟩) hn a).setCell (p:=⟨g,1,none⟩) hn b).setCell (p:=⟨g,2,none⟩) hn c,((hB.aY 0 _).aY 1 _).aY 2 _⟩
theorem aib{c0 c:Cv}(hg:Grow wn W3)(hn:wn.heap.size≤g)(hB:Blk W3 g 27 c0.cells) :
 Grow wn (((((W3.setCell ⟨g,0,none⟩ (.int .i64 c.k)).setCell ⟨g,1,none⟩ (.int .u64 c.n)).setCell ⟨g,2,none⟩ (.slice c.aB c.nB c.cB)).setCell ⟨g,3,none⟩ (.slice c.aL c.nL c.cL)).setCell ⟨g,4,none⟩ (.slice c.aF c.nF c.cF)) ∧
 Blk (((((W3.setCell ⟨g,0,none⟩ (.int .i64 c.k)).setCell ⟨g,1,none⟩ (.int .u64 c.n)).setCell ⟨g,2,none⟩ (.slice c.aB c.nB c.cB)).setCell ⟨g,3,none⟩ (.slice c.aL c.nL c.cL)).setCell ⟨g,4,none⟩ (.slice c.aF c.nF c.cF)) g 27 c.cells ∧
 ∀{g':Nat} {T:TypeId} {cs:Array Value},Blk W3 g' T cs→g'≠g→Blk (((((W3.setCell ⟨g,0,none⟩ (.int .i64 c.k)).setCell ⟨g,1,none⟩ (.int .u64 c.n)).setCell ⟨g,2,none⟩ (.slice c.aB c.nB c.cB)).setCell ⟨g,3,none⟩ (.slice c.aL c.nL c.cL)).setCell ⟨g,4,none⟩ (.slice c.aF c.nF c.cF)) g' T cs:=
 ⟨((((hg.setCell (p:=⟨g,0,none⟩) hn _).setCell (p:=⟨g,1,none⟩) hn _).setCell (p:=⟨g,2,none⟩) hn _).setCell (p:=⟨g,3,none⟩) hn _).setCell (p:=⟨g,4,none⟩) hn _,((((hB.aY 0 _).aY 1 _).aY 2 _).aY 3 _).aY 4 _,fun h hne=>((((h.far (p:=⟨g,0,none⟩) hne _).far (p:=⟨g,1,none⟩) hne _).far (p:=⟨g,2,none⟩) hne _).far (p:=⟨g,3,none⟩) hne _).far (p:=⟨g,4,none⟩) hne _⟩
def RgM(wr:World)(g11 g12:Nat)(y:Cv)(t13 t14:Value)(wx:World):Prop:=
 ∃tb es c u,t13=.bool tb∧t14=.string es∧Grow wr wx∧Blk wx g11 27 y.cells∧Blk wx g12 27 (Cv.cells c)∧In wx u c∧(tb=true→u.formed=true)
def RgC(w:World)(n:Nat)(e:Ending)(w':World):Prop:=∃A c hs,e=.returned (.slice A hs.length c)∧Reads (bQ w' 0 w'.heap.size) 7 A hs.length (jZ hs)∧hs.length≤n∧hs.length≤c∧Grow w w'
theorem aic(nm na:ByteArray)(ag:List V)(dA xA:Option Addr)(dc xc:Nat)(aj:List Ix)(lv hv:V)(cl ch:Cv)(w:World)(hd:InL w dA dc ag)(hok:∀d∈ag,gh d)(hl:ag.length≤1000000)(uk:jR w xA aj)(vL:fw (gP (aj.map Ix.name)))(ER:aj.length≤8)(hxp:∀x∈aj,x.path.size≤200)
 (IK:na≠⟨#[]⟩→cr (aj.map Ix.name) na=true) (hlo:In w lv cl) (hhi:In w hv ch) (LC:lv.k=0∨lv.good=0) (hhg:hv.k=0∨hv.good=0) :
 Calls prog 78 #[.agg #[.string nm,.slice dA ag.length dc,.slice xA aj.length xc],.string na,cl.agg,ch.agg] w (RgC w ag.length):=by
 have HD:=aa hd;have bD:=aa hok;have HL:=aa hl;have HX:=aa uk;have Hi:=aa IK;have yz:=aa (show ∀x∈aj,x.path.size<4294967281 from fun x h=>by have:=hxp x h;omega);have HG:=aa ((((ah w).alloc (.cells #[.string nm,.slice dA ag.length dc,.slice xA aj.length xc] 48)).alloc (.cells cl.cells 27)).alloc (.cells ch.cells 27));have ar:=aa (((az w 48 #[.string nm,.slice dA ag.length dc,.slice xA aj.length xc]).alloc (.cells cl.cells 27)).alloc (.cells ch.cells 27));have dh:=aa ((cM (w:=w.alloc (.cells #[.string nm,.slice dA ag.length dc,.slice xA aj.length xc] 48)) (g:=w.heap.size+1) (by simp) 27 cl.cells).alloc (.cells ch.cells 27))
 have eu:=aa (cM (w:=(w.alloc (.cells #[.string nm,.slice dA ag.length dc,.slice xA aj.length xc] 48)).alloc (.cells cl.cells 27)) (g:=w.heap.size+1+1) (by simp) 27 ch.cells);have CO:=aa (fun(W:World) (hg:Grow w W)=>GW nm dA ag.length dc aj na xA xc W (uk.grow hg) vL (by omega));have My:=aa (fun(d:V) (c:Cv) (s:ByteArray) (w0 W:World) (hs:s.size<4294967281) (hd:gh d) (hg:Grow w0 W) (hi:In w0 d c)=>BZ w0 _ d s c W (au _) hs (by obtain⟨i,-,-,-,h,-⟩:=hd.id;exact(mP h).1) hg hi);have mZ:=aa (fun(x:Ix) (d:V) (c:Cv) (W:World) (hx:x.path.size<4294967281) (hd:gh d) (hi:In W d c)=>RJ x d c W hx hd.count hd.fit hd.bytes hi);have vI:=aa (fun(d:V) (c:Cv) (W:World) (hd:gh d) (hi:In W d c)=>EM d c W hd.count hd.bytes hi)
 have HLK:Hid (cl.k=lv.k):=aa hlo.kind;have HHK:Hid (ch.k=hv.k):=aa hhi.kind;have Rc:=aa (fun(u:V) (c:Cv) (W:World) (hf:u.formed=true) (hi:In W u c) (hg:Grow w W) (h0:lv.k≠0)=>Wf u lv hf (mP (LC.resolve_left h0)).1 W c cl hi (hlo.grow hg));have Re:=aa (fun(u:V) (c:Cv) (W:World) (hf:u.formed=true) (hi:In W u c) (hg:Grow w W) (h0:hv.k≠0)=>Wf u hv hf (mP (hhg.resolve_left h0)).1 W c ch hi (hhi.grow hg));clear hd hok hl uk vL ER hxp IK hlo hhi LC hhg;go_enter func78,ntmps78;go_wp2_with fail;generalize ((w.alloc (.cells #[.string nm,.slice dA ag.length dc,.slice xA aj.length xc] 48)).alloc (.cells cl.cells 27)).alloc (.cells ch.cells 27)=w3 at HG ar dh eu ⊢
 go_loopg [9,10] (ag.length+1) (fun gk sl i wr=>∃(j B:Nat) (Ao:Option Addr) (co:Nat) (hs:List Hc),j≤ag.length∧gk+j=ag.length+1∧i=.int .i64 j∧sl=.slice Ao hs.length co∧wr.ownsRow B 135 7 (.slice Ao hs.length co) hs.length (jZ hs)∧hs.length≤j∧Grow w3 wr);exact⟨0,0,none,0,[],aR _,rfl,rfl,rfl,jb _ _ _ _,aR _,ah _⟩;obtain⟨j,B,Ao,co,hs,hj,hg,rfl,rfl,hown,hel,hgr⟩:=hrel;obtain⟨gk',rfl⟩:=bz gk (by omega);have hl0:=HL.o;have aJ:=aa hgr;have HOWN:=aa hown;have bI:=aa (HG.o.trans hgr);replace ar:=aa (ar.o.grow hgr);replace dh:=aa (dh.o.grow hgr);replace eu:=aa (eu.o.grow hgr);have jo:=aa hel;have hb4:=ar.o.cell;clear hown hel;by_cases hlt:j<ag.length
 ·obtain⟨bk,o,y,ha,hbk,e0,e1,e2,e3,e4,hy⟩:=(HD.o.grow bI.o).fh j hlt;dsimp only[js] at ha;subst ha;have j3:=aa (bD.o ag[j] (aS hlt));obtain⟨d,hdd⟩:∃d,ag[j]=d:=⟨_,rfl⟩;rw[hdd] at j3 hy;have HY:=aa hy;clear hdd hgr hy;go_upto_region 6 with fail;have Mz:=aa ((ah wr).alloc (.cells y.cells 27));have j4:=aa (az wr 27 y.cells);obtain⟨g11,tY⟩:∃g,wr.heap.size=g:=⟨_,rfl⟩;have LQ:=aa tY;rw[tY] at j4 ⊢;generalize wr.alloc (.cells y.cells 27)=w4 at Mz j4 ⊢;have vM:=j4.o.cell;clear e0 e1 e2 e3 e4 hb4 tY;go_wp2_with fail;refine(My.o d y jW wr w4 (by decide) j3.o Mz.o HY.o).mono ?_;rintro e w5 ⟨bK,c5,t5,u5,rfl,hu5,iA⟩;replace j4:=aa (j4.o.grow bK);have Me:=aa hu5;have eP:=aa (aaf iA);have Er:=aa (Mz.o.trans bK)
  clear vM hu5 iA bK;go_upto_region 7 with fail;have yo:=aa (Er.o.alloc (.cells c5.cells 27));have pZ:=aa (az w5 27 c5.cells);have Rj:=aa (show g11<w5.heap.size from j4.o.lt);replace j4:=aa (j4.o.alloc (.cells c5.cells 27));have Sw:g11≠w5.heap.size:=by
   have h1:=LQ.o;have h2:wr.heap.size+1≤w5.heap.size:=by have:=j4.o.lt;have h3:=Er.o.size;have h4:=Rj.o;omega
   omega
  obtain⟨g12,EC⟩:∃g,w5.heap.size=g:=⟨_,rfl⟩;have aah:wr.heap.size≤g12:=EC ▸ Er.o.size;rw[EC] at pZ Sw ⊢;generalize w5.alloc (.cells c5.cells 27)=w6 at yo j4 pZ ⊢;have bS:=aa Sw;have zY:=aa aah;have vM:=j4.o.cell;clear Sw aah EC;go_wp2_with fail;refine(vI.o d y w6 j3.o (HY.o.grow yo.o)).mono ?_;rintro e w7 ⟨rfl,bw⟩;obtain⟨ks,hks⟩:∃s,Ac d=s:=⟨_,rfl⟩;rw[hks];replace j4:=aa (j4.o.grow bw);replace pZ:=aa (pZ.o.grow bw);have Al:=aa (yo.o.trans bw);clear vM hks bw;go_upto_if 42 with fail;obtain⟨nb,hnb⟩:∃b,(!na.toList.isEmpty)=b:=⟨_,rfl⟩;rw[hnb];have jz:=aa hnb;clear hnb;go_cut [13,14,15,16,17,18] from 43 to 65 (fun t13 t14 t15 t16 t17 t18 wx=>RgM wr g11 g12 y t13 t14 wx)
  case first =>
   cases nb with
   | false =>
    go_wp2_with fail;go_meet;exact⟨t5,ks,c5,u5,rfl,rfl,Al.o,j4.o,pZ.o,(Me.o.grow Al.o),fun h=>aag (by obtain⟨i,-,-,-,h,-⟩:=j3.o.id;exact h) (eP.o.resolve_right (fun k=>by rw[h] at k;cases k.2)).1⟩
   | true =>
    have IK:na≠⟨#[]⟩:=fun e=>by have:=jz.o;rw[e,toList_data] at this;cases this
    have hF:=Hi.o IK;have Cr:=El hF;rw[yJ hF] at CO;have hil:bg (aj.map Ix.name) na<aj.length:=by rw[dE] at Cr;exact Cr
    obtain⟨I,hI⟩:∃p,bg (aj.map Ix.name) na=p:=⟨_,rfl⟩;rw[hI] at CO hil;obtain⟨bx,ox,hA,fH,x0,x1,x2⟩:=(HX.o.grow (bI.o.trans Al.o)).pN I hil;subst hA;have MA:=aa (yz.o _ (aS hil));obtain⟨x,hx⟩:∃x,aj[I]=x:=⟨_,rfl⟩;rw[hx] at x0 x1 x2 MA;obtain⟨xn,xp,xu⟩:=x;dsimp only at x0 x1 x2 MA;have hi0:(0:Int)≤(I:Int):=by omega
    have hi1:(I:Int)<(aj.length:Int):=by omega
    replace ar:=aa (ar.o.grow Al.o);clear IK hF Cr hI hx;go_upto_region 9 with fail;go_cut [15] from 43 to 49 (fun p wx=>Grow w7 wx∧∃g15,p=.pointer (some ⟨g15,0,none⟩)∧w7.heap.size≤g15∧Blk wx g15 64 #[.string xn,.string xp,.bool xu])
    case first =>
     have fS:=aa (fun(W:World) (hg:Grow w7 W)=>show (∀i,W.cell? ⟨w.heap.size,i,none⟩=(#[.string nm,.slice (some ⟨bk,o,none⟩) ag.length dc,.slice (some ⟨bx,ox,none⟩) aj.length xc]:Array Value)[i]?)∧W.cell? ⟨bx,ox+I*3,none⟩=some (.string xn)∧W.cell? ⟨bx,ox+I*3+1,none⟩=some (.string xp)∧W.cell? ⟨bx,ox+I*3+2,none⟩=some (.bool xu) from
      ⟨(ar.o.grow hg).cell,(hg.below.cell (p:=⟨bx,ox+I*3,none⟩) fH).trans x0,(hg.below.cell (p:=⟨bx,ox+I*3+1,none⟩) fH).trans x1,(hg.below.cell (p:=⟨bx,ox+I*3+2,none⟩) fH).trans x2⟩)
     clear x0 x1 x2;refine dg ?_;refine cW (S:=fun w'=>(∀i,w'.cell? ⟨w.heap.size,i,none⟩=(#[.string nm,.slice (some ⟨bk,o,none⟩) ag.length dc,.slice (some ⟨bx,ox,none⟩) aj.length xc]:Array Value)[i]?)∧w'.cell? ⟨bx,ox+I*3,none⟩=some (.string xn)∧w'.cell? ⟨bx,ox+I*3+1,none⟩=some (.string xp)∧w'.cell? ⟨bx,ox+I*3+2,none⟩=some (.bool xu)) (by kernel_rfl) (fS.o _ (ah _).drew) (fun hHeld=>?_);have aC:=aa (show Grow w7 w7.drew from (ah _).drew);generalize w7.drew=W0 at aC hHeld ⊢;refine aZ 0 ?_;refine ai 1 (hy:=bU fun w ay=>by obtain⟨b4,-,-,-⟩:=ay;go_simp;try rfl) ?_;refine ai 2 (hy:=bU fun w ay=>by obtain⟨b4,-,-,-⟩:=ay;go_simp;try rfl) ?_;refine aZ 3 ?_;refine bC [4,7] ?_;refine fC (fun K hK=>?_) (fC (fun K hK=>?_) dM)
     ·have hC:=CO.o (W0) (bI.o.trans (Al.o.trans aC.o));go_simp;go_at_call 77;refine hC.mono ?_;rintro ee W3 ⟨rfl,hg3⟩;refine hK.out _ _ (fS.o _ (aC.o.trans hg3)) (fun hHeld=>?_);clear hC
      try simp only[aH]
      refine aZ 5 ?_;refine ai 6 (hy:=bU fun w ay=>by obtain⟨-,y0,y1,y2⟩:=ay;go_simp;try rfl) ?_;refine aK 7 (fun K hK=>?_);go_simp;refine aT hK (fS.o _ ((aC.o.trans hg3).alloc _)) (fun hHeld=>?_);refine aK 8 (fun K hK=>?_);go_simp;refine aT hK (fS.o _ ((aC.o.trans hg3).alloc _)) (fun hHeld=>?_);refine cG ?_;go_wp2_with fail;go_meet;exact⟨(aC.o.trans hg3).alloc _,_,rfl,(aC.o.trans hg3).size,az W3 _ _⟩
     go_simp;refine aT hK (fS.o _ (aC.o.alloc _)) (fun hHeld=>?_);refine aK 4 (fun K hK=>?_);have hC:=CO.o (W0.alloc (.cells #[.string ⟨#[]⟩,.string ⟨#[]⟩,.bool false] 64)) (bI.o.trans (Al.o.trans (aC.o.alloc (.cells #[.string ⟨#[]⟩,.string ⟨#[]⟩,.bool false] 64))));go_simp;go_at_call 77;refine hC.mono ?_;rintro ee W3 ⟨rfl,hg3⟩;refine hK.out _ _ (fS.o _ ((aC.o.alloc _).trans hg3)) (fun hHeld=>?_);clear hC
     try simp only[aH]
     refine aZ 5 ?_;refine ai 6 (hy:=bU fun w ay=>by obtain⟨-,y0,y1,y2⟩:=ay;go_simp;try rfl) ?_;refine aK 8 (fun K hK=>?_);have oK:=(az W0 64 #[.string ⟨#[]⟩,.string ⟨#[]⟩,.bool false]).grow hg3;obtain⟨Il,Im⟩:=aia (a:=.string xn) (b:=.string xp) (c:=.bool xu) ((aC.o.alloc (.cells #[.string ⟨#[]⟩,.string ⟨#[]⟩,.bool false] 64)).trans hg3) aC.o.size oK;have hbc:=oK.cell;have qU:=oK.frozen;have E4:=aa Il;have R3:=aa Im;clear oK Il Im;go_simp;clear hbc qU;refine aT hK (fS.o _ E4.o) (fun hHeld=>?_);refine cG ?_;go_wp2_with fail;go_meet;exact⟨E4.o,_,rfl,aC.o.size,R3.o⟩
    obtain⟨dK,g15,rfl,aid,IL⟩:=hcut;have aie:=pZ.o.lt;have HA9:=aa (Al.o.trans dK);have IM:=aa IL;have HNF:=aa (show g15≠g12 from fun e=>by omega);replace j4:=aa (j4.o.grow dK);replace pZ:=aa (pZ.o.grow dK);have vM:=j4.o.cell;have IL:=IM.o.cell;clear dK aid aie;go_wp2_with fail;refine(My.o d y xp wr wc MA.o j3.o HA9.o HY.o).mono ?_;rintro e w9 ⟨lh,c9,t9,u9,rfl,hu9,hr9⟩;have aif:=aa (HA9.o.trans lh);replace j4:=aa (j4.o.grow lh);replace IM:=aa (IM.o.grow lh);obtain⟨s1,s2,s3⟩:=aib (c:=c9) aif.o zY.o (pZ.o.grow lh);have jq:=aa s1;have fB:=aa s2;have Sy:=aa (s3 j4.o bS.o);have aai:=aa (s3 IM.o HNF.o);have HU9:=aa hu9;have HR9:=aa (aaf hr9);have CP:=(pZ.o.grow lh).cell
    have aih:=(pZ.o.grow lh).frozen;clear vM IL hu9 hr9 lh s1 s2 s3 pZ;go_upto_region 11 with fail;generalize ((((w9.setCell ⟨g12,0,none⟩ _).setCell ⟨g12,1,none⟩ _).setCell ⟨g12,2,none⟩ _).setCell ⟨g12,3,none⟩ _).setCell ⟨g12,4,none⟩ _=pS at jq fB Sy aai ⊢;have vM:=Sy.o.cell;have IL:=aai.o.cell;clear CP aih j4 IM;go_wp2_with fail;refine(mZ.o ⟨xn,xp,xu⟩ d y pS MA.o j3.o (HY.o.grow jq.o)).mono ?_;rintro e qY ⟨Zw,A1,cc1,rfl,hbs,hr1,tY⟩;obtain⟨⟨b1,ok,er⟩,hp⟩:∃p,eB xp d=p:=⟨_,rfl⟩;rw[hp] at hr1 ⊢;dsimp only at hr1 ⊢;have hcs:=rD cc1 hr1.reads.1;have aaj:=aa (jq.o.trans tY);have aii:=aa (Sy.o.grow tY);have aij:=aa (fB.o.grow tY);clear vM IL hbs hr1 hp tY;go_wp2_with fail;go_meet
    exact⟨t9,_,c9,u9,rfl,rfl,aaj.o,aii.o,aij.o,HU9.o.grow aaj.o,fun h=>aag (by obtain⟨i,-,-,-,h,-⟩:=j3.o.id;exact h) (HR9.o.resolve_right (fun k=>by rw[h] at k;cases k.2)).1⟩
  obtain⟨tb,es,c,u,rfl,rfl,ko,vM,CP,hu,fV⟩:=hcut;obtain⟨wa,CL⟩:∃x:World,x=wc:=⟨_,rfl⟩;subst CL;have bt:=aa ko;replace dh:=aa (dh.o.grow ko);replace eu:=aa (eu.o.grow ko);replace j4:=aa vM;replace pZ:=aa CP;have HU:=aa hu;have HFM:=aa fV;have aak:=aa (bI.o.trans ko);clear ko vM CP hu fV CO My mZ HX Hi yz Me eP Mz Er yo Al;go_upto_region 13 with fail;go_cut [89] from 66 to 88 (fun b wx=>∃x,b=.bool x∧Grow wa wx)
  case first =>
   cases tb with
   | false =>
    go_wp2_with fail;go_meet;exact⟨true,rfl,ah _⟩
   | true =>
    have hf:=HFM.o rfl;have aik:=aa (fun(W:World) (hg:Grow wa W)=>Rc.o u c W hf (HU.o.grow hg) (aak.o.trans hg));have aal:=aa (fun(W:World) (hg:Grow wa W)=>Re.o u c W hf (HU.o.grow hg) (aak.o.trans hg));have CP:=pZ.o.cell;have EX:=dh.o.cell;have lS:=eu.o.cell;clear hf;by_cases h0:cl.k=0
    ·have hk1:(cl.k==0)=true:=by rw[h0];rfl
     have hk2:(cl.k != 0)=false:=by rw[h0];rfl
     clear h0;by_cases h1:ch.k=0
     ·have hk3:(ch.k==0)=true:=by rw[h1];rfl
      have hk4:(ch.k != 0)=false:=by rw[h1];rfl
      clear h1;go_wp2_with fail;go_meet;exact⟨false,rfl,(ah wa)⟩
     have hk3:(ch.k==0)=false:=by simpa using h1
     have hk4:(ch.k != 0)=true:=by simpa using h1
     have hh:=aal.o wa (ah wa) (by rw[← HHK.o];exact h1);have zJ:=aa hh;clear h1 hh;go_wp2_with fail;refine zJ.o.mono ?_;rintro e wd ⟨z2,rfl,hgd⟩;have p_:=aa hgd;clear hgd;by_cases hz1:(0:Int)<z2
     ·have hzb:decide ((0:Int)<z2)=true:=cj hz1;go_wp2_with fail;go_meet;exact⟨_,rfl,(ah wa).trans p_.o⟩
     have hzb:decide ((0:Int)<z2)=false:=cm hz1;go_wp2_with fail;go_meet;exact⟨_,rfl,(ah wa).trans p_.o⟩
    have hk1:(cl.k==0)=false:=by simpa using h0
    have hk2:(cl.k != 0)=true:=by simpa using h0
    have hh:=aik.o wa (ah _) (by rw[← HLK.o];exact h0);have HH1:=aa hh;clear h0 hh;go_wp2_with fail;refine HH1.o.mono ?_;rintro e wb ⟨z,rfl,hgb⟩;have jx:=aa hgb;clear EX lS CP;have lS:=(eu.o.grow hgb).cell;have CP:=(pZ.o.grow hgb).cell;clear hgb;by_cases hz0:z<0
    ·have hzb:decide (z<0)=true:=cj hz0;go_wp2_with fail;go_meet;exact⟨_,rfl,jx.o⟩
    have hzb:decide (z<0)=false:=cm hz0;by_cases h1:ch.k=0
    ·have hk3:(ch.k==0)=true:=by rw[h1];rfl
     have hk4:(ch.k != 0)=false:=by rw[h1];rfl
     clear h1;go_wp2_with fail;go_meet;exact⟨false,rfl,jx.o⟩
    have hk3:(ch.k==0)=false:=by simpa using h1
    have hk4:(ch.k != 0)=true:=by simpa using h1
    have hh:=aal.o wb jx.o (by rw[← HHK.o];exact h1);have zJ:=aa hh;clear h1 hh;go_wp2_with fail;refine zJ.o.mono ?_;rintro e wd ⟨z2,rfl,hgd⟩;have p_:=aa hgd;clear hgd;by_cases hz1:(0:Int)<z2
    ·have hzb:decide ((0:Int)<z2)=true:=cj hz1;go_wp2_with fail;go_meet;exact⟨_,rfl,jx.o.trans p_.o⟩
    have hzb:decide ((0:Int)<z2)=false:=cm hz1;go_wp2_with fail;go_meet;exact⟨_,rfl,jx.o.trans p_.o⟩
  obtain⟨x,rfl,hgx⟩:=hcut;obtain⟨wd,hwd⟩:∃x:World,x=wc:=⟨_,rfl⟩;subst hwd;have wO:=aa (aJ.o.trans (bt.o.trans hgx));have HOW:=aa (kG HOWN.o (bt.o.trans hgx));have rZ:=aa (show Reads (bQ wd 0 wd.heap.size) 7 Ao hs.length (jZ hs) from eV jS (lM (S:=fun _=>False) HOW.o (fun _ _ h=>h)));have HBD:=aa (j4.o.grow hgx);have HYD:=aa (HY.o.grow (bt.o.trans hgx));have hel:=jo.o;clear hgx HOWN
  cases x with
  | true =>
   go_wp2_with fail;go_roundg gk';exact⟨j+1,B,Ao,co,hs,by omega,by omega,by go_num,rfl,HOW.o,by omega,wO.o⟩;omega
  | false =>
   go_upto_region 16 with fail;go_loopg [19,20] (hs.length+1) (fun gk n i wk=>∃k N:Nat,k≤hs.length∧gk+k=hs.length+1∧i=.int .i64 k∧n=.int .i64 N∧N≤k∧wk=wd);exact⟨0,0,aR _,rfl,rfl,rfl,au _,rfl⟩;obtain⟨k,N,hk,ji,rfl,rfl,Sz,hwk⟩:=hrel;obtain⟨wK,rfl⟩:∃g,gk=g+1:=⟨gk-1,by omega⟩;subst hwk;by_cases hkl:k<hs.length
   ·obtain⟨bo,oo,rfl,tO,hcell⟩:=Hc.at_ rZ.o hkl;have o0:=hcell 0 _ rfl (by omega);simp only[fX] at o0;obtain⟨he,hhe⟩:∃s,hs[k].e=s:=⟨_,rfl⟩;rw[hhe] at o0;clear hcell hhe;by_cases hls:Op.bytesLess he.toList es.toList=true
    ·go_wp2_with fail;go_roundg wK;exact⟨k+1,k+1,by omega,by omega,by go_num,by go_num,au _,rfl⟩;omega
    replace hls:Op.bytesLess he.toList es.toList=false:=by simpa using hls
    go_wp2_with fail;go_roundg wK;exact⟨k+1,N,by omega,by omega,by go_num,rfl,by omega,rfl⟩;omega
   have Gs:k=hs.length:=by omega
   subst Gs;have hi0:(0:Int)≤(N:Int):=by omega
   have hi1:(N:Int)≤(hs.length:Int):=by omega
   have jB:=aa (mW HOW.o).1;have hi2:(N:Int)≤(co:Int):=by have:=jB.o;omega
   obtain⟨kk,hkk⟩:∃s,Ac d=s:=⟨_,rfl⟩;have IP:=aa hkk;clear hkk;have hsh:=ah6 (A:=Ao) (i:=N) Sz jB.o;go_upto_region 22 with (at_builtin;refine CD (w0:=wr) (.tmp 105) (.tmp 108) 132 135 7 120 _ Fa Sv rfl rfl rfl (ah5 rZ.o N co Sz) (by omega) (by simp only[maxLen];omega) (ah _) ?_;intro A6 c6 w6 ll bE);clear hsh;have ua:=aa ll;have aW:=aa bE;have iM:=aa (fun(W:World) (hg:Grow w6 W)=>show ∀i,W.cell? ⟨g11,i,none⟩=y.cells[i]? from (HBD.o.grow (aW.o.trans hg)).cell);clear ll bE;refine dg ?_;refine cW (S:=fun w'=>∀i,w'.cell? ⟨g11,i,none⟩=y.cells[i]?) (by kernel_rfl) (iM.o _ (ah _).drew) (fun hHeld=>?_);have iU:=aa (show Grow w6 w6.drew from (ah _).drew);generalize w6.drew=W0 at iU hHeld ⊢;refine aZ 0 ?_
   refine aZ 1 ?_;refine ai 2 ?_;refine ai 4 ?_;refine aK 3 (fun K hK=>?_);have hC:=vI.o d y W0 j3.o (HYD.o.grow (aW.o.trans iU.o));rw[IP.o] at hC;go_simp;go_at_call 71;refine hC.mono ?_;rintro ee W1 ⟨rfl,hg1⟩;refine hK.out _ _ (iM.o _ (iU.o.trans hg1)) (fun hHeld=>?_);clear hC
   try simp only[aH]
   refine aZ 5 ?_;refine aK 6 (fun K hK=>?_);go_simp;refine aT hK (iM.o _ ((iU.o.trans hg1).alloc _)) (fun hHeld=>?_);refine aK 7 (fun K hK=>?_);refine ah_ (w0:=wr) (by rfl) (.tmp 110) (.tmp 116) 132 135 (by rfl) 7 120 _ Fa Sv rfl (by rfl) ((kG ua.o (iU.o.trans hg1)).alloc _) (by rfl) (ah8 ⟨es,kk,y⟩ (az W1 135 (Hc.cells ⟨es,kk,y⟩))) (by omega) (by simp only[maxLen];omega) ((aW.o.trans (iU.o.trans hg1)).alloc _) ?_;intro A7 c7 w7 eZ bw;refine aT hK ((HBD.o.grow bw).cell) (fun hHeld=>?_);refine aZ 8 ?_;refine cG ?_;have pX:=aa eZ;have aX:=aa bw;clear hHeld eZ bw hg1;have fR:=aa (eV (eU aX.o.below (au _) (au _) aX.o.size) rZ.o);obtain⟨AZ,hsl,hsrc⟩:=ah7 (A:=Ao) (i:=N) Sz jB.o;have kp:=aa hsrc;clear hsrc
   go_upto_region 4 with (at_builtin;refine vG (w0:=wr) (.tmp 118) (.tmp 121) 132 135 7 120 _ Fa Sv rfl rfl pX.o rfl (kp.o _ _ _ fR.o) (by omega) (by simp only[maxLen];omega) aX.o ?_;intro A8 c8 w8 dD bW);clear hsl;have hlen:N+1+(hs.length-N)=(cD hs N (⟨es,kk,y⟩:Hc)).length:=by
    rw[qM];omega
   have yF:=aa (ah9 dD hlen);have bR:=aa bW;have HLEN:=aa hlen;clear dD bW hlen;go_wp2_with fail;go_roundg gk';exact⟨j+1,wr.heap.size,A8,c8,cD hs N ⟨es,kk,y⟩,by omega,by omega,by go_num,by rw[← HLEN.o],yF.o,by rw[qM];omega,wO.o.trans bR.o⟩;omega
 have hjl:j=ag.length:=by omega
 subst hjl;clear hgr;go_wp2_with fail;go_ret;exact⟨Ao,co,hs,rfl,eV jS (lM (S:=fun _=>False) HOWN.o (fun _ _ h=>h)),jo.o,(mW HOWN.o).1,bI.o⟩
end Go.Proofs.YtndjopkdbdcmdaaGreatDoor
