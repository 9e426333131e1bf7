/- Part 19 of the proof of pentries_card. -/
import Derived.Test.YtndjopkdbdcmdaaGreatDoorPel16
import Derived.Test.YtndjopkdbdcmdaaGreatDoorPel17
import Derived.Test.YtndjopkdbdcmdaaGreatDoorPel18
set_option linter.unusedVariables false
set_option linter.unusedSimpArgs false
set_option maxRecDepth 100000
set_option maxHeartbeats 12800000
open Go.Proofs.Tryz
namespace Go.Proofs.YtndjopkdbdcmdaaGreatDoor

section
open Go.RowKit
structure uo (q:Rq):Prop where
 key:q.key.count≤20000
 low:q.low.count≤20000
 high:q.high.count≤20000
 doc:q.doc.count≤20000
 fit:q.doc.fit
structure Yu (q:Rq) (w:World) (B:Nat):Prop extends uo q where
 tabs:eo w
 agc:kO w
 all:∀W,Below B w W→eo W∧kO W
def jX(k:Int):Nat:=if k=1 then 79 else if k=2 then 80 else if k=3 then 81 else if k=4 then 81 else if k=5 then 82 else
 if k=6 then 83 else if k=7 then 84 else if k=8 then 85 else if k=9 then 86 else 87
theorem agd(k:Int)(h:1≤k∧k≤10):∃i,Instr.findNow (.int .i64) (.int .i64 k) reqs.toList 0=some (some (i,.agg #[.func (.func (jX k)) #[] #[]])):=by
 have hk:k=1∨k=2∨k=3∨k=4∨k=5∨k=6∨k=7∨k=8∨k=9∨k=10:=by omega
 rcases hk with rfl | rfl | rfl | rfl | rfl | rfl | rfl | rfl | rfl | rfl<;>exact⟨_,rfl⟩
end
section
open Go.RowKit
structure Bl (q:Rq):Prop where
 aD:q.aD.size≤140737488355328
 index:q.index.size≤140737488355328
 key:q.key.bytes.length≤140737488355328
 low:q.low.bytes.length≤140737488355328
 high:q.high.bytes.length≤140737488355328
 doc:q.doc.bytes.length≤140737488355328
structure Yv (st:List Co) (q:Rq):Prop where
 bp:1≤q.bp∧q.bp≤10
 make:q.bp=1→V.name q.aD=true∧cQ (bh st) q.aD=false∧¬ 16≤st.length
 co:q.bp≠1→cQ (bh st) q.aD=true
 put:q.bp=3∨q.bp=4→(bt q.doc).2=0∧tN q.doc (bH st q.aD).aq=0
 key:q.bp=5∨q.bp=6→(bK q.key).2=0
 ix:q.bp=7→V.name q.index=true∧¬ 200<q.path.size∧cQ (jF (bH st q.aD)) q.index=false∧¬ 8≤(bH st q.aD).aq.length
 un:q.bp=8→cQ (jF (bH st q.aD)) q.index=true
 fi:q.bp=9→(q.index≠⟨#[]⟩→cQ (jF (bH st q.aD)) q.index=true)∧(q.low.k=0∨q.low.good=0)∧(q.high.k=0∨q.high.good=0)
def fE(w:World)(st:List Co)(q:Rq)(e:Ending)(w':World):Prop:=∃x,e=.returned (.int .i64 x)∧(x=0→Yv st q)∧Grow w w'
theorem fE.err{w w':World}{st:List Co}{q:Rq}{x:Int}(h:x≠0)(hg:Grow w w'):fE w st q (.returned (.int .i64 x)) w':=⟨x,rfl,fun k=>absurd k h,hg⟩
theorem fE.ok{w w':World}{st:List Co}{q:Rq}(h:Yv st q)(hg:Grow w w'):fE w st q (.returned (.int .i64 0)) w':=⟨0,rfl,fun _=>h,hg⟩
theorem xL{names:List ByteArray}{s:ByteArray}(h:cQ names s=true):rT names s=(bX names s:Int):=by unfold rT;rw[ar h]
theorem Bn{names:List ByteArray}{s:ByteArray}(h:cQ names s=false):rT names s=-1:=by unfold rT;rw[ai (by rw[h];decide)]
theorem D_{st:List Co}{s:ByteArray}(h:cQ (bh st) s=true):∃hlt:bX (bh st) s<st.length,st[bX (bh st) s]=bH st s:=by
 obtain⟨h1,-,-,h4⟩:=nJ h;refine⟨h4,?_⟩;rw[bN h4] at h1;injection h1
theorem age(N cap:Nat)(A:Option Addr)(st:List Co)(co ix pa:ByteArray)(un:Bool)(kv lv hv dv:V)(n:Int)(ck cl ch cx:Cv)(w:World)(hst:dR w A cap st)(hok:ed N st)(hsz:co.size≤140737488355328) :
 Calls prog 67 #[.agg #[.slice A st.length cap],.agg (cP 1 co ix pa un ck cl ch cx n)] w (fE w st ⟨1,co,ix,pa,un,kv,lv,hv,dv,n⟩):=by
 have HST:=aa hst;have cJ:=aa hok;have hn:=hok.n;have HG:=aa (((ah w).alloc (.cells #[.slice A st.length cap] 44)).alloc (.cells (cP 1 co ix pa un ck cl ch cx n) 33));have aC:=aa ((aH w 44 #[.slice A st.length cap]).alloc (.cells (cP 1 co ix pa un ck cl ch cx n) 33));have aw:=aa (df (w:=w.alloc (.cells #[.slice A st.length cap] 44)) (g:=w.heap.size+1) (by simp) 33 (cP 1 co ix pa un ck cl ch cx n));have HC:=aa (fun(W:World) (hg:Grow w W)=>KQ st co A cap W (hst.grow hg) hok.oz (by omega));have vQ:=aa (fun W=>QA co W hsz);clear hst hok hsz;go_enter func67,ntmps67;go_upto_region 1 with fail;generalize (w.alloc (.cells #[.slice A st.length cap] 44)).alloc (.cells (cP 1 co ix pa un ck cl ch cx n) 33)=w3 at HG aC aw ⊢;have q0:_=some (Value.int .i64 1):=aw.o.cell 0
 have q1:_=some (Value.string co):=aw.o.cell 1;go_wp2_with fail;clear q0 q1;refine(vQ.o _).mono ?_;rintro e w4 ⟨rfl,hg⟩;replace HG:=aa (HG.o.trans hg);replace aC:=aa (aC.o.grow hg);replace aw:=aa (aw.o.grow hg);clear hg;have q0:_=some (Value.int .i64 1):=aw.o.cell 0;have q1:_=some (Value.string co):=aw.o.cell 1;have b0:=aC.o.cell 0;obtain⟨nb,hnb⟩:∃b,V.name co=b:=⟨_,rfl⟩;rw[hnb];have ky:=aa hnb;clear hnb
 cases nb with
 | false =>
  go_wp2_with fail;go_ret;exact fE.err (by decide) HG.o
 | true =>
  obtain⟨F,hF⟩:∃b,cQ (bh st) co=b:=⟨_,rfl⟩;have HF:=aa hF
  cases F with
  | true =>
   rw[xL hF] at HC;obtain⟨P,hP⟩:∃p,bX (bh st) co=p:=⟨_,rfl⟩;rw[hP] at HC;have hp0:(0:Int)≤(P:Int):=by omega
   clear hP hF;go_wp2_with fail;clear q0 q1 b0;refine(HC.o _ HG.o).mono ?_;rintro e w5 ⟨rfl,hg⟩;replace HG:=aa (HG.o.trans hg);replace aC:=aa (aC.o.grow hg);replace aw:=aa (aw.o.grow hg);clear hg;have q0:_=some (Value.int .i64 1):=aw.o.cell 0;go_wp2_with fail;go_ret;exact fE.err (by decide) HG.o
  | false =>
   rw[Bn hF] at HC;clear hF;go_wp2_with fail;clear q0 q1 b0;refine(HC.o _ HG.o).mono ?_;rintro e w5 ⟨rfl,hg⟩;replace HG:=aa (HG.o.trans hg);replace aC:=aa (aC.o.grow hg);replace aw:=aa (aw.o.grow hg);clear hg;have q0:_=some (Value.int .i64 1):=aw.o.cell 0;have b0:=aC.o.cell 0;by_cases K5:(16:Int)≤(st.length:Int)
   ·go_wp2_with fail;go_ret;exact fE.err (by decide) HG.o
   go_wp2_with fail;go_ret;exact fE.ok ⟨⟨by dsimp only;omega,by dsimp only;omega⟩,(fun _=>⟨ky.o,HF.o,fun h=>by omega⟩),(fun h=>by dsimp only at h;omega),(fun h=>by dsimp only at h;omega),(fun h=>by dsimp only at h;omega),(fun h=>by dsimp only at h;omega),(fun h=>by dsimp only at h;omega),(fun h=>by dsimp only at h;omega)⟩ HG.o
theorem agf(N cap:Nat)(A:Option Addr)(st:List Co)(co ix pa:ByteArray)(un:Bool)(kv lv hv dv:V)(n:Int)(ck cl ch cx:Cv)(w:World)(hst:dR w A cap st)(hok:ed N st)(hsz:ix.size≤140737488355328) :
 Calls prog 67 #[.agg #[.slice A st.length cap],.agg (cP 7 co ix pa un ck cl ch cx n)] w (fE w st ⟨7,co,ix,pa,un,kv,lv,hv,dv,n⟩):=by
 have HST:=aa hst;have cJ:=aa hok;have hn:=hok.n;have HG:=aa (((ah w).alloc (.cells #[.slice A st.length cap] 44)).alloc (.cells (cP 7 co ix pa un ck cl ch cx n) 33));have aC:=aa ((aH w 44 #[.slice A st.length cap]).alloc (.cells (cP 7 co ix pa un ck cl ch cx n) 33));have aw:=aa (df (w:=w.alloc (.cells #[.slice A st.length cap] 44)) (g:=w.heap.size+1) (by simp) 33 (cP 7 co ix pa un ck cl ch cx n));have HC:=aa (fun(W:World) (hg:Grow w W)=>KQ st co A cap W (hst.grow hg) hok.oz (by omega));have vQ:=aa (fun W=>QA ix W hsz);clear hst hok hsz;go_enter func67,ntmps67;go_upto_region 1 with fail;generalize (w.alloc (.cells #[.slice A st.length cap] 44)).alloc (.cells (cP 7 co ix pa un ck cl ch cx n) 33)=w3 at HG aC aw ⊢;have q0:_=some (Value.int .i64 7):=aw.o.cell 0
 have q2:_=some (Value.string ix):=aw.o.cell 2;go_wp2_with fail;clear q0 q2;refine(vQ.o _).mono ?_;rintro e w4 ⟨rfl,hg⟩;replace HG:=aa (HG.o.trans hg);replace aC:=aa (aC.o.grow hg);replace aw:=aa (aw.o.grow hg);clear hg;have q0:_=some (Value.int .i64 7):=aw.o.cell 0;have q3:_=some (Value.string pa):=aw.o.cell 3;have b0:=aC.o.cell 0;have q1:_=some (Value.string co):=aw.o.cell 1;obtain⟨nb,hnb⟩:∃b,V.name ix=b:=⟨_,rfl⟩;rw[hnb];have ky:=aa hnb;clear hnb
 cases nb with
 | false =>
  go_wp2_with fail;go_ret;exact fE.err (by decide) HG.o
 | true =>
  by_cases hpa:(200:Int)<(pa.size:Int)
  ·go_wp2_with fail;go_ret;exact fE.err (by decide) HG.o
  obtain⟨F,hF⟩:∃b,cQ (bh st) co=b:=⟨_,rfl⟩
  cases F with
  | false =>
   rw[Bn hF] at HC;clear hF;go_wp2_with fail;clear q0 q1 q3;refine(HC.o _ HG.o).mono ?_;rintro e w5 ⟨rfl,hg⟩;replace HG:=aa (HG.o.trans hg);replace aC:=aa (aC.o.grow hg);replace aw:=aa (aw.o.grow hg);clear hg;have q0:_=some (Value.int .i64 7):=aw.o.cell 0;go_wp2_with fail;go_ret;exact fE.err (by decide) HG.o
  | true =>
   have HF:=aa hF;rw[xL hF] at HC;obtain⟨P,hlt,hget,hP⟩:∃P,∃h:P<st.length,st[P]=bH st co∧bX (bh st) co=P:=⟨_,(D_ hF).1,(D_ hF).2,rfl⟩;obtain⟨c,hc⟩:∃c,bH st co=c:=⟨_,rfl⟩;have hmem:=(nJ hF).2.1;rw[hc] at hmem;have cS:=aa (cJ.o.co c hmem);have fP:=aa hc;rw[hP] at HC;rw[hc] at hget;clear hP hc hmem hF;go_wp2_with fail;clear q0 q1 q3;refine(HC.o _ HG.o).mono ?_;rintro e w5 ⟨rfl,hg⟩;replace HG:=aa (HG.o.trans hg);replace aC:=aa (aC.o.grow hg);replace aw:=aa (aw.o.grow hg);clear hg;obtain⟨bk,o,e,rfl,hbk,aW,hcell⟩:=(HST.o.grow HG.o).rS P hlt;rw[hget] at aW;obtain⟨nm,dA,dn,dc,xA,xn,xc⟩:=e;obtain⟨h1,h2,h3,h4,h5,h6⟩:=aW;dsimp only at h1 h2 h3 h4 h5 h6;subst h1 h2 h3;have c0:=hcell 0 _ rfl (by omega);have c1:=hcell 1 _ rfl (by omega)
   have c2:=hcell 2 _ rfl (by omega);simp only[fF] at c0;have fe:=aa (show kq w5 xA c.aq from h6);have b0:=aC.o.cell 0;have q0:_=some (Value.int .i64 7):=aw.o.cell 0;have hp0:(0:Int)≤(P:Int):=by omega
   have hp1:(P:Int)<(st.length:Int):=by omega
   clear hcell h4 h5 h6 hget;go_upto_region 17 with fail;replace HG:=aa (HG.o.alloc (.cells #[.string c.name,.slice dA c.ag.length dc,.slice xA c.aq.length xc] 48));replace aC:=aa (aC.o.alloc (.cells #[.string c.name,.slice dA c.ag.length dc,.slice xA c.aq.length xc] 48));replace aw:=aa (aw.o.alloc (.cells #[.string c.name,.slice dA c.ag.length dc,.slice xA c.aq.length xc] 48));have aT:=aa (aH w5 48 #[.string c.name,.slice dA c.ag.length dc,.slice xA c.aq.length xc]);replace fe:=aa (fe.o.grow ((ah w5).alloc (.cells #[.string c.name,.slice dA c.ag.length dc,.slice xA c.aq.length xc] 48)));obtain⟨gc,dS⟩:∃g,w5.heap.size=g:=⟨_,rfl⟩;rw[dS] at aT ⊢;generalize w5.alloc (.cells #[.string c.name,.slice dA c.ag.length dc,.slice xA c.aq.length xc] 48)=w6 at HG aC aw aT fe ⊢;clear c0 c1 c2 b0 q0 dS
   have q0:_=some (Value.int .i64 7):=aw.o.cell 0;have HX:=aa (fun(W:World) (hg:Grow w6 W)=>GA c.name dA c.ag.length dc c.aq ix xA xc W (fe.o.grow hg) cS.o.aq (by have:=cS.o.nx;omega));have hbc:=aT.o.cell;have q2:_=some (Value.string ix):=aw.o.cell 2;obtain⟨FF,iG⟩:∃b,cQ (c.aq.map Ix.name) ix=b:=⟨_,rfl⟩
   cases FF with
   | true =>
    rw[xL iG] at HX;obtain⟨I,hI⟩:∃p,bX (c.aq.map Ix.name) ix=p:=⟨_,rfl⟩;rw[hI] at HX;have hi0:(0:Int)≤(I:Int):=by omega
    have j_:=aa iG;clear iG;go_wp2_with fail;clear q0 q2;clear hbc;refine(HX.o _ (ah _)).mono ?_;rintro e w7 ⟨rfl,hg⟩;replace HG:=aa (HG.o.trans hg);replace aC:=aa (aC.o.grow hg);replace aw:=aa (aw.o.grow hg);replace aT:=aa (aT.o.grow hg);clear hg;go_wp2_with fail;go_ret;exact fE.err (by decide) HG.o
   | false =>
    rw[Bn iG] at HX;have j_:=aa iG;clear iG;go_wp2_with fail;clear q0 q2;clear hbc;refine(HX.o _ (ah _)).mono ?_;rintro e w7 ⟨rfl,hg⟩;replace HG:=aa (HG.o.trans hg);replace aC:=aa (aC.o.grow hg);replace aw:=aa (aw.o.grow hg);replace aT:=aa (aT.o.grow hg);clear hg;have hbc:=aT.o.cell;by_cases h8:(8:Int)≤(c.aq.length:Int)
    ·go_wp2_with fail;go_ret;exact fE.err (by decide) HG.o
    go_wp2_with fail;go_ret;exact fE.ok ⟨⟨by dsimp only;omega,by dsimp only;omega⟩,(fun h=>by dsimp only at h;omega),(fun _=>HF.o),(fun h=>by dsimp only at h;omega),(fun h=>by dsimp only at h;omega),(fun _=>⟨ky.o,fun h=>by dsimp only at h;omega,by dsimp only;rw[fP.o];exact j_.o,fun h=>by dsimp only at h;rw[fP.o] at h;omega⟩),(fun h=>by dsimp only at h;omega),(fun h=>by dsimp only at h;omega)⟩ HG.o
theorem agh(N cap:Nat)(A:Option Addr)(st:List Co)(co ix pa:ByteArray)(un:Bool)(kv lv hv dv:V)(n:Int)(ck cl ch cx:Cv)(w:World)(hst:dR w A cap st)(hok:ed N st)(d:Int)(hd:d≠1∧d≠7)(hR:uo ⟨d,co,ix,pa,un,kv,lv,hv,dv,n⟩)(hB:Bl ⟨d,co,ix,pa,un,kv,lv,hv,dv,n⟩)(hk:In w kv ck)(hl:In w lv cl)(hh:In w hv ch)(hx:In w dv cx) :
 Calls prog 67 #[.agg #[.slice A st.length cap],.agg (cP d co ix pa un ck cl ch cx n)] w (fE w st ⟨d,co,ix,pa,un,kv,lv,hv,dv,n⟩):=by
 have HST:=aa hst;have cJ:=aa hok;have hn:=hok.n;have HG:=aa (((ah w).alloc (.cells #[.slice A st.length cap] 44)).alloc (.cells (cP d co ix pa un ck cl ch cx n) 33));have aC:=aa ((aH w 44 #[.slice A st.length cap]).alloc (.cells (cP d co ix pa un ck cl ch cx n) 33));have aw:=aa (df (w:=w.alloc (.cells #[.slice A st.length cap] 44)) (g:=w.heap.size+1) (by simp) 33 (cP d co ix pa un ck cl ch cx n));have HC:=aa (fun(W:World) (hg:Grow w W)=>KQ st co A cap W (hst.grow hg) hok.oz (by omega));have HD:=aa hd;have Yw:=aa (fun(W:World) (hg:Grow w W)=>Fp dv W cx hR.doc (fun _=>hB.doc) (hx.grow hg));have Yx:=aa (fun(W:World) (hg:Grow w W)=>Fp kv W ck hR.key (fun _=>hB.key) (hk.grow hg))
 have Lm:=aa (fun(W:World) (hg:Grow w W)=>Fp lv W cl hR.low (fun _=>hB.low) (hl.grow hg));have Lp:=aa (fun(W:World) (hg:Grow w W)=>Fp hv W ch hR.high (fun _=>hB.high) (hh.grow hg));have HKEY:=aa (fun(W:World) (hg:Grow w W)=>KU dv cx W hR.doc (fun _=>hB.doc) (hx.grow hg));have kQ:=aa (fun(W:World) (hg:Grow w W)=>GH kv ck W (CP hR.key) (fun _=>hB.key) (hk.grow hg));have nQ:=aa (fun(x:Ix) (W:World) (hp:x.path.size≤200) (hg:Grow w W)=>KV x dv cx W (by omega) hR.doc hR.fit (fun _=>hB.doc) (hx.grow hg));have DJ:Hid (cl.k=lv.k):=aa (by obtain⟨k,n,b,l,f⟩:=lv;obtain⟨aB,aL,aF,cB,cL,cF,rfl,_⟩:=In.open hl;rfl);have HKH:Hid (ch.k=hv.k):=aa (by obtain⟨k,n,b,l,f⟩:=hv;obtain⟨aB,aL,aF,cB,cL,cF,rfl,_⟩:=In.open hh;rfl)
 have hd1:(d==1)=false:=by have:=hd.1;simpa using this
 have hd7:(d==7)=false:=by have:=hd.2;simpa using this
 clear hst hok hR hB hk hl hh hx hd;go_enter func67,ntmps67;go_upto_region 1 with fail;generalize (w.alloc (.cells #[.slice A st.length cap] 44)).alloc (.cells (cP d co ix pa un ck cl ch cx n) 33)=w3 at HG aC aw ⊢;have q0:_=some (Value.int .i64 d):=aw.o.cell 0;have q1:_=some (Value.string co):=aw.o.cell 1;have b0:=aC.o.cell 0;by_cases hlo:d<1
 ·go_wp2_with fail;go_ret;exact fE.err (by decide) HG.o
 by_cases hhi:(10:Int)<d
 ·go_wp2_with fail;go_ret;exact fE.err (by decide) HG.o
 obtain⟨F,hF⟩:∃b,cQ (bh st) co=b:=⟨_,rfl⟩
 cases F with
 | false =>
  rw[Bn hF] at HC;clear hF;go_wp2_with fail;clear q0 q1;refine(HC.o _ HG.o).mono ?_;rintro e w5 ⟨rfl,hg⟩;replace HG:=aa (HG.o.trans hg);replace aC:=aa (aC.o.grow hg);replace aw:=aa (aw.o.grow hg);clear hg;have q0:_=some (Value.int .i64 d):=aw.o.cell 0;go_wp2_with fail;go_ret;exact fE.err (by decide) HG.o
 | true =>
  have HF:=aa hF;rw[xL hF] at HC;obtain⟨P,hlt,hget,hP⟩:∃P,∃h:P<st.length,st[P]=bH st co∧bX (bh st) co=P:=⟨_,(D_ hF).1,(D_ hF).2,rfl⟩;obtain⟨c,hc⟩:∃c,bH st co=c:=⟨_,rfl⟩;have hmem:=(nJ hF).2.1;rw[hc] at hmem;have cS:=aa (cJ.o.co c hmem);have fP:=aa hc;rw[hP] at HC;rw[hc] at hget;clear hP hc hmem hF;go_wp2_with fail;clear q0 q1;refine(HC.o _ HG.o).mono ?_;rintro e w5 ⟨rfl,hg⟩;replace HG:=aa (HG.o.trans hg);replace aC:=aa (aC.o.grow hg);replace aw:=aa (aw.o.grow hg);clear hg;obtain⟨bk,o,e,rfl,hbk,aW,hcell⟩:=(HST.o.grow HG.o).rS P hlt;rw[hget] at aW;obtain⟨nm,dA,dn,dc,xA,xn,xc⟩:=e;obtain⟨h1,h2,h3,h4,h5,h6⟩:=aW;dsimp only at h1 h2 h3 h4 h5 h6;subst h1 h2 h3;have c0:=hcell 0 _ rfl (by omega);have c1:=hcell 1 _ rfl (by omega)
  have c2:=hcell 2 _ rfl (by omega);simp only[fF] at c0;have fe:=aa (show kq w5 xA c.aq from h6);have b0:=aC.o.cell 0;have q0:_=some (Value.int .i64 d):=aw.o.cell 0;have hp0:(0:Int)≤(P:Int):=by omega
  have hp1:(P:Int)<(st.length:Int):=by omega
  clear hcell h4 h5 h6 hget;go_upto_region 17 with fail;replace HG:=aa (HG.o.alloc (.cells #[.string c.name,.slice dA c.ag.length dc,.slice xA c.aq.length xc] 48));replace aC:=aa (aC.o.alloc (.cells #[.string c.name,.slice dA c.ag.length dc,.slice xA c.aq.length xc] 48));replace aw:=aa (aw.o.alloc (.cells #[.string c.name,.slice dA c.ag.length dc,.slice xA c.aq.length xc] 48));have aT:=aa (aH w5 48 #[.string c.name,.slice dA c.ag.length dc,.slice xA c.aq.length xc]);replace fe:=aa (fe.o.grow ((ah w5).alloc (.cells #[.string c.name,.slice dA c.ag.length dc,.slice xA c.aq.length xc] 48)));obtain⟨gc,dS⟩:∃g,w5.heap.size=g:=⟨_,rfl⟩;rw[dS] at aT ⊢;generalize w5.alloc (.cells #[.string c.name,.slice dA c.ag.length dc,.slice xA c.aq.length xc] 48)=w6 at HG aC aw aT fe ⊢;clear c0 c1 c2 b0 q0 dS
  have q0:_=some (Value.int .i64 d):=aw.o.cell 0;have hcs:d=2∨(d=3∨d=4)∨(d=5∨d=6)∨d=8∨d=9∨d=10:=by
   have:=HD.o;omega
  clear hd1 hd7 hlo hhi HD;obtain rfl | xM | Hg | rfl | rfl | rfl:=hcs
  ·go_wp2_with fail;go_ret;exact fE.ok ⟨⟨by dsimp only;omega,by dsimp only;omega⟩,(fun h=>by dsimp only at h;omega),(fun _=>HF.o),(fun h=>by dsimp only at h;omega),(fun h=>by dsimp only at h;omega),(fun h=>by dsimp only at h;omega),(fun h=>by dsimp only at h;omega),(fun h=>by dsimp only at h;omega)⟩ HG.o
  ·have QB:=aa xM;go_upto_if 72 with fail;go_cut [72] from 73 to 75 (fun t wx=>t=.bool true∧w6=wx)
   case first =>
    rcases xM with rfl | rfl
    ·go_wp2_with fail;go_meet;exact⟨rfl,rfl⟩
    go_wp2_with fail;go_meet;exact⟨rfl,rfl⟩
   obtain⟨rfl,rfl⟩:=hcut;clear xM q0;obtain⟨gd,hgd⟩:∃g,dv.good=g:=⟨_,rfl⟩;rw[hgd] at Yw;have Hgd:=aa hgd;clear hgd;have QC:_=some (Value.int .i64 cx.k):=aw.o.cell 20;have QD:_=some (Value.int .u64 cx.n):=aw.o.cell 21;have QE:_=some (Value.slice cx.aB cx.nB cx.cB):=aw.o.cell 22;have QF:_=some (Value.slice cx.aL cx.nL cx.cL):=aw.o.cell 23;have QG:_=some (Value.slice cx.aF cx.nF cx.cF):=aw.o.cell 24;go_wp2_with fail;clear QC QD QE QF QG;refine(Yw.o _ HG.o).mono ?_;rintro e w7 ⟨rfl,hg⟩;replace HG:=aa (HG.o.trans hg);have cm:=aa hg;replace aC:=aa (aC.o.grow hg);replace aw:=aa (aw.o.grow hg);replace aT:=aa (aT.o.grow hg);clear hg;have eU:=aa (show Grow w6 w7 from cm.o);by_cases hz:gd=0
   ·subst hz;obtain⟨ke,fG⟩:∃x,(bt dv).2=x:=⟨_,rfl⟩;have gh:=aa fG;have QC:_=some (Value.int .i64 cx.k):=aw.o.cell 20;have QD:_=some (Value.int .u64 cx.n):=aw.o.cell 21;have QE:_=some (Value.slice cx.aB cx.nB cx.cB):=aw.o.cell 22;have QF:_=some (Value.slice cx.aL cx.nL cx.cL):=aw.o.cell 23;have QG:_=some (Value.slice cx.aF cx.nF cx.cF):=aw.o.cell 24;go_wp2_with fail;clear QC QD QE QF QG;refine(HKEY.o _ HG.o).mono ?_;rintro e w8 ⟨agi,A8,c8,rfl,kU,rM,hg⟩;rw[fG];replace HG:=aa (HG.o.trans hg);have dQ:=aa (eU.o.trans hg);replace aw:=aa (aw.o.grow hg);replace aT:=aa (aT.o.grow hg);clear hg kU rM fG;by_cases Yy:ke=0
    ·subst Yy;go_upto_region 26 with fail;go_wp2_with fail;go_loopg [8] (c.aq.length+1) (fun gk i wr=>∃j:Nat,j≤c.aq.length∧gk+j=c.aq.length+1∧i=.int .i64 j∧(∀i (hi:i<c.aq.length),i<j→(cH c.aq[i].path dv).2.2=0)∧Grow w8 wr);exact⟨0,aS _,rfl,rfl,fun _ _ h=>absurd h (by omega),ah _⟩;obtain⟨j,hj,iB,rfl,hne,hgr⟩:=hrel;obtain⟨gk',rfl⟩:=bP gk (by omega);have HN:=aa hne;replace HG:=aa (HG.o.trans hgr);have Ll:=aa (fe.o.grow (dQ.o.trans hgr));have aO:=aa hgr;replace aw:=aa (aw.o.grow hgr);replace aT:=aa (aT.o.grow hgr);have hbc:=aT.o.cell;have h8:=cS.o.nx;clear hne hgr;by_cases hlt:j<c.aq.length
     ·obtain⟨bx,ox,rfl,fq,x0,x1,x2⟩:=Ll.o.rS j hlt;have HE:=aa (fun(W:World) (hg:Grow wr W)=>nQ.o c.aq[j] W (cS.o.path _ (aY hlt)) (HG.o.trans hg));clear Ll;go_upto_region 29 with fail
      have uk:=aa (fun(W:World) (hg:Grow wr W)=>show W.cell? ⟨gc,2,none⟩=some (.slice (some ⟨bx,ox,none⟩) c.aq.length xc)∧W.cell? ⟨bx,ox+j*3,none⟩=some (.string c.aq[j].name)∧W.cell? ⟨bx,ox+j*3+1,none⟩=some (.string c.aq[j].path)∧W.cell? ⟨bx,ox+j*3+2,none⟩=some (.bool c.aq[j].uniq)∧W.cell? ⟨w.heap.size+1,20,none⟩=some (.int .i64 cx.k)∧W.cell? ⟨w.heap.size+1,21,none⟩=some (.int .u64 cx.n)∧W.cell? ⟨w.heap.size+1,22,none⟩=some (.slice cx.aB cx.nB cx.cB)∧W.cell? ⟨w.heap.size+1,23,none⟩=some (.slice cx.aL cx.nL cx.cL)∧W.cell? ⟨w.heap.size+1,24,none⟩=some (.slice cx.aF cx.nF cx.cF) from
       ⟨(aT.o.grow hg).cell 2,(hg.below.cell (p:=⟨bx,ox+j*3,none⟩) fq).trans x0,(hg.below.cell (p:=⟨bx,ox+j*3+1,none⟩) fq).trans x1,(hg.below.cell (p:=⟨bx,ox+j*3+2,none⟩) fq).trans x2,(aw.o.grow hg).cell 20,(aw.o.grow hg).cell 21,(aw.o.grow hg).cell 22,(aw.o.grow hg).cell 23,(aw.o.grow hg).cell 24⟩)
      clear x0 x1 x2 hbc;refine dN ?_;refine dO (S:=fun w'=>w'.cell? ⟨gc,2,none⟩=some (.slice (some ⟨bx,ox,none⟩) c.aq.length xc)∧w'.cell? ⟨bx,ox+j*3,none⟩=some (.string c.aq[j].name)∧w'.cell? ⟨bx,ox+j*3+1,none⟩=some (.string c.aq[j].path)∧w'.cell? ⟨bx,ox+j*3+2,none⟩=some (.bool c.aq[j].uniq)∧w'.cell? ⟨w.heap.size+1,20,none⟩=some (.int .i64 cx.k)∧w'.cell? ⟨w.heap.size+1,21,none⟩=some (.int .u64 cx.n)∧w'.cell? ⟨w.heap.size+1,22,none⟩=some (.slice cx.aB cx.nB cx.cB)∧w'.cell? ⟨w.heap.size+1,23,none⟩=some (.slice cx.aL cx.nL cx.cL)∧w'.cell? ⟨w.heap.size+1,24,none⟩=some (.slice cx.aF cx.nF cx.cF)) (by kernel_rfl) (uk.o _ (ah _).drew) (fun hHeld=>?_);have iW:=aa (show Grow wr wr.drew from (ah _).drew);generalize wr.drew=W0 at iW hHeld ⊢
      refine aK 0 ?_
      try simp only[ak]
      refine aj 1 (hy:=bj fun w ax=>by obtain⟨gg,-,-,-,-,-,-,-,-⟩:=ax;go_simp;try rfl) ?_;refine aK 2 ?_
      try simp only[ak]
      refine aK 3 ?_
      try simp only[ak]
      refine aj 4 (hy:=bj fun w ax=>by obtain⟨-,y0,y1,y2,-,-,-,-,-⟩:=ax;go_simp;try rfl) ?_;refine aK 5 ?_
      try simp only[ak]
      refine aj 6 (hy:=bj fun w ax=>by obtain⟨-,-,-,-,k0,k1,k2,k3,k4⟩:=ax;go_simp;try rfl) ?_;refine aR 7 (fun K hK=>?_);have hC:=HE.o W0 iW.o;go_simp;go_at_call 29;refine hC.mono ?_;rintro ee W1 ⟨X4,A1,c1,rfl,hb1,hr1,hg1⟩;refine aV hK (uk.o _ (iW.o.trans hg1)) (fun hHeld=>?_);clear hK K;refine aK 8 ?_
      try simp only[ak]
      refine aK 9 ?_
      try simp only[ak]
      refine aK 10 ?_
      try simp only[ak]
      refine aK 11 ?_
      try simp only[ak]
      refine aK 12 ?_
      try simp only[ak]
      refine aK 13 ?_
      try simp only[ak]
      refine aK 14 ?_
      try simp only[ak]
      refine cz ?_;clear hHeld hC;have HG2:=aa (iW.o.trans hg1);obtain⟨en,hen⟩:∃x,(cH c.aq[j].path dv).2.2=x:=⟨_,rfl⟩;have agj:=aa hen;rw[hen];clear hg1 hen;by_cases hz:en=0
      ·subst hz;go_wp2_with fail;go_roundg gk';refine⟨j+1,by omega,by omega,by go_num,fun i hi hij=>?_,aO.o.trans HG2.o⟩;by_cases ie:i=j
       ·subst ie;exact agj.o
       exact HN.o i hi (by omega);omega
      go_wp2_with fail;go_ret;exact fE.err hz (HG.o.trans HG2.o)
     have hjl:j=c.aq.length:=by omega
     subst hjl;have Lq:=aa (show tN dv c.aq=0 from Dq.2 fun x hx=>by
      obtain⟨i,hi,rfl⟩:=kH hx;exact HN.o i hi hi)
     go_wp2_with fail;go_ret;have hfk:=QB.o;exact fE.ok ⟨⟨by dsimp only;omega,by dsimp only;omega⟩,(fun h=>by dsimp only at h;omega),(fun _=>HF.o),(fun _=>⟨gh.o,by dsimp only;rw[fP.o];exact Lq.o⟩),(fun h=>by dsimp only at h;omega),(fun h=>by dsimp only at h;omega),(fun h=>by dsimp only at h;omega),(fun h=>by dsimp only at h;omega)⟩ HG.o
    go_wp2_with fail;go_ret;exact fE.err Yy HG.o
   go_wp2_with fail;go_ret;exact fE.err hz HG.o
  ·have hd3:(d==3)=false:=by rcases Hg with rfl | rfl<;>rfl
   have Ag:(d==4)=false:=by rcases Hg with rfl | rfl<;>rfl
   have QB:=aa Hg;go_upto_if 112 with fail;go_cut [112] from 113 to 115 (fun t wx=>t=.bool true∧w6=wx)
   case first =>
    rcases Hg with rfl | rfl
    ·go_wp2_with fail;go_meet;exact⟨rfl,rfl⟩
    go_wp2_with fail;go_meet;exact⟨rfl,rfl⟩
   obtain⟨rfl,rfl⟩:=hcut;clear Hg hd3 Ag q0;obtain⟨gd,hgd⟩:∃g,kv.good=g:=⟨_,rfl⟩;rw[hgd] at Yx;have Hgd:=aa hgd;clear hgd;have q5:_=some (Value.int .i64 ck.k):=aw.o.cell 5;have q6:_=some (Value.int .u64 ck.n):=aw.o.cell 6;have q7:_=some (Value.slice ck.aB ck.nB ck.cB):=aw.o.cell 7;have q8:_=some (Value.slice ck.aL ck.nL ck.cL):=aw.o.cell 8;have q9:_=some (Value.slice ck.aF ck.nF ck.cF):=aw.o.cell 9;go_wp2_with fail;clear q5 q6 q7 q8 q9;refine(Yx.o _ HG.o).mono ?_;rintro e w7 ⟨rfl,hg⟩;replace HG:=aa (HG.o.trans hg);replace aC:=aa (aC.o.grow hg);replace aw:=aa (aw.o.grow hg);replace aT:=aa (aT.o.grow hg);clear hg;by_cases hz:gd=0
   ·subst hz;have q5:_=some (Value.int .i64 ck.k):=aw.o.cell 5;have q6:_=some (Value.int .u64 ck.n):=aw.o.cell 6;have q7:_=some (Value.slice ck.aB ck.nB ck.cB):=aw.o.cell 7;have q8:_=some (Value.slice ck.aL ck.nL ck.cL):=aw.o.cell 8;have q9:_=some (Value.slice ck.aF ck.nF ck.cF):=aw.o.cell 9;go_wp2_with fail;clear q5 q6 q7 q8 q9;refine(kQ.o _ HG.o).mono ?_;rintro e w8 ⟨agi,A8,c8,rfl,kU,rM,hg⟩;replace HG:=aa (HG.o.trans hg);clear hg kU rM;go_wp2_with fail;go_ret;have hfk:=QB.o;exact⟨_,rfl,fun h=>⟨⟨by dsimp only;omega,by dsimp only;omega⟩,(fun h=>by dsimp only at h;omega),(fun _=>HF.o),(fun h=>by dsimp only at h;omega),fun _=>h,(fun h=>by dsimp only at h;omega),(fun h=>by dsimp only at h;omega),(fun h=>by dsimp only at h;omega)⟩,HG.o⟩
   go_wp2_with fail;go_ret;exact fE.err hz HG.o
  ·have HX:=aa (fun(W:World) (hg:Grow w6 W)=>GA c.name dA c.ag.length dc c.aq ix xA xc W (fe.o.grow hg) cS.o.aq (by have:=cS.o.nx;omega));have hbc:=aT.o.cell;have q2:_=some (Value.string ix):=aw.o.cell 2;obtain⟨FF,iG⟩:∃b,cQ (c.aq.map Ix.name) ix=b:=⟨_,rfl⟩
   cases FF with
   | true =>
    rw[xL iG] at HX;obtain⟨I,hI⟩:∃p,bX (c.aq.map Ix.name) ix=p:=⟨_,rfl⟩;rw[hI] at HX;have hi0:(0:Int)≤(I:Int):=by omega
    have j_:=aa iG;clear iG;go_wp2_with fail;clear q0 q2;clear hbc;refine(HX.o _ (ah _)).mono ?_;rintro e w7 ⟨rfl,hg⟩;replace HG:=aa (HG.o.trans hg);replace aC:=aa (aC.o.grow hg);replace aw:=aa (aw.o.grow hg);replace aT:=aa (aT.o.grow hg);clear hg;go_wp2_with fail;go_ret;exact fE.ok ⟨⟨by dsimp only;omega,by dsimp only;omega⟩,(fun h=>by dsimp only at h;omega),(fun _=>HF.o),(fun h=>by dsimp only at h;omega),(fun h=>by dsimp only at h;omega),(fun h=>by dsimp only at h;omega),(fun _=>by dsimp only;rw[fP.o];exact j_.o),(fun h=>by dsimp only at h;omega)⟩ HG.o
   | false =>
    rw[Bn iG] at HX;have j_:=aa iG;clear iG;go_wp2_with fail;clear q0 q2;clear hbc;refine(HX.o _ (ah _)).mono ?_;rintro e w7 ⟨rfl,hg⟩;replace HG:=aa (HG.o.trans hg);replace aC:=aa (aC.o.grow hg);replace aw:=aa (aw.o.grow hg);replace aT:=aa (aT.o.grow hg);clear hg;go_wp2_with fail;go_ret;exact fE.err (by decide) HG.o
  ·go_upto_region 48 with fail;go_cut [157] from 148 to 157 (fun t wx=>∃b,t=.bool b∧Grow w wx∧Blk wx (w.heap.size+1) 33 (cP 9 co ix pa un ck cl ch cx n)∧(b=false→ix≠⟨#[]⟩→cQ (jF c) ix=true))
   case first =>
    by_cases qK:ix=⟨#[]⟩
    ·subst qK;have q2:_=some (Value.string ⟨#[]⟩):=aw.o.cell 2;go_wp2_with fail;go_meet;exact⟨false,rfl,HG.o,aw.o,fun _ h=>absurd rfl h⟩
    have hie:(ix.toList==[])=false:=by rw[show ([]:List UInt8)=(⟨#[]⟩:ByteArray).toList from by rw[toList_data]];exact KP qK
    have HX:=aa (fun(W:World) (hg:Grow w6 W)=>GA c.name dA c.ag.length dc c.aq ix xA xc W (fe.o.grow hg) cS.o.aq (by have:=cS.o.nx;omega));have hbc:=aT.o.cell;have q2:_=some (Value.string ix):=aw.o.cell 2;obtain⟨FF,iG⟩:∃b,cQ (c.aq.map Ix.name) ix=b:=⟨_,rfl⟩
    cases FF with
    | true =>
     rw[xL iG] at HX;obtain⟨I,hI⟩:∃p,bX (c.aq.map Ix.name) ix=p:=⟨_,rfl⟩;rw[hI] at HX;have hi0:(0:Int)≤(I:Int):=by omega
     have j_:=aa iG;clear iG;go_wp2_with fail;clear q0 q2;clear hbc;refine(HX.o _ (ah _)).mono ?_;rintro e w7 ⟨rfl,hg⟩;replace HG:=aa (HG.o.trans hg);replace aC:=aa (aC.o.grow hg);replace aw:=aa (aw.o.grow hg);replace aT:=aa (aT.o.grow hg);clear hg;go_wp2_with fail;go_meet;exact⟨false,rfl,HG.o,aw.o,fun _ _=>j_.o⟩
    | false =>
     rw[Bn iG] at HX;have j_:=aa iG;clear iG;go_wp2_with fail;clear q0 q2;clear hbc;refine(HX.o _ (ah _)).mono ?_;rintro e w7 ⟨rfl,hg⟩;replace HG:=aa (HG.o.trans hg);replace aC:=aa (aC.o.grow hg);replace aw:=aa (aw.o.grow hg);replace aT:=aa (aT.o.grow hg);clear hg;go_wp2_with fail;go_meet;exact⟨true,rfl,HG.o,aw.o,fun h=>(by cases h)⟩
   obtain⟨b,rfl,hg,sk,hb0⟩:=hcut;obtain⟨w7,Bo⟩:∃x:World,x=wc:=⟨_,rfl⟩;subst Bo;replace HG:=aa hg;replace aw:=aa sk;clear hg sk
   cases b with
   | true =>
    go_wp2_with fail;go_ret;exact fE.err (by decide) HG.o
   | false =>
    have Bi:=aa (show ix≠⟨#[]⟩→cQ (jF (bH st co)) ix=true from fun h=>by rw[fP.o];exact hb0 rfl h);clear hb0;have Lr:_=some (Value.int .i64 n):=aw.o.cell 25;by_cases yB:n<1
    ·go_wp2_with fail;go_ret;exact fE.err (by decide) HG.o
    by_cases rq:(64:Int)<n
    ·go_wp2_with fail;go_ret;exact fE.err (by decide) HG.o
    go_upto_region 52 with fail;clear Lr;go_cut [175] from 166 to 175 (fun t wx=>∃b,t=.bool b∧Grow w wx∧Blk wx (w.heap.size+1) 33 (cP 9 co ix pa un ck cl ch cx n)∧(b=false→lv.k=0∨lv.good=0)∧(b=true→lv.good≠0))
    case first =>
     by_cases Bp:cl.k=0
     ·have hk1:(cl.k==0)=true:=by rw[Bp];rfl
      have hk2:(cl.k != 0)=false:=by rw[Bp];rfl
      have QH:=aa (show lv.k=0 from DJ.o ▸ Bp);clear Bp;have zf:_=some (Value.int .i64 cl.k):=aw.o.cell 10;go_wp2_with fail;go_meet;exact⟨false,rfl,HG.o,aw.o,fun _=>.inl QH.o,fun h=>(by cases h)⟩
     have hk1:(cl.k==0)=false:=by simpa using Bp
     have hk2:(cl.k != 0)=true:=by simpa using Bp
     clear Bp;obtain⟨gg,hgg⟩:∃g,lv.good=g:=⟨_,rfl⟩;have Hh:=aa hgg;rw[hgg] at Lm;clear hgg;have zf:_=some (Value.int .i64 cl.k):=aw.o.cell 10;have Hi:_=some (Value.int .u64 cl.n):=aw.o.cell 11;have Hj:_=some (Value.slice cl.aB cl.nB cl.cB):=aw.o.cell 12;have Hk:_=some (Value.slice cl.aL cl.nL cl.cL):=aw.o.cell 13;have Hm:_=some (Value.slice cl.aF cl.nF cl.cF):=aw.o.cell 14;go_wp2_with fail;clear zf Hi Hj Hk Hm;refine(Lm.o _ HG.o).mono ?_;rintro e w8 ⟨rfl,hg⟩;replace HG:=aa (HG.o.trans hg);replace aw:=aa (aw.o.grow hg);clear hg;by_cases hz:gg=0
     ·subst hz;go_wp2_with fail;go_meet;exact⟨false,rfl,HG.o,aw.o,fun _=>.inr Hh.o,fun h=>(by cases h)⟩
     go_wp2_with fail;go_meet;exact⟨true,cT Value.bool (by simpa using hz),HG.o,aw.o,fun h=>(by cases h),fun _=>by rw[Hh.o];exact hz⟩
    obtain⟨b,rfl,hg,sk,hb0,hb1⟩:=hcut;obtain⟨w8,Bo⟩:∃x:World,x=wc:=⟨_,rfl⟩;subst Bo;replace HG:=aa hg;replace aw:=aa sk;clear hg sk
    cases b with
    | true =>
     have hz:=hb1 rfl;clear hb0 hb1;have zf:_=some (Value.int .i64 cl.k):=aw.o.cell 10;have Hi:_=some (Value.int .u64 cl.n):=aw.o.cell 11;have Hj:_=some (Value.slice cl.aB cl.nB cl.cB):=aw.o.cell 12;have Hk:_=some (Value.slice cl.aL cl.nL cl.cL):=aw.o.cell 13;have Hm:_=some (Value.slice cl.aF cl.nF cl.cF):=aw.o.cell 14;obtain⟨gg,hgg⟩:∃g,lv.good=g:=⟨_,rfl⟩;rw[hgg] at Lm hz;clear hgg;go_wp2_with fail;clear zf Hi Hj Hk Hm;refine(Lm.o _ HG.o).mono ?_;rintro e w8b ⟨rfl,hg⟩;replace HG:=aa (HG.o.trans hg);replace aw:=aa (aw.o.grow hg);clear hg;go_wp2_with fail;go_ret;exact fE.err hz HG.o
    | false =>
     have xz:=aa (hb0 rfl);clear hb0 hb1;go_upto_region 54 with fail;go_cut [188] from 179 to 188 (fun t wx=>∃b,t=.bool b∧Grow w wx∧Blk wx (w.heap.size+1) 33 (cP 9 co ix pa un ck cl ch cx n)∧(b=false→hv.k=0∨hv.good=0)∧(b=true→hv.good≠0))
     case first =>
      by_cases Br:ch.k=0
      ·have hk1:(ch.k==0)=true:=by rw[Br];rfl
       have hk2:(ch.k != 0)=false:=by rw[Br];rfl
       have QH:=aa (show hv.k=0 from HKH.o ▸ Br);clear Br;have Ea:_=some (Value.int .i64 ch.k):=aw.o.cell 15;go_wp2_with fail;go_meet;exact⟨false,rfl,HG.o,aw.o,fun _=>.inl QH.o,fun h=>(by cases h)⟩
      have hk1:(ch.k==0)=false:=by simpa using Br
      have hk2:(ch.k != 0)=true:=by simpa using Br
      clear Br;obtain⟨gg,hgg⟩:∃g,hv.good=g:=⟨_,rfl⟩;have Hh:=aa hgg;rw[hgg] at Lp;clear hgg;have Ea:_=some (Value.int .i64 ch.k):=aw.o.cell 15;have Hn:_=some (Value.int .u64 ch.n):=aw.o.cell 16;have Ho:_=some (Value.slice ch.aB ch.nB ch.cB):=aw.o.cell 17;have Hp:_=some (Value.slice ch.aL ch.nL ch.cL):=aw.o.cell 18;have Hq:_=some (Value.slice ch.aF ch.nF ch.cF):=aw.o.cell 19;go_wp2_with fail;clear Ea Hn Ho Hp Hq;refine(Lp.o _ HG.o).mono ?_;rintro e w9 ⟨rfl,hg⟩;replace HG:=aa (HG.o.trans hg);replace aw:=aa (aw.o.grow hg);clear hg;by_cases hz:gg=0
      ·subst hz;go_wp2_with fail;go_meet;exact⟨false,rfl,HG.o,aw.o,fun _=>.inr Hh.o,fun h=>(by cases h)⟩
      go_wp2_with fail;go_meet;exact⟨true,cT Value.bool (by simpa using hz),HG.o,aw.o,fun h=>(by cases h),fun _=>by rw[Hh.o];exact hz⟩
     obtain⟨b,rfl,hg,sk,hb0,hb1⟩:=hcut;obtain⟨w9,Bo⟩:∃x:World,x=wc:=⟨_,rfl⟩;subst Bo;replace HG:=aa hg;replace aw:=aa sk;clear hg sk
     cases b with
     | true =>
      have hz:=hb1 rfl;clear hb0 hb1;have Ea:_=some (Value.int .i64 ch.k):=aw.o.cell 15;have Hn:_=some (Value.int .u64 ch.n):=aw.o.cell 16;have Ho:_=some (Value.slice ch.aB ch.nB ch.cB):=aw.o.cell 17;have Hp:_=some (Value.slice ch.aL ch.nL ch.cL):=aw.o.cell 18;have Hq:_=some (Value.slice ch.aF ch.nF ch.cF):=aw.o.cell 19;obtain⟨gg,hgg⟩:∃g,hv.good=g:=⟨_,rfl⟩;rw[hgg] at Lp hz;clear hgg;go_wp2_with fail;clear Ea Hn Ho Hp Hq;refine(Lp.o _ HG.o).mono ?_;rintro e w9b ⟨rfl,hg⟩;replace HG:=aa (HG.o.trans hg);replace aw:=aa (aw.o.grow hg);clear hg;go_wp2_with fail;go_ret;exact fE.err hz HG.o
     | false =>
      have HBH:=aa (hb0 rfl);clear hb0 hb1;go_wp2_with fail;go_ret;exact fE.ok ⟨⟨by dsimp only;omega,by dsimp only;omega⟩,(fun h=>by dsimp only at h;omega),(fun _=>HF.o),(fun h=>by dsimp only at h;omega),(fun h=>by dsimp only at h;omega),(fun h=>by dsimp only at h;omega),(fun h=>by dsimp only at h;omega),(fun _=>⟨Bi.o,xz.o,HBH.o⟩)⟩ HG.o
  go_wp2_with fail;go_ret;exact fE.ok ⟨⟨by dsimp only;omega,by dsimp only;omega⟩,(fun h=>by dsimp only at h;omega),(fun _=>HF.o),(fun h=>by dsimp only at h;omega),(fun h=>by dsimp only at h;omega),(fun h=>by dsimp only at h;omega),(fun h=>by dsimp only at h;omega),(fun h=>by dsimp only at h;omega)⟩ HG.o
theorem agk(N cap:Nat)(A:Option Addr)(st:List Co)(q:Rq)(ck cl ch cx:Cv)(w:World)(hst:dR w A cap st)(hok:ed N st)(hR:uo q)(hB:Bl q)(hk:In w q.key ck)(hl:In w q.low cl)(hh:In w q.high ch)(hx:In w q.doc cx) :
 Calls prog 67 #[.agg #[.slice A st.length cap],.agg (cP q.bp q.aD q.index q.path q.unique ck cl ch cx q.n)] w (fE w st q):=by
 obtain⟨d,co,ix,pa,un,kv,lv,hv,dv,n⟩:=q;by_cases h1:d=1
 ·subst h1;exact age N cap A st co ix pa un kv lv hv dv n ck cl ch cx w hst hok hB.aD
 by_cases h7:d=7
 ·subst h7;exact agf N cap A st co ix pa un kv lv hv dv n ck cl ch cx w hst hok hB.index
 exact agh N cap A st co ix pa un kv lv hv dv n ck cl ch cx w hst hok d ⟨h1,h7⟩ hR hB hk hl hh hx
end
abbrev al5:=@fE.err
abbrev al6:=@fE.ok
section
open Go.RowKit
structure Hc where
 e:ByteArray
 k:ByteArray
 d:Cv
abbrev Hc.cells(h:Hc):Array Value:=#[.string h.e,.string h.k,.int .i64 h.d.k,.int .u64 h.d.n,.slice h.d.aB h.d.nB h.d.cB,.slice h.d.aL h.d.nL h.d.cL,.slice h.d.aF h.d.nF h.d.cF]
def jJ(hs:List Hc):List Value:=(hs.map fun h=>h.cells.toList).flatten
theorem Yz(hs:List Hc):∀v∈jJ hs,v.oneCell'=true:=by
 intro v hv;simp only[jJ,EX,jx] at hv;obtain⟨_,⟨e,_,rfl⟩,h⟩:=hv;simp at h;rcases h with rfl | rfl | rfl | rfl | rfl | rfl | rfl<;>rfl
theorem QI:(prog.info? 135).map (fun i=>(i.zero,i.size,i.bytes))=some (some (.agg #[.string ⟨#[]⟩,.string ⟨#[]⟩,.int .i64 0,.int .u64 0,.slice none 0 0,.slice none 0 0,.slice none 0 0]),7,120):=by kernel_rfl
theorem Eb:prog.underlying 132=some (.slice 135):=by kernel_rfl
section
variable {w:World} {ad:Addr} {A:Option Addr} {n:Nat} {xs:List Hc}
theorem agl(h:Reads (bE w 0 w.heap.size) 7 A n (jJ xs))(i c:Nat)(hi:i≤n):Src prog 7 132 (.slice A i c) i (jJ (xs.take i)) w:=by
 have hh:=ej (c:=c) Eb (h.GN i hi) (fun u hu=>Yz xs u (yq hu));rwa [show (jJ xs).take (i*7)=jJ (xs.take i) from yR (fun e:Hc=>e.cells.toList) 7 (fun _=>rfl) xs i] at hh
theorem agm{cap i:Nat}(h1:i≤n)(h2:n≤cap)(w:World):(Instr.sliceAt 132 (.slice A n cap) none (some (.int .i64 (i:Int))) none).run prog w=.ok (.slice A i cap) w:=by
 have k1:(0:Int)≤(i:Int):=by omega
 have k2:(i:Int)≤(n:Int):=by omega
 have k3:(i:Int)≤(cap:Int):=by omega
 rcases A with _ | a<;>go_simp
theorem agn{cap i:Nat}(h1:i≤n)(h2:n≤cap):∃B,(∀w,(Instr.sliceAt 132 (.slice A n cap) (some (.int .i64 (i:Int))) none none).run prog w=.ok (.slice B (n-i) (cap-i)) w) ∧
 ∀(w:World) (c:Nat) (xs:List Hc),Reads (bE w 0 w.heap.size) 7 A n (jJ xs)→Src prog 7 132 (.slice B (n-i) c) (n-i) (jJ (xs.drop i)) w:=by
 have k1:(0:Int)≤(i:Int):=by omega
 have k2:(i:Int)≤(n:Int):=by omega
 have k3:(i:Int)≤(cap:Int):=by omega
 refine⟨if cap=i then A else A.map (·.add (i*7)),fun w=>by rcases A with _ | a<;>go_simp,fun w c xs h=>?_⟩;have hh:=ej (c:=c) Eb (h.GP i cap h1 h2) (fun u hu=>Yz xs u (qY hu));rwa [show (jJ xs).drop (i*7)=jJ (xs.drop i) from tO (fun e:Hc=>e.cells.toList) 7 (fun _=>rfl) xs i] at hh
theorem ago{g:Nat}(c:Hc)(hb:Blk w g 135 c.cells):Src prog 7 132 (.slice (some ⟨g,0,none⟩) 1 1) 1 c.cells.toList w:=
 Src.ofSlice _ Eb ⟨g,0,none⟩ 1 1 _ rfl (fun j u hu=>by
  rw[add_lit,dg,hb.cell j,← hu,pg]) (fun u hu=>by
  simp only[iw,wD,wE] at hu;rcases hu with rfl | rfl | rfl | rfl | rfl | rfl | rfl<;>rfl)
theorem agp{base c P:Nat}{x:Hc}(h:w.ownsRow base 135 7 (.slice A n c) n (jJ (xs.take P)++x.cells.toList++jJ (xs.drop P)))(hn:n=(cK xs P x).length):w.ownsRow base 135 7 (.slice A (cK xs P x).length c) (cK xs P x).length (jJ (cK xs P x)):=by
 have e:jJ (cK xs P x)=jJ (xs.take P)++x.cells.toList++jJ (xs.drop P):=by simp[cK,jJ]
 rw[← hn,e];exact h
theorem Hc.at_(h:Reads (bE w 0 w.heap.size) 7 A xs.length (jJ xs)){k:Nat}(hk:k<xs.length):∃bk o,A=some ⟨bk,o,none⟩∧bk<w.heap.size∧∀i v,xs[k].cells.toList[i]?=some v→i<7→w.cell? ⟨bk,o+k*7+i,none⟩=some v:=by
 obtain⟨bk,o,hA,hc⟩:=h.2 (by omega);have hf:∀i v,xs[k].cells.toList[i]?=some v→i<7→bE w 0 w.heap.size ⟨bk,o+(k*7+i),none⟩ v:=fun i v hv hi =>
  hc (k*7+i) v (by rw[jJ,ow _ 7 (fun _=>rfl) xs k i hi xs[k] (bN hk)];exact hv)
 exact⟨bk,o,hA,(hf 0 _ rfl (by omega)).2.2,fun i v hv hi=>by rw[lh];exact(hf i v hv hi).1⟩
end
theorem In.kind{w:World}{v:V}{c:Cv}(h:In w v c):c.k=v.k:=by obtain⟨k,n,b,l,f⟩:=v;obtain⟨aB,aL,aF,cB,cL,cF,rfl,_⟩:=In.open h;rfl
theorem YA{d u:V}{s:ByteArray}(hg:d.good=0)(h:gS d s=some u):u.formed=true:=(mJ (KS ((GI hg s).trans h))).1
theorem agq{ops:Array Oper}{o:Oper}{a:Act}{K:Act→World→Prop}{Q:Exit→Act→World→Prop}{E:Prop}{w0 w:World}(hgd:o.guard=none)(s x:Operand)(t e:TypeId)(ho:o.op=.call { callee:=.builtin .append,args:=#[s,x],argTypes:=#[t,t] })(z gi:Nat)(zv:Value)(ht:prog.underlying t=some (.slice e))(hi:(prog.info? e).map (fun i=>(i.zero,i.size,i.bytes))=some (some zv,z,gi))(hzs:zv.cells.size=z)
 {v:Value} {n:Nat} {xs:List Value} (hv:a.eval s=v) (hown:w.ownsRow w0.heap.size e z v n xs) {u:Value} {m:Nat} {news:List Value} (hx:a.eval x=u) (hs:Src prog z t u m news w) (hb:(n+m)*gi≤140737488355328) (h63:n+m≤maxLen) (hg0:Grow w0 w)
 (h:∀A c w',w'.ownsRow w0.heap.size e z (.slice A (n+m) c) (n+m) (xs++news)→Grow w0 w'→K (a.put o.dst (.slice A (n+m) c)) w') :
 if Region.wanted o (yielded ops a.tmps)=true then Oper.wp prog o a w K Q else E:=by
 obtain⟨i0,h0,h1,h2,h3⟩:=info_parts hi;exact jP hgd s x t t ho w0.heap.size e i0 zv z gi ht h0 h1 h2 h3 hzs v n xs hv hown u m news hx hs hb h63 hg0.size (fun A c w' k1 k2 _=>h A c w' k1 (hg0.grown k2 (fun k hk=>(bO hown k hk).1)))
theorem agr{wn W3:World}{g:Nat}{a b c a' b' c':Value}{T:TypeId}(hg:Grow wn W3)(hn:wn.heap.size≤g)(hB:Blk W3 g T #[a',b',c']):Grow wn (((W3.setCell ⟨g,0,none⟩ a).setCell ⟨g,1,none⟩ b).setCell ⟨g,2,none⟩ c)∧Blk (((W3.setCell ⟨g,0,none⟩ a).setCell ⟨g,1,none⟩ b).setCell ⟨g,2,none⟩ c) g T #[a,b,c]:=
 ⟨((hg.setCell (p:=⟨g,0,none⟩) hn a).setCell (p:=⟨g,1,none⟩) hn b).setCell (p:=⟨g,2,none⟩) hn c,((hB.bg 0 _).bg 1 _).bg 2 _⟩
theorem ags{wn W3:World}{g:Nat}{c0 c:Cv}(hg:Grow wn W3)(hn:wn.heap.size≤g)(hB:Blk W3 g 27 c0.cells) :
 Grow wn (((((W3.setCell ⟨g,0,none⟩ (.int .i64 c.k)).setCell ⟨g,1,none⟩ (.int .u64 c.n)).setCell ⟨g,2,none⟩ (.slice c.aB c.nB c.cB)).setCell ⟨g,3,none⟩ (.slice c.aL c.nL c.cL)).setCell ⟨g,4,none⟩ (.slice c.aF c.nF c.cF)) ∧
 Blk (((((W3.setCell ⟨g,0,none⟩ (.int .i64 c.k)).setCell ⟨g,1,none⟩ (.int .u64 c.n)).setCell ⟨g,2,none⟩ (.slice c.aB c.nB c.cB)).setCell ⟨g,3,none⟩ (.slice c.aL c.nL c.cL)).setCell ⟨g,4,none⟩ (.slice c.aF c.nF c.cF)) g 27 c.cells ∧
 ∀{g':Nat} {T:TypeId} {cs:Array Value},Blk W3 g' T cs→g'≠g→Blk (((((W3.setCell ⟨g,0,none⟩ (.int .i64 c.k)).setCell ⟨g,1,none⟩ (.int .u64 c.n)).setCell ⟨g,2,none⟩ (.slice c.aB c.nB c.cB)).setCell ⟨g,3,none⟩ (.slice c.aL c.nL c.cL)).setCell ⟨g,4,none⟩ (.slice c.aF c.nF c.cF)) g' T cs:=
 ⟨((((hg.setCell (p:=⟨g,0,none⟩) hn _).setCell (p:=⟨g,1,none⟩) hn _).setCell (p:=⟨g,2,none⟩) hn _).setCell (p:=⟨g,3,none⟩) hn _).setCell (p:=⟨g,4,none⟩) hn _,((((hB.bg 0 _).bg 1 _).bg 2 _).bg 3 _).bg 4 _,fun h hne=>((((h.far (p:=⟨g,0,none⟩) hne _).far (p:=⟨g,1,none⟩) hne _).far (p:=⟨g,2,none⟩) hne _).far (p:=⟨g,3,none⟩) hne _).far (p:=⟨g,4,none⟩) hne _⟩
def RgM(wr:World)(g11 g12:Nat)(y:Cv)(t13 t14:Value)(wx:World):Prop:=
 ∃tb es c u,t13=.bool tb∧t14=.string es∧Grow wr wx∧Blk wx g11 27 y.cells∧Blk wx g12 27 (Cv.cells c)∧In wx u c∧(tb=true→u.formed=true)
def RgC(w:World)(n:Nat)(e:Ending)(w':World):Prop:=∃A c hs,e=.returned (.slice A hs.length c)∧Reads (bE w' 0 w'.heap.size) 7 A hs.length (jJ hs)∧hs.length≤n∧hs.length≤c∧Grow w w'
theorem agt(nm na:ByteArray)(ag:List V)(dA xA:Option Addr)(dc xc:Nat)(aq:List Ix)(lv hv:V)(cl ch:Cv)(w:World)(hd:InL w dA dc ag)(hok:∀d∈ag,eu d)(hl:ag.length≤1000000)(qK:kq w xA aq)(YB:eQ (gF (aq.map Ix.name)))(DR:aq.length≤8)(YC:∀x∈aq,x.path.size≤200)
 (Hr:na≠⟨#[]⟩→cQ (aq.map Ix.name) na=true) (hlo:In w lv cl) (hhi:In w hv ch) (Ls:lv.k=0∨lv.good=0) (YD:hv.k=0∨hv.good=0) :
 Calls prog 78 #[.agg #[.string nm,.slice dA ag.length dc,.slice xA aq.length xc],.string na,cl.agg,ch.agg] w (RgC w ag.length):=by
 have HD:=aa hd;have cJ:=aa hok;have HL:=aa hl;have HX:=aa qK;have YE:=aa Hr;have xN:=aa (show ∀x∈aq,x.path.size<4294967281 from fun x h=>by have:=YC x h;omega);have HG:=aa ((((ah w).alloc (.cells #[.string nm,.slice dA ag.length dc,.slice xA aq.length xc] 48)).alloc (.cells cl.cells 27)).alloc (.cells ch.cells 27));have au:=aa (((aH w 48 #[.string nm,.slice dA ag.length dc,.slice xA aq.length xc]).alloc (.cells cl.cells 27)).alloc (.cells ch.cells 27));have ma:=aa ((df (w:=w.alloc (.cells #[.string nm,.slice dA ag.length dc,.slice xA aq.length xc] 48)) (g:=w.heap.size+1) (by simp) 27 cl.cells).alloc (.cells ch.cells 27))
 have jf:=aa (df (w:=(w.alloc (.cells #[.string nm,.slice dA ag.length dc,.slice xA aq.length xc] 48)).alloc (.cells cl.cells 27)) (g:=w.heap.size+1+1) (by simp) 27 ch.cells);have Bt:=aa (fun(W:World) (hg:Grow w W)=>GA nm dA ag.length dc aq na xA xc W (qK.grow hg) YB (by omega));have mv:=aa (fun(d:V) (c:Cv) (s:ByteArray) (w0 W:World) (hs:s.size<4294967281) (hd:eu d) (hg:Grow w0 W) (hi:In w0 d c)=>AX w0 _ d s c W (av _) hs (by obtain⟨i,-,-,-,h,-⟩:=hd.id;exact(mJ h).1) hg hi);have nQ:=aa (fun(x:Ix) (d:V) (c:Cv) (W:World) (hx:x.path.size<4294967281) (hd:eu d) (hi:In W d c)=>KV x d c W hx hd.count hd.fit hd.bytes hi);have um:=aa (fun(d:V) (c:Cv) (W:World) (hd:eu d) (hi:In W d c)=>DG d c W hd.count hd.bytes hi)
 have HLK:Hid (cl.k=lv.k):=aa hlo.kind;have YF:Hid (ch.k=hv.k):=aa hhi.kind;have HLC:=aa (fun(u:V) (c:Cv) (W:World) (hf:u.formed=true) (hi:In W u c) (hg:Grow w W) (h0:lv.k≠0)=>Uo u lv hf (mJ (Ls.resolve_left h0)).1 W c cl hi (hlo.grow hg));have HHC:=aa (fun(u:V) (c:Cv) (W:World) (hf:u.formed=true) (hi:In W u c) (hg:Grow w W) (h0:hv.k≠0)=>Uo u hv hf (mJ (YD.resolve_left h0)).1 W c ch hi (hhi.grow hg));clear hd hok hl qK YB DR YC Hr hlo hhi Ls YD;go_enter func78,ntmps78;go_wp2_with fail;generalize ((w.alloc (.cells #[.string nm,.slice dA ag.length dc,.slice xA aq.length xc] 48)).alloc (.cells cl.cells 27)).alloc (.cells ch.cells 27)=w3 at HG au ma jf ⊢
 go_loopg [9,10] (ag.length+1) (fun gk sl i wr=>∃(j B:Nat) (Ao:Option Addr) (co:Nat) (hs:List Hc),j≤ag.length∧gk+j=ag.length+1∧i=.int .i64 j∧sl=.slice Ao hs.length co∧wr.ownsRow B 135 7 (.slice Ao hs.length co) hs.length (jJ hs)∧hs.length≤j∧Grow w3 wr);exact⟨0,0,none,0,[],aS _,rfl,rfl,rfl,iH _ _ _ _,aS _,ah _⟩;obtain⟨j,B,Ao,co,hs,hj,hg,rfl,rfl,hown,hel,hgr⟩:=hrel;obtain⟨gk',rfl⟩:=bP gk (by omega);have hl0:=HL.o;have aO:=aa hgr;have HOWN:=aa hown;have cm:=aa (HG.o.trans hgr);replace au:=aa (au.o.grow hgr);replace ma:=aa (ma.o.grow hgr);replace jf:=aa (jf.o.grow hgr);have lN:=aa hel;have hb4:=au.o.cell;clear hown hel;by_cases hlt:j<ag.length
 ·obtain⟨bk,o,y,ha,hbk,e0,e1,e2,e3,e4,hy⟩:=(HD.o.grow cm.o).fJ j hlt;dsimp only[kf] at ha;subst ha;have kY:=aa (cJ.o ag[j] (aY hlt));obtain⟨d,hdd⟩:∃d,ag[j]=d:=⟨_,rfl⟩;rw[hdd] at kY hy;have HY:=aa hy;clear hdd hgr hy;go_upto_region 6 with fail;have Lt:=aa ((ah wr).alloc (.cells y.cells 27));have jK:=aa (aH wr 27 y.cells);obtain⟨g11,zh⟩:∃g,wr.heap.size=g:=⟨_,rfl⟩;have agu:=aa zh;rw[zh] at jK ⊢;generalize wr.alloc (.cells y.cells 27)=w4 at Lt jK ⊢;have su:=jK.o.cell;clear e0 e1 e2 e3 e4 hb4 zh;go_wp2_with fail;refine(mv.o d y mK wr w4 (by decide) kY.o Lt.o HY.o).mono ?_;rintro e w5 ⟨cr,c5,t5,u5,rfl,YG,gZ⟩;replace jK:=aa (jK.o.grow cr);have KW:=aa YG;have gP:=aa (G_ gZ);have Dt:=aa (Lt.o.trans cr)
  clear su YG gZ cr;go_upto_region 7 with fail;have xm:=aa (Dt.o.alloc (.cells c5.cells 27));have oN:=aa (aH w5 27 c5.cells);have agv:=aa (show g11<w5.heap.size from jK.o.lt);replace jK:=aa (jK.o.alloc (.cells c5.cells 27));have QJ:g11≠w5.heap.size:=by
   have h1:=agu.o;have h2:wr.heap.size+1≤w5.heap.size:=by have:=jK.o.lt;have h3:=Dt.o.size;have h4:=agv.o;omega
   omega
  obtain⟨g12,QK⟩:∃g,w5.heap.size=g:=⟨_,rfl⟩;have YH:wr.heap.size≤g12:=QK ▸ Dt.o.size;rw[QK] at oN QJ ⊢;generalize w5.alloc (.cells c5.cells 27)=w6 at xm jK oN ⊢;have cj:=aa QJ;have vS:=aa YH;have su:=jK.o.cell;clear QJ YH QK;go_wp2_with fail;refine(um.o d y w6 kY.o (HY.o.grow xm.o)).mono ?_;rintro e w7 ⟨rfl,bW⟩;obtain⟨ks,hks⟩:∃s,t_ d=s:=⟨_,rfl⟩;rw[hks];replace jK:=aa (jK.o.grow bW);replace oN:=aa (oN.o.grow bW);have zi:=aa (xm.o.trans bW);clear su hks bW;go_upto_if 42 with fail;obtain⟨nb,hnb⟩:∃b,(!na.toList.isEmpty)=b:=⟨_,rfl⟩;rw[hnb];have ky:=aa hnb;clear hnb;go_cut [13,14,15,16,17,18] from 43 to 65 (fun t13 t14 t15 t16 t17 t18 wx=>RgM wr g11 g12 y t13 t14 wx)
  case first =>
   cases nb with
   | false =>
    go_wp2_with fail;go_meet;exact⟨t5,ks,c5,u5,rfl,rfl,zi.o,jK.o,oN.o,(KW.o.grow zi.o),fun h=>YA (by obtain⟨i,-,-,-,h,-⟩:=kY.o.id;exact h) (gP.o.resolve_right (fun k=>by rw[h] at k;cases k.2)).1⟩
   | true =>
    have Hr:na≠⟨#[]⟩:=fun e=>by have:=ky.o;rw[e,toList_data] at this;cases this
    have hF:=YE.o Hr;have QL:=Kq hF;rw[xL hF] at Bt;have hil:bX (aq.map Ix.name) na<aq.length:=by rw[cY] at QL;exact QL
    obtain⟨I,hI⟩:∃p,bX (aq.map Ix.name) na=p:=⟨_,rfl⟩;rw[hI] at Bt hil;obtain⟨bx,ox,hA,fq,x0,x1,x2⟩:=(HX.o.grow (cm.o.trans zi.o)).rS I hil;subst hA;have Bu:=aa (xN.o _ (aY hil));obtain⟨x,hx⟩:∃x,aq[I]=x:=⟨_,rfl⟩;rw[hx] at x0 x1 x2 Bu;obtain⟨xn,xp,xu⟩:=x;dsimp only at x0 x1 x2 Bu;have hi0:(0:Int)≤(I:Int):=by omega
    have hi1:(I:Int)<(aq.length:Int):=by omega
    replace au:=aa (au.o.grow zi.o);clear Hr hF QL hI hx;go_upto_region 9 with fail;go_cut [15] from 43 to 49 (fun p wx=>Grow w7 wx∧∃g15,p=.pointer (some ⟨g15,0,none⟩)∧w7.heap.size≤g15∧Blk wx g15 64 #[.string xn,.string xp,.bool xu])
    case first =>
     have fw:=aa (fun(W:World) (hg:Grow w7 W)=>show (∀i,W.cell? ⟨w.heap.size,i,none⟩=(#[.string nm,.slice (some ⟨bk,o,none⟩) ag.length dc,.slice (some ⟨bx,ox,none⟩) aq.length xc]:Array Value)[i]?)∧W.cell? ⟨bx,ox+I*3,none⟩=some (.string xn)∧W.cell? ⟨bx,ox+I*3+1,none⟩=some (.string xp)∧W.cell? ⟨bx,ox+I*3+2,none⟩=some (.bool xu) from
      ⟨(au.o.grow hg).cell,(hg.below.cell (p:=⟨bx,ox+I*3,none⟩) fq).trans x0,(hg.below.cell (p:=⟨bx,ox+I*3+1,none⟩) fq).trans x1,(hg.below.cell (p:=⟨bx,ox+I*3+2,none⟩) fq).trans x2⟩)
     clear x0 x1 x2;refine dN ?_;refine dO (S:=fun w'=>(∀i,w'.cell? ⟨w.heap.size,i,none⟩=(#[.string nm,.slice (some ⟨bk,o,none⟩) ag.length dc,.slice (some ⟨bx,ox,none⟩) aq.length xc]:Array Value)[i]?)∧w'.cell? ⟨bx,ox+I*3,none⟩=some (.string xn)∧w'.cell? ⟨bx,ox+I*3+1,none⟩=some (.string xp)∧w'.cell? ⟨bx,ox+I*3+2,none⟩=some (.bool xu)) (by kernel_rfl) (fw.o _ (ah _).drew) (fun hHeld=>?_);have az:=aa (show Grow w7 w7.drew from (ah _).drew);generalize w7.drew=W0 at az hHeld ⊢;refine aK 0 ?_
     try simp only[ak]
     refine aj 1 (hy:=bj fun w ax=>by obtain⟨b4,-,-,-⟩:=ax;go_simp;try rfl) ?_;refine aj 2 (hy:=bj fun w ax=>by obtain⟨b4,-,-,-⟩:=ax;go_simp;try rfl) ?_;refine aK 3 ?_
     try simp only[ak]
     refine b_ [4,7] ?_;refine iz (fun K hK=>?_) (iz (fun K hK=>?_) bZ)
     ·have hC:=Bt.o (W0) (cm.o.trans (zi.o.trans az.o));go_simp;go_at_call 77;refine hC.mono ?_;rintro ee W3 ⟨rfl,hg3⟩;refine hK.out _ _ (fw.o _ (az.o.trans hg3)) (fun hHeld=>?_);clear hC;clear hK K
      try simp only[ak]
      refine aK 5 ?_
      try simp only[ak]
      refine aj 6 (hy:=bj fun w ax=>by obtain⟨-,y0,y1,y2⟩:=ax;go_simp;try rfl) ?_;refine aR 7 (fun K hK=>?_);go_simp;refine aV hK (fw.o _ ((az.o.trans hg3).alloc _)) (fun hHeld=>?_);clear hK K;refine aR 8 (fun K hK=>?_);go_simp;refine aV hK (fw.o _ ((az.o.trans hg3).alloc _)) (fun hHeld=>?_);clear hK K;refine cz ?_;go_wp2_with fail;go_meet;exact⟨(az.o.trans hg3).alloc _,_,rfl,(az.o.trans hg3).size,aH W3 _ _⟩
     go_simp;refine aV hK (fw.o _ (az.o.alloc _)) (fun hHeld=>?_);clear hK K;refine aR 4 (fun K hK=>?_);have hC:=Bt.o (W0.alloc (.cells #[.string ⟨#[]⟩,.string ⟨#[]⟩,.bool false] 64)) (cm.o.trans (zi.o.trans (az.o.alloc (.cells #[.string ⟨#[]⟩,.string ⟨#[]⟩,.bool false] 64))));go_simp;go_at_call 77;refine hC.mono ?_;rintro ee W3 ⟨rfl,hg3⟩;refine hK.out _ _ (fw.o _ ((az.o.alloc _).trans hg3)) (fun hHeld=>?_);clear hC;clear hK K
     try simp only[ak]
     refine aK 5 ?_
     try simp only[ak]
     refine aj 6 (hy:=bj fun w ax=>by obtain⟨-,y0,y1,y2⟩:=ax;go_simp;try rfl) ?_;refine aR 8 (fun K hK=>?_);have qJ:=(aH W0 64 #[.string ⟨#[]⟩,.string ⟨#[]⟩,.bool false]).grow hg3;obtain⟨Hb,Hd⟩:=agr (a:=.string xn) (b:=.string xp) (c:=.bool xu) ((az.o.alloc (.cells #[.string ⟨#[]⟩,.string ⟨#[]⟩,.bool false] 64)).trans hg3) az.o.size qJ;have hbc:=qJ.cell;have tZ:=qJ.frozen;have D9:=aa Hb;have Qw:=aa Hd;clear qJ Hb Hd;go_simp;clear hbc tZ;refine aV hK (fw.o _ D9.o) (fun hHeld=>?_);clear hK K;refine cz ?_;go_wp2_with fail;go_meet;exact⟨D9.o,_,rfl,az.o.size,Qw.o⟩
    obtain⟨dS,g15,rfl,agw,Hs⟩:=hcut;have agx:=oN.o.lt;have YI:=aa (zi.o.trans dS);have Ht:=aa Hs;have HNF:=aa (show g15≠g12 from fun e=>by omega);replace jK:=aa (jK.o.grow dS);replace oN:=aa (oN.o.grow dS);have su:=jK.o.cell;have Hs:=Ht.o.cell;clear dS agw agx;go_wp2_with fail;refine(mv.o d y xp wr wc Bu.o kY.o YI.o HY.o).mono ?_;rintro e w9 ⟨nO,c9,t9,u9,rfl,YJ,Hu⟩;have agy:=aa (YI.o.trans nO);replace jK:=aa (jK.o.grow nO);replace Ht:=aa (Ht.o.grow nO);obtain⟨s1,s2,s3⟩:=ags (c:=c9) agy.o vS.o (oN.o.grow nO);have Bv:=aa s1;have eV:=aa s2;have QM:=aa (s3 jK.o cj.o);have YK:=aa (s3 Ht.o HNF.o);have HU9:=aa YJ;have HR9:=aa (G_ Hu);have Bw:=(oN.o.grow nO).cell
    have agz:=(oN.o.grow nO).frozen;clear su Hs YJ Hu nO s1 s2 s3 oN;go_upto_region 11 with fail;generalize ((((w9.setCell ⟨g12,0,none⟩ _).setCell ⟨g12,1,none⟩ _).setCell ⟨g12,2,none⟩ _).setCell ⟨g12,3,none⟩ _).setCell ⟨g12,4,none⟩ _=oL at Bv eV QM YK ⊢;have su:=QM.o.cell;have Hs:=YK.o.cell;clear Bw agz jK Ht;go_wp2_with fail;refine(nQ.o ⟨xn,xp,xu⟩ d y oL Bu.o kY.o (HY.o.grow Bv.o)).mono ?_;rintro e uq ⟨X4,A1,cc1,rfl,hbs,hr1,zh⟩;obtain⟨⟨b1,ok,er⟩,hp⟩:∃p,cH xp d=p:=⟨_,rfl⟩;rw[hp] at hr1 ⊢;dsimp only at hr1 ⊢;have hcs:=ly cc1 hr1.reads.1;have YL:=aa (Bv.o.trans zh);have agA:=aa (QM.o.grow zh);have agB:=aa (eV.o.grow zh);clear su Hs hbs hr1 hp zh;go_wp2_with fail;go_meet
    exact⟨t9,_,c9,u9,rfl,rfl,YL.o,agA.o,agB.o,HU9.o.grow YL.o,fun h=>YA (by obtain⟨i,-,-,-,h,-⟩:=kY.o.id;exact h) (HR9.o.resolve_right (fun k=>by rw[h] at k;cases k.2)).1⟩
  obtain⟨tb,es,c,u,rfl,rfl,jo,su,Bw,hu,fh⟩:=hcut;obtain⟨wa,Bo⟩:∃x:World,x=wc:=⟨_,rfl⟩;subst Bo;have bV:=aa jo;replace ma:=aa (ma.o.grow jo);replace jf:=aa (jf.o.grow jo);replace jK:=aa su;replace oN:=aa Bw;have HU:=aa hu;have HFM:=aa fh;have YM:=aa (cm.o.trans jo);clear jo su Bw hu fh Bt mv nQ HX YE xN KW gP Lt Dt xm zi;go_upto_region 13 with fail;go_cut [89] from 66 to 88 (fun b wx=>∃x,b=.bool x∧Grow wa wx)
  case first =>
   cases tb with
   | false =>
    go_wp2_with fail;go_meet;exact⟨true,rfl,ah _⟩
   | true =>
    have hf:=HFM.o rfl;have agC:=aa (fun(W:World) (hg:Grow wa W)=>HLC.o u c W hf (HU.o.grow hg) (YM.o.trans hg));have YN:=aa (fun(W:World) (hg:Grow wa W)=>HHC.o u c W hf (HU.o.grow hg) (YM.o.trans hg));have Bw:=oN.o.cell;have Bf:=ma.o.cell;have mr:=jf.o.cell;clear hf;by_cases h0:cl.k=0
    ·have hk1:(cl.k==0)=true:=by rw[h0];rfl
     have hk2:(cl.k != 0)=false:=by rw[h0];rfl
     clear h0;by_cases h1:ch.k=0
     ·have hk3:(ch.k==0)=true:=by rw[h1];rfl
      have hk4:(ch.k != 0)=false:=by rw[h1];rfl
      clear h1;go_wp2_with fail;go_meet;exact⟨false,rfl,(ah wa)⟩
     have hk3:(ch.k==0)=false:=by simpa using h1
     have hk4:(ch.k != 0)=true:=by simpa using h1
     have hh:=YN.o wa (ah wa) (by rw[← YF.o];exact h1);obtain⟨z2,hz2⟩:∃z,V.cmp u hv=z:=⟨_,rfl⟩;rw[hz2] at hh;have yV:=aa hh;clear h1 hz2 hh;go_wp2_with fail;refine yV.o.mono ?_;rintro e wd ⟨rfl,hgd⟩;have oO:=aa hgd;clear hgd;by_cases hz1:(0:Int)<z2
     ·have hzb:decide ((0:Int)<z2)=true:=bT hz1;go_wp2_with fail;go_meet;exact⟨_,rfl,(ah wa).trans oO.o⟩
     have hzb:decide ((0:Int)<z2)=false:=bY hz1;go_wp2_with fail;go_meet;exact⟨_,rfl,(ah wa).trans oO.o⟩
    have hk1:(cl.k==0)=false:=by simpa using h0
    have hk2:(cl.k != 0)=true:=by simpa using h0
    have hh:=agC.o wa (ah _) (by rw[← HLK.o];exact h0);obtain⟨z,hz⟩:∃z,V.cmp u lv=z:=⟨_,rfl⟩;rw[hz] at hh;have HH1:=aa hh;clear h0 hz hh;go_wp2_with fail;refine HH1.o.mono ?_;rintro e wb ⟨rfl,hgb⟩;have sw:=aa hgb;clear Bf mr Bw;have mr:=(jf.o.grow hgb).cell;have Bw:=(oN.o.grow hgb).cell;clear hgb;by_cases hz0:z<0
    ·have hzb:decide (z<0)=true:=bT hz0;go_wp2_with fail;go_meet;exact⟨_,rfl,sw.o⟩
    have hzb:decide (z<0)=false:=bY hz0;by_cases h1:ch.k=0
    ·have hk3:(ch.k==0)=true:=by rw[h1];rfl
     have hk4:(ch.k != 0)=false:=by rw[h1];rfl
     clear h1;go_wp2_with fail;go_meet;exact⟨false,rfl,sw.o⟩
    have hk3:(ch.k==0)=false:=by simpa using h1
    have hk4:(ch.k != 0)=true:=by simpa using h1
    have hh:=YN.o wb sw.o (by rw[← YF.o];exact h1);obtain⟨z2,hz2⟩:∃z,V.cmp u hv=z:=⟨_,rfl⟩;rw[hz2] at hh;have yV:=aa hh;clear h1 hz2 hh;go_wp2_with fail;refine yV.o.mono ?_;rintro e wd ⟨rfl,hgd⟩;have oO:=aa hgd;clear hgd;by_cases hz1:(0:Int)<z2
    ·have hzb:decide ((0:Int)<z2)=true:=bT hz1;go_wp2_with fail;go_meet;exact⟨_,rfl,sw.o.trans oO.o⟩
    have hzb:decide ((0:Int)<z2)=false:=bY hz1;go_wp2_with fail;go_meet;exact⟨_,rfl,sw.o.trans oO.o⟩
  obtain⟨x,rfl,hgx⟩:=hcut;obtain⟨wd,hwd⟩:∃x:World,x=wc:=⟨_,rfl⟩;subst hwd;have nu:=aa (aO.o.trans (bV.o.trans hgx));have HOW:=aa (kr HOWN.o (bV.o.trans hgx));have qC:=aa (show Reads (bE wd 0 wd.heap.size) 7 Ao hs.length (jJ hs) from dW jW (ku (S:=fun _=>False) HOW.o (fun _ _ h=>h)));have YO:=aa (jK.o.grow hgx);have HYD:=aa (HY.o.grow (bV.o.trans hgx));have hel:=lN.o;clear hgx HOWN
  cases x with
  | true =>
   go_wp2_with fail;go_roundg gk';exact⟨j+1,B,Ao,co,hs,by omega,by omega,by go_num,rfl,HOW.o,by omega,nu.o⟩;omega
  | false =>
   go_upto_region 16 with fail;go_loopg [19,20] (hs.length+1) (fun gk n i wk=>∃k N:Nat,k≤hs.length∧gk+k=hs.length+1∧i=.int .i64 k∧n=.int .i64 N∧N≤k∧wk=wd);exact⟨0,0,aS _,rfl,rfl,rfl,av _,rfl⟩;obtain⟨k,N,hk,iB,rfl,rfl,QN,hwk⟩:=hrel;obtain⟨tv,rfl⟩:∃g,gk=g+1:=⟨gk-1,by omega⟩;subst hwk;by_cases hkl:k<hs.length
   ·obtain⟨bo,oo,rfl,qy,hcell⟩:=Hc.at_ qC.o hkl;have o0:=hcell 0 _ rfl (by omega);simp only[fF] at o0;obtain⟨he,YP⟩:∃s,hs[k].e=s:=⟨_,rfl⟩;rw[YP] at o0;clear hcell YP;by_cases hls:Op.bytesLess he.toList es.toList=true
    ·go_wp2_with fail;go_roundg tv;exact⟨k+1,k+1,by omega,by omega,by go_num,by go_num,av _,rfl⟩;omega
    replace hls:Op.bytesLess he.toList es.toList=false:=by simpa using hls
    go_wp2_with fail;go_roundg tv;exact⟨k+1,N,by omega,by omega,by go_num,rfl,by omega,rfl⟩;omega
   have FI:k=hs.length:=by omega
   subst FI;have hi0:(0:Int)≤(N:Int):=by omega
   have hi1:(N:Int)≤(hs.length:Int):=by omega
   have ju:=aa (nH HOW.o).1;have hi2:(N:Int)≤(co:Int):=by have:=ju.o;omega
   obtain⟨kk,hkk⟩:∃s,t_ d=s:=⟨_,rfl⟩;have Hv:=aa hkk;clear hkk;have hsh:=agm (A:=Ao) (i:=N) QN ju.o;go_upto_region 22 with (at_builtin;refine A_ (w0:=wr) (.tmp 105) (.tmp 108) 132 135 7 120 _ Eb QI rfl rfl rfl (agl qC.o N co QN) (by omega) (by simp only[maxLen];omega) (ah _) ?_;intro A6 c6 w6 kB bU);clear hsh;have rU:=aa kB;have bR:=aa bU;have iN:=aa (fun(W:World) (hg:Grow w6 W)=>show ∀i,W.cell? ⟨g11,i,none⟩=y.cells[i]? from (YO.o.grow (bR.o.trans hg)).cell);clear kB bU;refine dN ?_;refine dO (S:=fun w'=>∀i,w'.cell? ⟨g11,i,none⟩=y.cells[i]?) (by kernel_rfl) (iN.o _ (ah _).drew) (fun hHeld=>?_);have iW:=aa (show Grow w6 w6.drew from (ah _).drew);generalize w6.drew=W0 at iW hHeld ⊢;refine aK 0 ?_
   try simp only[ak]
   refine aK 1 ?_
   try simp only[ak]
   refine aj 2 ?_;refine aj 4 ?_;refine aR 3 (fun K hK=>?_);have hC:=um.o d y W0 kY.o (HYD.o.grow (bR.o.trans iW.o));rw[Hv.o] at hC;go_simp;go_at_call 71;refine hC.mono ?_;rintro ee W1 ⟨rfl,hg1⟩;refine hK.out _ _ (iN.o _ (iW.o.trans hg1)) (fun hHeld=>?_);clear hC;clear hK K
   try simp only[ak]
   refine aK 5 ?_
   try simp only[ak]
   refine aR 6 (fun K hK=>?_);go_simp;refine aV hK (iN.o _ ((iW.o.trans hg1).alloc _)) (fun hHeld=>?_);clear hK K;refine aR 7 (fun K hK=>?_);refine agq (w0:=wr) (by rfl) (.tmp 110) (.tmp 116) 132 135 (by rfl) 7 120 _ Eb QI rfl (by rfl) ((kr rU.o (iW.o.trans hg1)).alloc _) (by rfl) (ago ⟨es,kk,y⟩ (aH W1 135 (Hc.cells ⟨es,kk,y⟩))) (by omega) (by simp only[maxLen];omega) ((bR.o.trans (iW.o.trans hg1)).alloc _) ?_;intro A7 c7 w7 fI bW;refine aV hK ((YO.o.grow bW).cell) (fun hHeld=>?_);clear hK K;refine aK 8 ?_
   try simp only[ak]
   refine cz ?_;have oK:=aa fI;have aZ:=aa bW;clear hHeld fI bW hg1;have il:=aa (dW (eO aZ.o.below (av _) (av _) aZ.o.size) qC.o);obtain⟨AZ,hsl,hsrc⟩:=agn (A:=Ao) (i:=N) QN ju.o;have gz:=aa hsrc;clear hsrc;go_upto_region 4 with (at_builtin;refine uf (w0:=wr) (.tmp 118) (.tmp 121) 132 135 7 120 _ Eb QI rfl rfl oK.o rfl (gz.o _ _ _ il.o) (by omega) (by simp only[maxLen];omega) aZ.o ?_;intro A8 c8 w8 cX cO);clear hsl;have hlen:N+1+(hs.length-N)=(cK hs N (⟨es,kk,y⟩:Hc)).length:=by
    rw[tQ];omega
   have xJ:=aa (agp cX hlen);have dQ:=aa cO;have HLEN:=aa hlen;clear cX cO hlen;go_wp2_with fail;go_roundg gk';exact⟨j+1,wr.heap.size,A8,c8,cK hs N ⟨es,kk,y⟩,by omega,by omega,by go_num,by rw[← HLEN.o],xJ.o,by rw[tQ];omega,nu.o.trans dQ.o⟩;omega
 have hjl:j=ag.length:=by omega
 subst hjl;clear hgr;go_wp2_with fail;go_ret;exact⟨Ao,co,hs,rfl,dW jW (ku (S:=fun _=>False) HOWN.o (fun _ _ h=>h)),lN.o,(nH HOWN.o).1,cm.o⟩
end
section
open Go.RowKit
theorem QO{path:ByteArray}{d x:V}(hd:eu d)(hx:eu x)(hk:(bt x).1≠(bt d).1)(hc:jI path d x=false):∀u,gB d path=some u→gB x path≠some u:=by
 obtain⟨-,-,-,-,g1,-⟩:=hd.id;obtain⟨-,-,-,-,g2,-⟩:=hx.id;intro u h1 h2;rw[GI g1] at h1;rw[GI g2] at h2;rw[X_ h1 h2,T6,Bool.and_true] at hc;simp only[Bool.not_eq_false'] at hc;exact hk (by simpa using hc)
theorem agD{path:ByteArray}{ag:List V}{d:V}(hd:∀x∈ag,eu x)(hr:eQ (iZ ag))(kV:eu d)(hu:vE path ag)(hc:ag.any (jI path d)=false):vE path (fN ag d):=by
 have hc':∀x∈ag,jI path d x=false:=fun x hx=>by
  rcases uU (jI path d x) with h | h
  ·rw[List.any_eq_true.2 ⟨x,hx,h⟩] at hc;cases hc
  exact h
 have hs:∀a b:V,(∀u,gB a path=some u→gB b path≠some u)→∀u,gB b path=some u→gB a path≠some u:=fun a b h u h1 h2=>h u h2 h1
 unfold fN;split
 ·rename_i hF;have hlt:=yS hF;rw[M0,ar hlt];refine Kv hs List.perm_middle.symm (jz.2 ⟨fun x hx=>?_,hu.sub (Dp ag (iM ag (bt d).1))⟩);have hmem:x∈ag:=(Dp ag (iM ag (bt d).1)).subset hx;refine QO kV (hd x hmem) (fun he=>?_) (hc' x hmem);obtain⟨D,hD⟩:∃D,iM ag (bt d).1=D:=⟨_,rfl⟩;rw[hD] at hx hlt;rcases qV.1 hx with h | h
  ·obtain⟨i,hi,rfl⟩:=kH h;rw[eD] at hi;rw[Cb] at he;have:=(DI hr (j:=i) (by omega) he).1;omega
  obtain⟨i,hi,rfl⟩:=kH h;rw[iI] at hi;rw[Jy] at he;have:=(DI hr (j:=D+1+i) (by omega) he).1;omega
 rename_i hF;refine Kv hs List.perm_middle.symm (jz.2 ⟨fun x hx=>?_,by rw[pU];exact hu⟩);rw[pU] at hx;refine QO kV (hd x hx) (fun he=>hF ?_) (hc' x hx);obtain⟨i,hi,rfl⟩:=kH hx;exact(DI hr hi he).2
theorem agE{N:Nat}{c:Co}{d:V}(hc:Dm N c)(kV:eu d)(qK:tN d c.aq=0)(hcl:∀x∈c.aq,x.uniq=true→c.ag.any (jI x.path d)=false):yQ (fN c.ag d) c.aq=false:=by
 refine Ky.2 fun x hx hu=>(Kw (fun e he=>?_) (nI.2 fun e he=>?_)).2 (agD hc.ag hc.keys kV (hc.uniq x hx hu) (hcl x hx hu))
 ·rcases Dr he with rfl | h
  ·exact kV
  exact hc.ag e h
 rcases Dr he with rfl | h
 ·exact Dq.1 qK x hx
 exact nI.1 (hc.Dn x hx) e h
theorem agF{path:ByteArray}{ag:List V}(hd:∀x∈ag,eu x)(hr:eQ (iZ ag))(he:fW path ag=0)(hc:∀d∈ag,ag.any (jI path d)=false):rJ (jr path ag)=false:=by
 refine(Kw hd he).2 (Cq.2 fun i j hi hj hij=>?_);refine QO (hd _ (aY hi)) (hd _ (aY hj)) (fun e=>?_) ?_
 ·have h1:=(DI hr hj e).1;have h2:=(DI hr hi rfl).1;omega
 have:=hc _ (aY hi);rw[M8] at this;simpa using this _ (aY hj)
end
section
open Go.RowKit
section
variable {w:World} {ad:Addr} {A:Option Addr} {n:Nat} {xs:List Cc}
theorem YQ(h:Reads (bE w 0 w.heap.size) 3 A n (dw xs))(i c:Nat)(hi:i≤n):Src prog 3 42 (.slice A i c) i (dw (xs.take i)) w:=by
 have hh:=ej (c:=c) vU (h.GN i hi) (fun u hu=>Df xs u (yq hu));rwa [show (dw xs).take (i*3)=dw (xs.take i) from yR (fun e:Cc=>e.cells.toList) 3 (fun _=>rfl) xs i] at hh
theorem YR(h:Reads (bE w 0 w.heap.size) 3 A n (dw xs))(i c cap:Nat)(hi:i≤n)(hc:n≤cap):Src prog 3 42 (.slice (if cap=i then A else A.map (·.add (i*3))) (n-i) c) (n-i) (dw (xs.drop i)) w:=by
 have hh:=ej (c:=c) vU (h.GP i cap hi hc) (fun u hu=>Df xs u (qY hu));rwa [show (dw xs).drop (i*3)=dw (xs.drop i) from tO (fun e:Cc=>e.cells.toList) 3 (fun _=>rfl) xs i] at hh
theorem agG{g:Nat}(c:Cc)(hb:Blk w g 48 c.cells):Src prog 3 42 (.slice (some ⟨g,0,none⟩) 1 1) 1 c.cells.toList w:=
 Src.ofSlice _ vU ⟨g,0,none⟩ 1 1 _ rfl (fun j u hu=>by
  rw[add_lit,dg,hb.cell j,← hu,pg]) (fun u hu=>by
  simp only[iw,wD,wE] at hu;rcases hu with rfl | rfl | rfl<;>rfl)
theorem YS{base c:Nat}{es:List Cc}{st:List Co}{ys:List Value}(h:w.ownsRow base 48 3 (.slice A n c) n ys)(hy:ys=dw es)(hn:n=st.length)(ht:Two (rK w) es st):dR w A c st:=by
 subst hn hy;exact⟨(nH h).1,es,ht,dW jW (ku (S:=fun _=>False) h (fun _ _ h=>h))⟩
theorem YT(a b:List Cc):dw (a++b)=dw a++dw b:=by simp[dw]
theorem Two.grow{w':World}{es:List Cc}{st:List Co}(h:Two (rK w) es st)(hg:Grow w w'):Two (rK w') es st:=h.mono fun a b k=>k.mono (eO hg.below (av _) (av _) hg.size)
theorem agH{C:Addr→Value→Prop}:IsV C (.mk 7 0 [] [] []) (kf none 0 0):=by
 rw[IsV];exact⟨rfl,rfl,rfl,rfl,rfl,by decide,by decide,by decide,by simp[kf],by simp,by simp[kf],by simp,by simp[kf],by simp,⟨rfl,fun h=>by simp at h⟩,fun i hi=>by simp at hi,fun i hi=>by simp at hi⟩
theorem agI(s:ByteArray):rK w ⟨s,none,0,0,none,0,0⟩ ⟨s,[],[]⟩:=
 ⟨rfl,rfl,rfl,av _,agH,⟨rfl,fun h=>by simp at h⟩⟩
section
variable {e:Operand→Value} {d:Option Tmp} {x y:Operand} {t:TypeId} {p:String} {af:Array Edge} {g:Option (Nat×Bool)} {cap i:Nat}
theorem YU(hx:e x=.slice A n cap)(hy:e y=.int .i64 i)(h1:i≤n)(h2:n≤cap) :
 (execOp e ⟨d,.slice 42 x (some y) none none,t,p,af,g⟩).run prog w=.ok (.value (.slice (if cap=i then A else A.map (·.add (i*3))) (n-i) (cap-i))) w:=by
 unfold execOp;dsimp only;rw[hx,JG,hy];have k1:(0:Int)≤(i:Int):=by omega
 have k2:(i:Int)≤(n:Int):=by omega
 have k3:(i:Int)≤(cap:Int):=by omega
 rcases A with _ | a<;>go_simp
theorem YV(hx:e x=.slice A n cap)(hy:e y=.int .i64 i)(h1:i≤n)(h2:n≤cap) :
 (execOp e ⟨d,.slice 42 x none (some y) none,t,p,af,g⟩).run prog w=.ok (.value (.slice A i cap)) w:=by
 unfold execOp;dsimp only;rw[hx,JG,hy];have k1:(0:Int)≤(i:Int):=by omega
 have k2:(i:Int)≤(n:Int):=by omega
 have k3:(i:Int)≤(cap:Int):=by omega
 rcases A with _ | a<;>go_simp
end
end
end
section
open Go.RowKit
theorem agJ(b:List UInt8)(A:Option Addr)(c:Nat)(w:World)(hb:ba w A b)(hl:b.length≤1000000000) :
 Calls prog 61 #[.slice A b.length c] w fun e w'=>∃A' c' base,e=.returned (.slice A' b.length c')∧base≤w'.heap.size∧Row w' base (.slice A' b.length c') b.length b∧Grow w w':=by
 obtain⟨cur,jc,hmk⟩:=JU b.length (by omega);have iU:=aa (Row.made (w:=w) cur b.length (by simp only[maxLen];omega) jc);have HG:=aa ((ah w).alloc (.cells cur 5));have gz:=aa (show Src prog 1 23 (.slice A b.length c) b.length (bw b) (w.alloc (.cells cur 5)) from ej dP (hb.grow HG.o) (gM _));clear hb jc;go_enter func61,ntmps61;go_wp2_with (at_builtin;refine fK rfl (.tmp 5) (.tmp 6) 23 rfl rfl iU.o _ rfl gz.o (by omega) (by simp) ?_;intro A3 c3 w3 hr3 hg3);rw[dg,mF] at hr3;rw[dg] at hg3;go_ret;exact⟨A3,c3,w.heap.size,rfl,a_ HG.o.size hg3.size,hr3,HG.o.grown hg3.grow (fun k hk=>(bO iU.o k hk).1)⟩
theorem agK{ops:Array Oper}{rest:List Oper}{Q:Exit→Act→World→Prop}{a:Act}{w:World}(base:Nat)(s x:Operand)(t e:TypeId)(z gi:Nat)(zv:Value)(ht:prog.underlying t=some (.slice e))(hi:(prog.info? e).map (fun i=>(i.zero,i.size,i.bytes))=some (some zv,z,gi))(hzs:zv.cells.size=z){d:Option Tmp}{tt:TypeId}{p:String}{af:Array Edge}
 {v:Value} {n:Nat} {xs:List Value} (hv:a.eval s=v) (hown:w.ownsRow base e z v n xs) {u:Value} {m:Nat} {news:List Value} (hx:a.eval x=u) (hs:Src prog z t u m news w) (hb:(n+m)*gi≤140737488355328) (h63:n+m≤maxLen) (hg0:base≤w.heap.size)
 (h:∀A c w',w'.ownsRow base e z (.slice A (n+m) c) (n+m) (xs++news)→w.grownBy w' v.ownBlock→wpList prog ops Q rest (a.put d (.slice A (n+m) c)) w') :
 wpList prog ops Q (⟨d,.call { callee:=.builtin .append,args:=#[s,x],argTypes:=#[t,t] },tt,p,af,none⟩::rest) a w:=by
 obtain⟨i0,h0,h1,h2,h3⟩:=info_parts hi;exact sO rfl s x t t rfl base e i0 zv z gi ht h0 h1 h2 h3 hzs v n xs hv hown u m news hx hs hb h63 hg0 (fun A c w' k1 k2 k3=>h A c w' k1 k2)
theorem YW(path:ByteArray)(ag:List V):(jr path ag).length≤ag.length:=by
 unfold jr;split
 ·rw[(xk _).length_eq];exact M7 _ _
 exact aS _
theorem agL{path:ByteArray}{ag:List V}(hd:∀d∈ag,eu d){x:EN}(hx:x∈jr path ag):x.1.length≤96:=by
 unfold jr at hx;split at hx
 ·rename_i h0;have hx:=(xk _).mem_iff.1 hx;unfold jV at hx;obtain⟨d,kR,he⟩:=JF.1 hx;unfold nG at he;split at he
  ·cases he
   exact Wk (hd d kR) (nI.1 h0 d kR)
  cases he
 cases hx
theorem agM(S:Nat)(hS:S≤1000000000):∃cur:Array Value,cur.size=S*1∧∀w:World,(Instr.makeSlice 72 (.int .i64 0) (.int .i64 (S:Int))).run prog w=.ok (.slice (some ⟨w.heap.size,0,none⟩) 0 S) (w.alloc (.cells cur 23)):=by
 obtain⟨i0,hi0,hz0,hz1,hz2⟩:=info_parts G7;refine⟨madeCells (Value.slice none 0 0).cells (S*i0.size),?_,fun w=>?_⟩
 ·rw[hz1];simp[madeCells]
 have h:=run_make (P:=prog) (w:=w) 72 23 i0 _ zg hi0 hz0 .i64 .i64 0 (S:Int) (by omega) (by omega) (by rw[hz2];omega) (by omega);exact h
theorem agN(nm:ByteArray)(ag:List V)(dA xA:Option Addr)(dc xn xc:Nat)(x:Ix)(w:World)(hd:InL w dA dc ag)(hx:x.path.size<4294967281)(hok:∀d∈ag,eu d)(hr:eQ (iZ ag))(hl:ag.length≤1000000)(hT:eo w)(hM:kO w) :
 Calls prog 30 #[.agg #[.string nm,.slice dA ag.length dc,.slice xA xn xc],.agg x.cells] w (X3 w x.path ag):=by
 have HG:=aa (((ah w).alloc (.cells #[.string nm,.slice dA ag.length dc,.slice xA xn xc] 48)).alloc (.cells x.cells 64));have nQ:=aa (Wq nm ag dA xA dc xn xc x _ (hd.grow HG.o) hx hok hr (by omega) (hT.grow HG.o) (hM.grow HG.o));have HL:=aa hl;have agO:=aa hok;obtain⟨Ld,xp,xu⟩:=x;dsimp only[Ix.cells] at HG nQ ⊢;clear hd hx hok hr hl hT hM;go_enter func30,ntmps30;go_wp2_with fail;refine nQ.o.mono ?_;rintro e w2 ⟨hg,hres⟩;have HG2:=aa (HG.o.trans hg);clear hg nQ;obtain⟨hne,rfl⟩ | ⟨mo,A,c,es,rfl,hrow⟩:=hres
 ·obtain⟨z,hz⟩:∃z,fW xp ag=z:=⟨_,rfl⟩;rw[hz] at hne ⊢;have HZ:=aa hz;clear hz;go_wp2_with fail;go_ret2;exact⟨HG2.o,.inl ⟨by rw[HZ.o];exact hne,by rw[HZ.o];rfl⟩⟩
 have hel:=hrow.two.1;obtain⟨l,hl⟩:∃l,jr xp ag=l:=⟨_,rfl⟩;rw[hl] at hrow hel ⊢;have CH:=aa hl;have nK:=aa mo;rw[← hel];have iU:=aa hrow;have lN:=aa hel;have hnl:es.length≤1000000:=by
  rw[hel,← hl];exact a_ (YW xp ag) HL.o
 have HNL:=aa hnl;obtain⟨cur,jc,hmk⟩:=agM es.length (by omega);have agP:=aa (qU (e:=23) (size:=1) w2 cur es.length (av _) (by simp only[maxLen];omega) (by rw[jc]));clear hl mo hrow hel jc;go_wp2_with fail;clear hmk;go_loopg [8,25] (es.length+1) (fun gk s i wr=>∃(A5:Option Addr) (c5:Nat) (os:List Sb),os.length≤es.length∧gk+os.length=es.length+1∧s=.slice A5 os.length c5∧i=.int .i64 os.length∧wr.ownsRow w2.heap.size 23 1 (.slice A5 os.length c5) os.length (im os)∧(∀e∈os,∃base,base≤wr.heap.size∧Row wr base (.slice e.A e.b.length e.c) e.b.length e.b)∧os.map Sb.b=(l.map Prod.fst).take os.length∧Grow w2 wr);exact⟨_,_,[],aS _,by simp,rfl,rfl,agP.o,fun e h=>by simp at h,rfl,(ah w2).alloc _⟩
 obtain⟨A5,QP,os,hj,iB,rfl,rfl,how,hin,hmap,hgr⟩:=hrel;obtain⟨gk',rfl⟩:=bP gk (by omega);have HOW:=aa how;have AQ:=aa hin;have Li:=aa hmap;have aO:=aa hgr;obtain⟨j,hjo⟩:∃j,os.length=j:=⟨_,rfl⟩;rw[hjo] at hj iB;have Hw:=aa hjo;clear how hin hmap hgr;by_cases hlt:j<es.length
 ·obtain⟨g,cur,hA,hb,hgg,hnc,hcm,hcs,ht,-⟩:=mP iU.o.row (by omega);subst hA;have hcell:∀k,k<7→∀v,es[j].cells.toList[k]?=some v→wr.cell? ⟨g,j*7+k,none⟩=some v:=fun k hk v hv=>by
   have Ls:g<w2.heap.size:=(pn.1 hgg).1;refine(aO.o.below.cell (p:=⟨g,j*7+k,none⟩) Ls).trans (vC hgg ht _ _ ?_);rw[cellsE,ow _ 7 (fun _=>rfl) es j k hk es[j] (bN hlt)];exact hv
  have v1:=iU.o.two.at_ (j:=j) hlt (by rw[← lN.o];exact hlt);obtain⟨e,he⟩:∃e,es[j]=e:=⟨_,rfl⟩;rw[he] at hcell v1;have YX:j<l.length:=by rw[← lN.o];exact hlt
  have HB:=aa (show e.b=(l[j]).1 from v1.b);obtain⟨base,hbase,zj⟩:=v1.row;have YY:=aa (show ba wr e.A e.b from zY (dW (fun p u hp=>⟨hp.1,aS _,hp.2.2⟩) zj.reads.1) aO.o);have hbl:e.b.length≤1000000000:=by
   rw[v1.b];have:=agL agO.o (x:=l[j]) (by rw[CH.o];exact aY YX);omega
  obtain⟨b,bA,bc,sz,d⟩:=e;have c0:=hcell 0 (by omega) _ rfl;have c1:=hcell 1 (by omega) _ rfl;have c2:=hcell 2 (by omega) _ rfl;have c3:=hcell 3 (by omega) _ rfl;have c4:=hcell 4 (by omega) _ rfl;have c5:=hcell 5 (by omega) _ rfl;have c6:=hcell 6 (by omega) _ rfl;dsimp only at c0 c1 c2 c3 c4 c5 c6 HB YY hbl;simp only[fF] at c0;have yE:(0:Int)≤(j:Int):=by omega
  have DD:(j:Int)<(es.length:Int):=by omega
  have xz:=aa hbl;rw[hjo];clear hcell v1 hb hgg hnc hcm hcs ht hbase zj he hjo;go_wp2_with fail;clear c0 c1 c2 c3 c4 c5 c6;have bV:=aa ((ah wr).alloc (.cells (iO.cells ⟨b,bA,bc,sz,d⟩) 115));refine(agJ b bA bc _ (YY.o.grow bV.o) xz.o).mono ?_;rintro e w5 ⟨A6,c6,b6,rfl,Bf,yJ,hg⟩;have ma:=aa Bf;have bC:=aa (bV.o.trans hg);have FC:=aa yJ;have hjm:j≤1000000:=by have:=HNL.o;omega
  clear hg yJ Bf;have QQ:=aa (show wr.ownsRow w2.heap.size 23 1 (.slice A5 j QP) j (im os) from by have:=HOW.o;rwa [Hw.o] at this);go_wp2_with (at_builtin;refine agK w2.heap.size (.tmp 29) (.tmp 33) 72 23 1 24 _ zg G7 rfl rfl ((kr QQ.o bC.o).alloc _) rfl (XY ⟨A6,c6,b⟩ (aH w5 23 (Sb.cells ⟨A6,c6,b⟩))) (by omega) (by simp only[maxLen];omega) ((aO.o.trans bC.o).alloc _).size ?_;intro A8 c8 w8 cX dz);go_roundg gk';have ho:(os++[⟨A6,c6,b⟩]:List Sb).length=j+1:=by rw[bD,Hw.o];rfl
  have hcs:im (os++[⟨A6,c6,b⟩])=im os++(Sb.cells ⟨A6,c6,b⟩).toList:=by simp[im]
  refine⟨A8,c8,os++[⟨A6,c6,b⟩],by omega,by omega,by rw[ho],by rw[ho];go_num,by rw[ho,hcs];exact cX,fun e he=>?_,?_,(aO.o.trans bC.o |>.alloc _).grown dz (fun k hk=>(bO QQ.o k hk).1)⟩
  ·have hk:Kept (fun q=>(Value.slice A5 j QP).ownBlock=some q) (w5.alloc (.cells (Sb.cells ⟨A6,c6,b⟩) 23)) w8:=Gr dz;have agQ:∃base,base≤w5.heap.size∧Row w5 base (.slice e.A e.b.length e.c) e.b.length e.b:=by
    rcases qV.1 he with h | h
    ·obtain⟨base,h1,h2⟩:=AQ.o e h;exact⟨base,a_ h1 bC.o.size,kr h2 bC.o⟩
    obtain rfl:=uP.1 h;exact⟨b6,ma.o,FC.o⟩
   obtain⟨base,h1,h2⟩:=agQ;have h3:=(show World.ownsRow w5 base 5 1 (.slice e.A e.b.length e.c) e.b.length (bw e.b) from h2).alloc (.cells (Sb.cells ⟨A6,c6,b⟩) 23);exact⟨base,a_ h1 (a_ ((ah w5).alloc _).size hk.size),gD h3 hk (fun g hg hS=>by
    rw[cE] at hS;exact Di ((kr QQ.o bC.o).alloc (.cells (Sb.cells ⟨A6,c6,b⟩) 23)) h3 (by decide) g hS hg)⟩
  rw[ho,lZ,Li.o,Hw.o,Cm,qX,bN YX,HB.o];rfl;omega
 have hjl:j=es.length:=by omega
 go_wp2_with fail;go_ret2;refine⟨HG2.o.trans aO.o,.inr ⟨nK.o,A5,QP,os,by first | rfl | (rw[Hw.o];rfl),?_,fun e he=>?_,?_⟩⟩
 ·exact dW jW (ku (S:=fun _=>False) HOW.o (fun _ _ h=>h))
 ·obtain⟨base,-,h2⟩:=AQ.o e he;exact dW (fun p u hp=>⟨hp.1,aS _,hp.2.2⟩) h2.reads.1
 rw[Li.o,pV (by rw[cY,Hw.o,hjl,lN.o];exact av _),CH.o]
end
section
open Go.RowKit
theorem YZ(xs ys:List Sb)(A B:Option Addr)(ca cb:Nat)(w:World)(ha:Reads (bE w 0 w.heap.size) 1 A xs.length (im xs))(hb:Reads (bE w 0 w.heap.size) 1 B ys.length (im ys))(Bx:∀e∈xs,ba w e.A e.b)(hib:∀e∈ys,ba w e.A e.b)(he:xs.map Sb.b=ys.map Sb.b)(hl:xs.length≤1000000) :
 Calls prog 32 #[.slice A xs.length ca,.slice B ys.length cb] w fun e w'=>e=.returned (.bool true)∧Grow w w':=by
 have hlen:xs.length=ys.length:=by have:=cT List.length he;simpa using this
 have jR:=aa (fun(j:Nat) (h1:j<xs.length) (h2:j<ys.length)=>show xs[j].b=ys[j].b from by
  have h:=cT (fun l=>l[j]?) he;simp only[qX,bN h1,bN h2,JG] at h;exact pd h)
 have HA:=aa ha;have HB:=aa hb;have agR:=aa Bx;have agS:=aa hib;have HLEN:=aa hlen;rw[← hlen];clear ha hb Bx hib he hlen;go_enter func32,ntmps32;have HL:=aa hl;clear hl;go_wp2_with fail;go_loopg [5] (xs.length+1) (fun gk i wr=>∃j:Nat,j≤xs.length∧gk+j=xs.length+1∧i=.int .i64 j∧Grow w wr);exact⟨0,aS _,rfl,rfl,ah _⟩;obtain⟨j,hj,iB,rfl,hgr⟩:=hrel;obtain⟨gk',rfl⟩:=bP gk (by omega);have aO:=aa hgr;have hl:=HL.o;clear hgr;by_cases hlt:j<xs.length
 ·have C0:j<ys.length:=by have:=HLEN.o;omega
  obtain⟨ga,oa,rfl,jo,ur⟩:=Sb.at_ HA.o hlt;obtain⟨gb,ob,rfl,hgb,hcb⟩:=Sb.at_ HB.o C0;have HE:=aa (jR.o j hlt C0);have Bx:=agR.o _ (aY hlt);have hib:=agS.o _ (aY C0);obtain⟨ea,Y0⟩:∃e,xs[j]=e:=⟨_,rfl⟩;obtain⟨eb,Hy⟩:∃e,ys[j]=e:=⟨_,rfl⟩;rw[Y0] at ur HE Bx;rw[Hy] at hcb HE hib;obtain⟨aA,ac,ab⟩:=ea;obtain⟨bA,bc,bb⟩:=eb;dsimp only at ur hcb HE Bx hib;obtain rfl:ab=bb:=HE.o;have HIA:=aa (zY Bx aO.o);have Lf:=aa (zY hib aO.o);have Bz:=aa (fun(W:World) (hg:Grow wr W)=>show W.cell? ⟨ga,oa+j,none⟩=some (.slice aA ab.length ac) from ((aO.o.trans hg).below.cell (p:=⟨ga,oa+j,none⟩) jo).trans ur)
  have qz:=aa (fun(W:World) (hg:Grow wr W)=>show W.cell? ⟨gb,ob+j,none⟩=some (.slice bA ab.length bc) from ((aO.o.trans hg).below.cell (p:=⟨gb,ob+j,none⟩) hgb).trans hcb);have yE:(0:Int)≤(j:Int):=by omega
  have DD:(j:Int)<(xs.length:Int):=by omega
  clear ur hcb Bx hib Y0 Hy;go_upto_region 6 with fail;refine dN ?_;refine dO (S:=fun w'=>w'.cell? ⟨ga,oa+j,none⟩=some (.slice aA ab.length ac)∧w'.cell? ⟨gb,ob+j,none⟩=some (.slice bA ab.length bc)∧ba w' aA ab∧ba w' bA ab) (by kernel_rfl) (⟨Bz.o _ (ah _).drew,qz.o _ (ah _).drew,HIA.o.grow (ah _).drew,Lf.o.grow (ah _).drew⟩) (fun hHeld=>?_);have az:=aa (show Grow wr wr.drew from (ah _).drew);generalize wr.drew=W0 at az hHeld ⊢;refine aK 0 ?_
  try simp only[ak]
  refine aK 1 ?_
  try simp only[ak]
  refine aK 2 ?_
  try simp only[ak]
  refine aj 3 (hy:=bj fun w ax=>by obtain⟨gg,-,-,-⟩:=ax;go_simp;try rfl) ?_;refine aj 4 (hy:=bj fun w ax=>by obtain⟨-,-,gg,-⟩:=ax;have hcs:=ly ac gg;go_simp;try rfl) ?_;refine aK 5 ?_
  try simp only[ak]
  refine aK 6 ?_
  try simp only[ak]
  refine aK 7 ?_
  try simp only[ak]
  refine aj 8 (hy:=bj fun w ax=>by obtain⟨-,gg,-,-⟩:=ax;go_simp;try rfl) ?_;refine aj 9 (hy:=bj fun w ax=>by obtain⟨-,-,-,gg⟩:=ax;have hcs:=ly bc gg;go_simp;try rfl) ?_;refine aK 10 ?_
  try simp only[ak]
  refine cz ?_;clear hHeld;go_wp2_with fail;go_roundg gk';exact⟨j+1,by omega,by omega,by go_num,aO.o.trans az.o⟩;omega
 go_wp2_with fail;go_ret;exact⟨rfl,aO.o⟩
end
section
open Go.RowKit
theorem agT(W:World):(Instr.typeAssert .nilIface 20 29 true).run prog W=.ok (.tuple #[.int .i64 0,.bool false]) W:=by kernel_rfl
theorem agU(sb ob rb:Nat)(w:World) :
 CallsD prog 41 #[.pointer (some ⟨sb,0,none⟩),.pointer (some ⟨ob,0,none⟩),.pointer (some ⟨rb,0,none⟩)] .returning w fun r u' w' =>
  r=.returned (.tuple #[])∧u'=.returning∧w'=w:=by
 have hta:=agT;refine callsD_of_wpS func41 rfl fun c₀ cs hu=>?_
 apply wpS_seq;apply wpS_region;simp[wpOpsS,go_sem,recoverD,hu,ntmps41,Exit.thenS];simp only[Array.replicate,List.replicate,Array.setIfInBounds];refine wpS_of_wp ?_;go_wp2_with fail
 cases c₀
 simp_all [bodyPostS,results,results41,go_sem]
end
section
open Go.RowKit
theorem agV(N B mb cap:Nat)(A:Option Addr)(es:List Cc)(st:List Co)(q:Rq)(ck cl ch cx:Cv)(w:World)(h:fO w B mb A cap es st q ck cl ch cx)(hok:ed N st)(hN:N≤1000000)(hT:eo w)(C8:kO w)(zk:q.doc.count≤20000)(Fk:q.doc.fit)(Bb:cQ (bh st) q.aD=true)(hpk:(bt q.doc).2=0)(hpi:(bH st q.aD).aq=[])(lS:(bH st q.aD).ag=[]) :
 Calls prog 81 #[.pointer (some ⟨mb,0,none⟩)] w (qH w B mb (pM st q)):=by
 have hs:st.length≤140737488355328:=fO.short hok;have HM:=aa h;have cJ:=aa hok;have hf:=Bb;have HPK:=aa hpk;have HPI:=aa hpi;have agW:=aa lS;clear Bb hpk hpi lS;obtain⟨gb,hA,hgb,hgl,hne⟩:=h.gb hf;obtain⟨⟨nm,dA,dn,dc,xA,xn,xc⟩,he,aW,hcell⟩:=h.co hf hA;obtain⟨c,hc⟩:∃c,bH st q.aD=c:=⟨_,rfl⟩;have hmem:=(nJ hf).2.1;have hlt:=(nJ hf).2.2.2;have y7:bX (bh st) q.aD<es.length:=by rw[h.el];exact hlt
 rw[hc] at aW hmem;have Lu:=hok.co c hmem;have hnd:=Lu.nd;have hnx:=Lu.nx;have HC:=aa (ae1 h hs hf hA);have HF:=aa hf;have sw:=aa hgb;have cj:=aa hne;have sj:=aa hgl;have QR:=aa hA;have Y1:=aa he;have zl:=aa aW;have Lv:=aa Lu;have QS:=aa hcell;have fP:=aa hc;obtain⟨P,hP⟩:∃P,bX (bh st) q.aD=P:=⟨_,rfl⟩;have HP:=aa hP;rw[hP] at HC Y1 QS hlt y7;have sx:=aa hlt;have Bz:=aa (fun(w1:World) (hg:Grow w w1)=>show w1.cell? ⟨gb,P*3+1,none⟩=some (.slice dA c.ag.length dc)∧w1.cell? ⟨gb,P*3+2,none⟩=some (.slice xA c.aq.length xc) from
  ⟨(hg.below.cell (p:=⟨gb,P*3+1,none⟩) hgl).trans ((QS.o 1 (.slice dA dn dc) rfl).trans (by rw[show dn=c.ag.length from aW.dn])),(hg.below.cell (p:=⟨gb,P*3+2,none⟩) hgl).trans ((QS.o 2 (.slice xA xn xc) rfl).trans (by rw[show xn=c.aq.length from aW.xn]))⟩)
 have HKEY:=aa (fun(w1:World) (hg:Grow w w1)=>J7 q.doc cx w1 zk (hT.grow hg) ((h.doc.nj h.le).grow hg));have Lx:=aa (show c.aq=[] from by have:=HPI.o;rwa [fP.o] at this);have HED:=aa (show c.ag=[] from by have:=agW.o;rwa [fP.o] at this);have HT:=aa hT;have dM:=aa zk;have Fl:=aa Fk;clear h hok hf hA he aW hcell hc Lu hmem hP hlt y7 hT C8 zk Fk;go_enter func81,ntmps81;go_wp2_with fail;refine HC.o.mono ?_;rintro e w1 ⟨rfl,hg1⟩;have aN:=aa hg1;have iC:=aa (HM.o.grow hg1);have hm:=iC.o.blk.cell;clear hg1;obtain⟨kb,ke,QT⟩:∃a b,bt q.doc=(a,b):=⟨_,_,rfl⟩;have mV:=aa QT;have QU:=HKEY.o w1 aN.o;rw[QT] at QU;have HKY:=aa QU;clear QT QU;go_wp2_with fail;refine HKY.o.mono ?_;rintro e w2 ⟨C4,K2,kc2,rfl,hb2,hr2,hg2⟩;have bI:=aa hr2
 have HG2:=aa (aN.o.trans hg2);clear hr2 hb2 hg2 hm;by_cases fG:ke=0
 case neg=>exact absurd (by have:=HPK.o;rw[mV.o] at this;exact this) fG
 subst fG;have ur:=(Bz.o w2 HG2.o).2;go_wp2_with fail;refine(abt w2).mono ?_;rintro e w3 ⟨rfl,rfl⟩;go_wp2_with fail;clear ur;go_loopg [35] (c.aq.length+1) (fun gk i wr=>∃j:Nat,j≤c.aq.length∧gk+j=c.aq.length+1∧i=.int .i64 j∧(∀i (hi:i<c.aq.length),i<j→(cH c.aq[i].path q.doc).2.2=0)∧Grow w2 wr);exact⟨0,aS _,rfl,rfl,fun _ _ h=>absurd h (by omega),ah w2⟩;obtain⟨j,hj,hg,rfl,hz,hgr⟩:=hrel;obtain⟨gk',rfl⟩:=bP gk (by omega);have HZ:=aa hz;have aO:=aa hgr;have cm:=aa (HG2.o.trans hgr);clear hz hgr;by_cases hlt:j<c.aq.length
 ·exact absurd hlt (by rw[Lx.o];simp)
 have QV:j=c.aq.length:=by omega
 subst QV;have Lq:=aa (afW (d:=q.doc) fun i hi=>HZ.o i hi hi);have Ec:=aa (HM.o.grow cm.o);have ur:=(Bz.o wr cm.o).1;have Y2:=aa (adu c.ag gb (P*3) dc dA kb K2 kc2 wr (fun d hd=>(Lv.o.ag d hd).count) (by omega) (HT.o.grow cm.o) ur (cU sj.o cm.o.size) ((zl.o.grow HM.o.le cm.o).KC Ec.o.le (by omega)) ((bI.o.reads.1).grow aO.o));have PC:=aa (show q.doc.nC from JY (by
  have h0:=mV.o;unfold bt at h0;split at h0
  ·rename_i hbad;exact absurd (zU.1 h0).2 hbad
  rename_i agX;simpa using agX))
 have Y3:=aa (show iM c.ag kb≤c.ag.length from VB c.ag kb);obtain⟨TH,QW⟩:∃b,jg c.ag kb=b:=⟨_,rfl⟩;obtain⟨D,hD⟩:∃b,iM c.ag kb=b:=⟨_,rfl⟩;have QX:=Y2.o;rw[show jB (vA c.ag kb) c.ag.length=TH from QW,show jS (vA c.ag kb) c.ag.length=D from hD] at QX;have bS:=aa QX;rw[hD] at Y3;have D6:=aa QW;have Ed:=aa hD;clear QX QW hD ur Y2;go_wp2_with fail;refine bS.o.mono ?_;rintro e w6 ⟨rfl,bU⟩;have bR:=aa (cm.o.trans bU);have QY:=aa (HM.o.grow bR.o);clear bU;have G6:=QY.o.blk.cell;have ur:=(Bz.o w6 bR.o).1;have agY:=aa (fun(w1:World) (hg:Grow w w1)=>afX (zl.o.grow HM.o.le hg) (a_ HM.o.le hg.size) (by omega))
 cases TH with
 | false =>
  go_wp2_with fail;refine(Af 6 w6).mono ?_;rintro e w7 ⟨rfl,rfl⟩;go_wp2_with fail;refine(agY.o w6 bR.o).mono ?_;rintro e w7 ⟨A7,c7,cs,rfl,fI,Y4,bW⟩;have aZ:=aa (bR.o.trans bW);have Hz:=aa (QY.o.grow bW);have hm7:=Hz.o.blk.cell;have tW:=aa fI;have Y5:=aa Y4;have agZ:=aa (JT q.doc PC.o w7 cx ((Hz.o.doc.nj Hz.o.le)));have ag0:=aa (show w6.heap.size≤w7.heap.size from bW.size);clear fI Y4 bW G6 ur;go_wp2_with fail;refine agZ.o.mono ?_;rintro e w8 ⟨cv,rfl,hin,cO⟩;have AQ:=aa hin;have QZ:=aa cO;have bV:=aa ((aZ.o.trans cO).alloc (.cells cv.cells 27));have ag1:=aa (kr tW.o (cO.alloc (.cells cv.cells 27)));clear hin cO hm7;go_wp2_with fail
  refine(ag2 w6.heap.size c.ag.length D c7 w8.heap.size A7 (fD cs) cv.cells.toList _ 27 (Dh cs) (by simp[Value.oneCell']) ag1.o Y3.o (by omega) rfl (aH w8 27 cv.cells) (by
   intro e;have h1:=(bO tW.o w8.heap.size e).2;have h2:=QZ.o.size;omega) (by simp;have:=ag0.o;have:=QZ.o.size;omega)).mono ?_
  rintro ee w9 ⟨A9,c9,rfl,kC,Q0,Q3⟩;have eN:=aa (bV.o.grown Q0 (fun k hk=>by have h1:=(bO tW.o k (by rw[cE] at hk ⊢;exact hk)).1;have h2:=bR.o.size;omega));have Y6:=aa (HM.o.grow eN.o);have ag3:=(Bz.o w9 eN.o).2;have hnew:=afY (w9:=w9) (A7:=A7) (A9:=A9) (mb:=mb) (gb:=gb) Y5.o AQ.o Hz.o.le QZ.o (((jh (S:=fun k=>bM A7=some k) ((ah w8).alloc (.cells cv.cells 27)))).trans ((Gr Q0).mono (fun k hk=>by rw[cE] at hk;exact hk)))
   (fun g hg=>by have h1:=bO tW.o g (by rw[cE];exact hg);exact⟨a_ QY.o.le h1.1,h1.2⟩)
   (fun g hg=>by rw[cE,cE] at Q3;rcases Q3 with h | h;exact .inl (by rw[← h];exact hg);exact .inr (by rw[h] at hg;injection hg with hg;simp at hg;omega)) HM.o.lo sw.o Hz.o.lt (cU sj.o aZ.o.size)
  have hcl:cs.length=c.ag.length:=Y5.o.1.symm;have HV9:=aa (show VR (Sp mb gb) w9 w6.heap.size A9 c9 (cK cs D cv) (cK c.ag D q.doc) from ⟨by
   rw[tQ,hcl,show ((cK cs D cv).map vF).flatten=(fD cs).take (D*5)++cv.cells.toList++(fD cs).drop (D*5) from (Vp _ 5 (fun _=>rfl) cs D cv).symm];exact kC,⟨by rw[tQ,tQ,hcl],fun j a b ha hb=>by
    have ht:=(hnew.1.ins D hnew.2);exact ht.2 j b a hb ha⟩⟩)
  have Bc:=aa (show fN c.ag q.doc=cK c.ag D q.doc by unfold fN;rw[mV.o,ai (by rw[D6.o];decide),Ed.o]);clear kC Q0 Q3 hnew hcl;go_wp2_with fail;clear ag3;have lS:=Bc.o;have hlen:(fN c.ag q.doc).length=(c.ag.length+1):=by rw[lS];exact tQ
  have Ee:=HV9.o;rw[← lS] at Ee;have HVP:=aa Ee;have kV:eu q.doc:=⟨by rw[mV.o],Fl.o,dM.o⟩;have vG:∀d∈fN c.ag q.doc,eu d:=fun d hm=>by
   rcases Dr hm with rfl | hm
   ·exact kV
   exact Lv.o.ag d hm
  have Y7:∀x∈c.aq,fW x.path (fN c.ag q.doc)=0:=fun x hx=>nI.2 fun d hm=>by
   rcases Dr hm with rfl | hm
   ·exact Dq.1 Lq.o x hx
   exact nI.1 (Lv.o.Dn x hx) d hm
  have Y8:∀g,bM A9=some g→¬ Sp mb gb g:=fun g hg hs=>by
   obtain⟨cur,Bg,-⟩:=Y6.o.GM QR.o (by have:=sx.o;omega);rcases hs with rfl | rfl
   ·exact fH Ee.row Y6.o.blk (by decide) hg
   exact fH Ee.row Bg (by decide) hg
  have HLEN:=aa hlen;clear lS hlen Ee kV vG Y7 Y8;go_loopg [100] (c.aq.length+1) (fun gk i wr=>∃j:Nat,j≤c.aq.length∧gk+j=c.aq.length+1∧i=.int .i64 j∧(∀i (hi:i<c.aq.length),i<j→c.aq[i].uniq=true→rJ (jr c.aq[i].path (fN c.ag q.doc))=false)∧Grow w9 wr);exact⟨0,aS _,rfl,rfl,fun _ _ h=>absurd h (by omega),ah w9⟩;obtain⟨j,hj,hg,rfl,hz,hgr⟩:=hrel;obtain⟨gk',rfl⟩:=bP gk (by omega);have yM:=aa hz;have ag4:=aa hgr;have LA:=aa (eN.o.trans hgr);clear hz hgr;by_cases hlt:j<c.aq.length
  ·exact absurd hlt (by rw[Lx.o];simp)
  have QV:j=c.aq.length:=by omega
  subst QV;have js:=aa (show yQ (fN c.ag q.doc) c.aq=false from Ky.2 fun x hx hu=>by obtain⟨i,hi,rfl⟩:=kH hx;exact yM.o i hi hi hu);have H6:=aa (HM.o.grow LA.o);obtain⟨cur,Bg,-⟩:=H6.o.GM QR.o (by have:=sx.o;omega);have bQ:=Bg.frozen;have hcd:=(Bz.o wr LA.o).1;have vV:gb≠mb:=cj.o;have aQ:=aa (H6.o.blk.far (p:=⟨gb,P*3+1,none⟩) (fun e=>vV e.symm) (.slice A9 (c.ag.length+1) c9));have tZ:=aQ.o.frozen;have hbc:=aQ.o.cell;clear Bg;go_wp2_with fail;go_end0;have HB:=aQ.o;have Fq:=eK (fun k=>k=mb) (wr.setCell ⟨gb,P*3+1,none⟩ (.slice A9 (c.ag.length+1) c9))
  obtain⟨hkk,hst⟩:=afZ H6.o QR.o Y1.o (zl.o.grow HM.o.le LA.o) sx.o vV (cJ.o.dl hN) (by have:=HLEN.o;omega) (HVP.o.grow pN ag4.o) HLEN.o Fq;refine qH.ok (st':=st.set P ⟨c.name,fN c.ag q.doc,c.aq⟩) (n:=0) (ag:=[]) ((LA.o.below.mono HM.o.le).trans (hkk.below H6.o.le ?_)) ?_ (cU H6.o.lt hkk.size) (A:=A) (cap:=cap) (dA:=none) (dc:=0) ((HB.cell 0).trans (by rw[j5];rfl)) hst (HB.cell 28) (HB.cell 29) (InL.nil _)
  ·rintro k (rfl | rfl | hk)
   ·exact HM.o.lo
   ·exact sw.o
   cases hk
  unfold pM;rw[ai (by rw[HF.o];decide),mV.o,ai (by simp),fP.o,Lq.o,ai (by simp),ai (by rw[D6.o];simp),js.o,ai (by decide),HP.o,D6.o];rfl
 | true=>exact absurd (yS D6.o) (by rw[HED.o];simp)
end
section
open Go.RowKit
def BA(st:List Co)(q:Rq):Prop:=q.bp=1∨q.bp=3∧cQ (bh st) q.aD=true∧(bt q.doc).2=0∧(bH st q.aD).aq=[]∧(bH st q.aD).ag=[]
theorem BA.num{st:List Co}{q:Rq}(h:BA st q):1≤q.bp∧q.bp≤10:=by
 rcases h with h | ⟨h,-⟩<;>omega
theorem ag5(N B mb cap:Nat)(A:Option Addr)(es:List Cc)(st:List Co)(q:Rq)(ck cl ch cx:Cv)(w:World)(h:fO w B mb A cap es st q ck cl ch cx)(hok:ed N st)(hN:N≤1000000)(hR:Yu q w B)(hd:BA st q) :
 Calls prog (jX q.bp) #[.pointer (some ⟨mb,0,none⟩)] w (qH w B mb (kp st q)):=by
 rcases hd with e | ⟨e,h1,h2,h3,h4⟩
 ·rw[show jX q.bp=79 from by rw[e];rfl,show kp st q=mN st q from by unfold kp;rw[e];rfl];exact afI N B mb cap A es st q ck cl ch cx w h hok hN hR.tabs
 rw[show jX q.bp=81 from by rw[e];rfl,show kp st q=pM st q from by unfold kp;rw[e];rfl];exact agV N B mb cap A es st q ck cl ch cx w h hok hN hR.tabs hR.agc hR.doc hR.fit h1 h2 h3 h4
end
end Go.Proofs.YtndjopkdbdcmdaaGreatDoor
