/- Part 17 of the proof of pfinds_card. -/
import Derived.Test.YtndjopkdbdcmdaaGreatDoorPfi16
set_option linter.unusedVariables false
set_option linter.unusedSimpArgs false
set_option maxRecDepth 100000
set_option maxHeartbeats 12800000
open Go.Proofs.Tryz
namespace Go.Proofs.YtndjopkdbdcmdaaGreatDoor
section
open Go.RowKit
structure BS (q:Rq):Prop where
 aA:q.aA.size≤140737488355328
 index:q.index.size≤140737488355328
 key:q.key.bytes.length≤140737488355328
 low:q.low.bytes.length≤140737488355328
 high:q.high.bytes.length≤140737488355328
 doc:q.doc.bytes.length≤140737488355328
structure YR (st:List Co) (q:Rq):Prop where
 bj:1≤q.bj∧q.bj≤10
 make:q.bj=1→V.name q.aA=true∧cK (bh st) q.aA=false∧¬ 16≤st.length
 co:q.bj≠1→cK (bh st) q.aA=true
 put:q.bj=3∨q.bj=4→(bM q.doc).2=0∧uq q.doc (bD st q.aA).aq=0
 key:q.bj=5∨q.bj=6→(cI q.key).2=0
 ix:q.bj=7→V.name q.index=true∧¬ 200<q.path.size∧cK (gj (bD st q.aA)) q.index=false∧¬ 8≤(bD st q.aA).aq.length
 un:q.bj=8→cK (gj (bD st q.aA)) q.index=true
 fi:q.bj=9→(q.index≠⟨#[]⟩→cK (gj (bD st q.aA)) q.index=true)∧(q.low.k=0∨q.low.good=0)∧(q.high.k=0∨q.high.good=0)
def fK(w:World)(st:List Co)(q:Rq)(e:Ending)(w':World):Prop:=∃x,e=.returned (.int .i64 x)∧(x=0→YR st q)∧Grow w w'
theorem fK.err{w w':World}{st:List Co}{q:Rq}{x:Int}(h:x≠0)(hg:Grow w w'):fK w st q (.returned (.int .i64 x)) w':=⟨x,rfl,fun k=>absurd k h,hg⟩
theorem fK.ok{w w':World}{st:List Co}{q:Rq}(h:YR st q)(hg:Grow w w'):fK w st q (.returned (.int .i64 0)) w':=⟨0,rfl,fun _=>h,hg⟩
theorem yc{names:List ByteArray}{s:ByteArray}(h:cK names s=true):sy names s=(bV names s:Int):=by unfold sy;rw[aw h]
theorem BV{names:List ByteArray}{s:ByteArray}(h:cK names s=false):sy names s=-1:=by unfold sy;rw[ai (by rw[h];decide)]
theorem Ex{st:List Co}{s:ByteArray}(h:cK (bh st) s=true):∃hlt:bV (bh st) s<st.length,st[bV (bh st) s]=bD st s:=by
 obtain⟨h1,-,-,h4⟩:=lU h;refine⟨h4,?_⟩;rw[cJ h4] at h1;injection h1
theorem afU(N cap:Nat)(A:Option Addr)(st:List Co)(co ix pa:ByteArray)(un:Bool)(kv lv hv dv:V)(n:Int)(ck cl ch cx:Cv)(w:World)(hst:dW w A cap st)(hok:dX N st)(hsz:co.size≤140737488355328) :
 Calls prog 67 #[.agg #[.slice A st.length cap],.agg (dm 1 co ix pa un ck cl ch cx n)] w (fK w st ⟨1,co,ix,pa,un,kv,lv,hv,dv,n⟩):=by
 have HST:=aa hst;have cP:=aa hok;have hn:=hok.n;have HG:=aa (((ah w).alloc (.cells #[.slice A st.length cap] 44)).alloc (.cells (dm 1 co ix pa un ck cl ch cx n) 33));have az:=aa ((aD w 44 #[.slice A st.length cap]).alloc (.cells (dm 1 co ix pa un ck cl ch cx n) 33));have au:=aa (cX (w:=w.alloc (.cells #[.slice A st.length cap] 44)) (g:=w.heap.size+1) (by simp) 33 (dm 1 co ix pa un ck cl ch cx n));have HC:=aa (fun(W:World) (hg:Grow w W)=>Lq st co A cap W (hst.grow hg) hok.nz (by omega));have wK:=aa (fun W=>Rg co W hsz);clear hst hok hsz;go_enter func67,ntmps67;go_upto_region 1 with fail;generalize (w.alloc (.cells #[.slice A st.length cap] 44)).alloc (.cells (dm 1 co ix pa un ck cl ch cx n) 33)=w3 at HG az au ⊢;have q0:_=some (Value.int .i64 1):=au.o.cell 0
 have q1:_=some (Value.string co):=au.o.cell 1;go_wp2_with fail;clear q0 q1;refine(wK.o _).mono ?_;rintro e w4 ⟨rfl,hg⟩;replace HG:=aa (HG.o.trans hg);replace az:=aa (az.o.grow hg);replace au:=aa (au.o.grow hg);clear hg;have q0:_=some (Value.int .i64 1):=au.o.cell 0;have q1:_=some (Value.string co):=au.o.cell 1;have b0:=az.o.cell 0;obtain⟨nb,hnb⟩:∃b,V.name co=b:=⟨_,rfl⟩;rw[hnb];have kO:=aa hnb;clear hnb
 cases nb with
 | false =>
  go_wp2_with fail;go_ret;exact fK.err (by decide) HG.o
 | true =>
  obtain⟨F,hF⟩:∃b,cK (bh st) co=b:=⟨_,rfl⟩;have HF:=aa hF
  cases F with
  | true =>
   rw[yc hF] at HC;obtain⟨P,hP⟩:∃p,bV (bh st) co=p:=⟨_,rfl⟩;rw[hP] at HC;have hp0:(0:Int)≤(P:Int):=by omega
   clear hP hF;go_wp2_with fail;clear q0 q1 b0;refine(HC.o _ HG.o).mono ?_;rintro e w5 ⟨rfl,hg⟩;replace HG:=aa (HG.o.trans hg);replace az:=aa (az.o.grow hg);replace au:=aa (au.o.grow hg);clear hg;have q0:_=some (Value.int .i64 1):=au.o.cell 0;go_wp2_with fail;go_ret;exact fK.err (by decide) HG.o
  | false =>
   rw[BV hF] at HC;clear hF;go_wp2_with fail;clear q0 q1 b0;refine(HC.o _ HG.o).mono ?_;rintro e w5 ⟨rfl,hg⟩;replace HG:=aa (HG.o.trans hg);replace az:=aa (az.o.grow hg);replace au:=aa (au.o.grow hg);clear hg;have q0:_=some (Value.int .i64 1):=au.o.cell 0;have b0:=az.o.cell 0;by_cases LZ:(16:Int)≤(st.length:Int)
   ·go_wp2_with fail;go_ret;exact fK.err (by decide) HG.o
   go_wp2_with fail;go_ret;exact fK.ok ⟨⟨by dsimp only;omega,by dsimp only;omega⟩,(fun _=>⟨kO.o,HF.o,fun h=>by omega⟩),(fun h=>by dsimp only at h;omega),(fun h=>by dsimp only at h;omega),(fun h=>by dsimp only at h;omega),(fun h=>by dsimp only at h;omega),(fun h=>by dsimp only at h;omega),(fun h=>by dsimp only at h;omega)⟩ HG.o
theorem afV(N cap:Nat)(A:Option Addr)(st:List Co)(co ix pa:ByteArray)(un:Bool)(kv lv hv dv:V)(n:Int)(ck cl ch cx:Cv)(w:World)(hst:dW w A cap st)(hok:dX N st)(hsz:ix.size≤140737488355328) :
 Calls prog 67 #[.agg #[.slice A st.length cap],.agg (dm 7 co ix pa un ck cl ch cx n)] w (fK w st ⟨7,co,ix,pa,un,kv,lv,hv,dv,n⟩):=by
 have HST:=aa hst;have cP:=aa hok;have hn:=hok.n;have HG:=aa (((ah w).alloc (.cells #[.slice A st.length cap] 44)).alloc (.cells (dm 7 co ix pa un ck cl ch cx n) 33));have az:=aa ((aD w 44 #[.slice A st.length cap]).alloc (.cells (dm 7 co ix pa un ck cl ch cx n) 33));have au:=aa (cX (w:=w.alloc (.cells #[.slice A st.length cap] 44)) (g:=w.heap.size+1) (by simp) 33 (dm 7 co ix pa un ck cl ch cx n));have HC:=aa (fun(W:World) (hg:Grow w W)=>Lq st co A cap W (hst.grow hg) hok.nz (by omega));have wK:=aa (fun W=>Rg ix W hsz);clear hst hok hsz;go_enter func67,ntmps67;go_upto_region 1 with fail;generalize (w.alloc (.cells #[.slice A st.length cap] 44)).alloc (.cells (dm 7 co ix pa un ck cl ch cx n) 33)=w3 at HG az au ⊢;have q0:_=some (Value.int .i64 7):=au.o.cell 0
 have q2:_=some (Value.string ix):=au.o.cell 2;go_wp2_with fail;clear q0 q2;refine(wK.o _).mono ?_;rintro e w4 ⟨rfl,hg⟩;replace HG:=aa (HG.o.trans hg);replace az:=aa (az.o.grow hg);replace au:=aa (au.o.grow hg);clear hg;have q0:_=some (Value.int .i64 7):=au.o.cell 0;have q3:_=some (Value.string pa):=au.o.cell 3;have b0:=az.o.cell 0;have q1:_=some (Value.string co):=au.o.cell 1;obtain⟨nb,hnb⟩:∃b,V.name ix=b:=⟨_,rfl⟩;rw[hnb];have kO:=aa hnb;clear hnb
 cases nb with
 | false =>
  go_wp2_with fail;go_ret;exact fK.err (by decide) HG.o
 | true =>
  by_cases hpa:(200:Int)<(pa.size:Int)
  ·go_wp2_with fail;go_ret;exact fK.err (by decide) HG.o
  obtain⟨F,hF⟩:∃b,cK (bh st) co=b:=⟨_,rfl⟩
  cases F with
  | false =>
   rw[BV hF] at HC;clear hF;go_wp2_with fail;clear q0 q1 q3;refine(HC.o _ HG.o).mono ?_;rintro e w5 ⟨rfl,hg⟩;replace HG:=aa (HG.o.trans hg);replace az:=aa (az.o.grow hg);replace au:=aa (au.o.grow hg);clear hg;have q0:_=some (Value.int .i64 7):=au.o.cell 0;go_wp2_with fail;go_ret;exact fK.err (by decide) HG.o
  | true =>
   have HF:=aa hF;rw[yc hF] at HC;obtain⟨P,hlt,hget,hP⟩:∃P,∃h:P<st.length,st[P]=bD st co∧bV (bh st) co=P:=⟨_,(Ex hF).1,(Ex hF).2,rfl⟩;obtain⟨c,hc⟩:∃c,bD st co=c:=⟨_,rfl⟩;have hmem:=(lU hF).2.1;rw[hc] at hmem;have dI:=aa (cP.o.co c hmem);have iJ:=aa hc;rw[hP] at HC;rw[hc] at hget;clear hP hc hmem hF;go_wp2_with fail;clear q0 q1 q3;refine(HC.o _ HG.o).mono ?_;rintro e w5 ⟨rfl,hg⟩;replace HG:=aa (HG.o.trans hg);replace az:=aa (az.o.grow hg);replace au:=aa (au.o.grow hg);clear hg;obtain⟨bk,o,e,rfl,hbk,aR,hcell⟩:=(HST.o.grow HG.o).sx P hlt;rw[hget] at aR;obtain⟨nm,dA,dn,dc,xA,xn,xc⟩:=e;obtain⟨h1,h2,h3,h4,h5,h6⟩:=aR;dsimp only at h1 h2 h3 h4 h5 h6;subst h1 h2 h3;have c0:=hcell 0 _ rfl (by omega);have c1:=hcell 1 _ rfl (by omega)
   have c2:=hcell 2 _ rfl (by omega);simp only[gf] at c0;have eY:=aa (show kK w5 xA c.aq from h6);have b0:=az.o.cell 0;have q0:_=some (Value.int .i64 7):=au.o.cell 0;have hp0:(0:Int)≤(P:Int):=by omega
   have hp1:(P:Int)<(st.length:Int):=by omega
   clear hcell h4 h5 h6 hget;go_upto_region 17 with fail;replace HG:=aa (HG.o.alloc (.cells #[.string c.name,.slice dA c.ag.length dc,.slice xA c.aq.length xc] 48));replace az:=aa (az.o.alloc (.cells #[.string c.name,.slice dA c.ag.length dc,.slice xA c.aq.length xc] 48));replace au:=aa (au.o.alloc (.cells #[.string c.name,.slice dA c.ag.length dc,.slice xA c.aq.length xc] 48));have aS:=aa (aD w5 48 #[.string c.name,.slice dA c.ag.length dc,.slice xA c.aq.length xc]);replace eY:=aa (eY.o.grow ((ah w5).alloc (.cells #[.string c.name,.slice dA c.ag.length dc,.slice xA c.aq.length xc] 48)));obtain⟨gc,dQ⟩:∃g,w5.heap.size=g:=⟨_,rfl⟩;rw[dQ] at aS ⊢;generalize w5.alloc (.cells #[.string c.name,.slice dA c.ag.length dc,.slice xA c.aq.length xc] 48)=w6 at HG az au aS eY ⊢;clear c0 c1 c2 b0 q0 dQ
   have q0:_=some (Value.int .i64 7):=au.o.cell 0;have HX:=aa (fun(W:World) (hg:Grow w6 W)=>G7 c.name dA c.ag.length dc c.aq ix xA xc W (eY.o.grow hg) dI.o.aq (by have:=dI.o.nx;omega));have hbc:=aS.o.cell;have q2:_=some (Value.string ix):=au.o.cell 2;obtain⟨FF,gL⟩:∃b,cK (c.aq.map Ix.name) ix=b:=⟨_,rfl⟩
   cases FF with
   | true =>
    rw[yc gL] at HX;obtain⟨I,hI⟩:∃p,bV (c.aq.map Ix.name) ix=p:=⟨_,rfl⟩;rw[hI] at HX;have hi0:(0:Int)≤(I:Int):=by omega
    have jt:=aa gL;clear gL;go_wp2_with fail;clear q0 q2;clear hbc;refine(HX.o _ (ah _)).mono ?_;rintro e w7 ⟨rfl,hg⟩;replace HG:=aa (HG.o.trans hg);replace az:=aa (az.o.grow hg);replace au:=aa (au.o.grow hg);replace aS:=aa (aS.o.grow hg);clear hg;go_wp2_with fail;go_ret;exact fK.err (by decide) HG.o
   | false =>
    rw[BV gL] at HX;have jt:=aa gL;clear gL;go_wp2_with fail;clear q0 q2;clear hbc;refine(HX.o _ (ah _)).mono ?_;rintro e w7 ⟨rfl,hg⟩;replace HG:=aa (HG.o.trans hg);replace az:=aa (az.o.grow hg);replace au:=aa (au.o.grow hg);replace aS:=aa (aS.o.grow hg);clear hg;have hbc:=aS.o.cell;by_cases h8:(8:Int)≤(c.aq.length:Int)
    ·go_wp2_with fail;go_ret;exact fK.err (by decide) HG.o
    go_wp2_with fail;go_ret;exact fK.ok ⟨⟨by dsimp only;omega,by dsimp only;omega⟩,(fun h=>by dsimp only at h;omega),(fun _=>HF.o),(fun h=>by dsimp only at h;omega),(fun h=>by dsimp only at h;omega),(fun _=>⟨kO.o,fun h=>by dsimp only at h;omega,by dsimp only;rw[iJ.o];exact jt.o,fun h=>by dsimp only at h;rw[iJ.o] at h;omega⟩),(fun h=>by dsimp only at h;omega),(fun h=>by dsimp only at h;omega)⟩ HG.o
theorem afW(N cap:Nat)(A:Option Addr)(st:List Co)(co ix pa:ByteArray)(un:Bool)(kv lv hv dv:V)(n:Int)(ck cl ch cx:Cv)(w:World)(hst:dW w A cap st)(hok:dX N st)(d:Int)(hd:d≠1∧d≠7)(hR:uU ⟨d,co,ix,pa,un,kv,lv,hv,dv,n⟩)(hB:BS ⟨d,co,ix,pa,un,kv,lv,hv,dv,n⟩)(hk:In w kv ck)(hl:In w lv cl)(hh:In w hv ch)(hx:In w dv cx) :
 Calls prog 67 #[.agg #[.slice A st.length cap],.agg (dm d co ix pa un ck cl ch cx n)] w (fK w st ⟨d,co,ix,pa,un,kv,lv,hv,dv,n⟩):=by
 have HST:=aa hst;have cP:=aa hok;have hn:=hok.n;have HG:=aa (((ah w).alloc (.cells #[.slice A st.length cap] 44)).alloc (.cells (dm d co ix pa un ck cl ch cx n) 33));have az:=aa ((aD w 44 #[.slice A st.length cap]).alloc (.cells (dm d co ix pa un ck cl ch cx n) 33));have au:=aa (cX (w:=w.alloc (.cells #[.slice A st.length cap] 44)) (g:=w.heap.size+1) (by simp) 33 (dm d co ix pa un ck cl ch cx n));have HC:=aa (fun(W:World) (hg:Grow w W)=>Lq st co A cap W (hst.grow hg) hok.nz (by omega));have HD:=aa hd;have YS:=aa (fun(W:World) (hg:Grow w W)=>Ig dv W cx hR.doc (fun _=>hB.doc) (hx.grow hg));have YT:=aa (fun(W:World) (hg:Grow w W)=>Ig kv W ck hR.key (fun _=>hB.key) (hk.grow hg))
 have L6:=aa (fun(W:World) (hg:Grow w W)=>Ig lv W cl hR.low (fun _=>hB.low) (hl.grow hg));have L8:=aa (fun(W:World) (hg:Grow w W)=>Ig hv W ch hR.high (fun _=>hB.high) (hh.grow hg));have HKEY:=aa (fun(W:World) (hg:Grow w W)=>QV dv cx W hR.doc (fun _=>hB.doc) (hx.grow hg));have pR:=aa (fun(W:World) (hg:Grow w W)=>Ie kv ck W (Er hR.key) (fun _=>hB.key) (hk.grow hg));have wM:=aa (fun(x:Ix) (W:World) (hp:x.path.size≤200) (hg:Grow w W)=>QY x dv cx W (by omega) hR.doc hR.fit (fun _=>hB.doc) (hx.grow hg));have ue:Hid (cl.k=lv.k):=aa (by obtain⟨k,n,b,l,f⟩:=lv;obtain⟨aB,aL,aF,cB,cL,cF,rfl,_⟩:=In.open hl;rfl);have Dm:Hid (ch.k=hv.k):=aa (by obtain⟨k,n,b,l,f⟩:=hv;obtain⟨aB,aL,aF,cB,cL,cF,rfl,_⟩:=In.open hh;rfl)
 have hd1:(d==1)=false:=by have:=hd.1;simpa using this
 have hd7:(d==7)=false:=by have:=hd.2;simpa using this
 clear hst hok hR hB hk hl hh hx hd;go_enter func67,ntmps67;go_upto_region 1 with fail;generalize (w.alloc (.cells #[.slice A st.length cap] 44)).alloc (.cells (dm d co ix pa un ck cl ch cx n) 33)=w3 at HG az au ⊢;have q0:_=some (Value.int .i64 d):=au.o.cell 0;have q1:_=some (Value.string co):=au.o.cell 1;have b0:=az.o.cell 0;by_cases hlo:d<1
 ·go_wp2_with fail;go_ret;exact fK.err (by decide) HG.o
 by_cases hhi:(10:Int)<d
 ·go_wp2_with fail;go_ret;exact fK.err (by decide) HG.o
 obtain⟨F,hF⟩:∃b,cK (bh st) co=b:=⟨_,rfl⟩
 cases F with
 | false =>
  rw[BV hF] at HC;clear hF;go_wp2_with fail;clear q0 q1;refine(HC.o _ HG.o).mono ?_;rintro e w5 ⟨rfl,hg⟩;replace HG:=aa (HG.o.trans hg);replace az:=aa (az.o.grow hg);replace au:=aa (au.o.grow hg);clear hg;have q0:_=some (Value.int .i64 d):=au.o.cell 0;go_wp2_with fail;go_ret;exact fK.err (by decide) HG.o
 | true =>
  have HF:=aa hF;rw[yc hF] at HC;obtain⟨P,hlt,hget,hP⟩:∃P,∃h:P<st.length,st[P]=bD st co∧bV (bh st) co=P:=⟨_,(Ex hF).1,(Ex hF).2,rfl⟩;obtain⟨c,hc⟩:∃c,bD st co=c:=⟨_,rfl⟩;have hmem:=(lU hF).2.1;rw[hc] at hmem;have dI:=aa (cP.o.co c hmem);have iJ:=aa hc;rw[hP] at HC;rw[hc] at hget;clear hP hc hmem hF;go_wp2_with fail;clear q0 q1;refine(HC.o _ HG.o).mono ?_;rintro e w5 ⟨rfl,hg⟩;replace HG:=aa (HG.o.trans hg);replace az:=aa (az.o.grow hg);replace au:=aa (au.o.grow hg);clear hg;obtain⟨bk,o,e,rfl,hbk,aR,hcell⟩:=(HST.o.grow HG.o).sx P hlt;rw[hget] at aR;obtain⟨nm,dA,dn,dc,xA,xn,xc⟩:=e;obtain⟨h1,h2,h3,h4,h5,h6⟩:=aR;dsimp only at h1 h2 h3 h4 h5 h6;subst h1 h2 h3;have c0:=hcell 0 _ rfl (by omega);have c1:=hcell 1 _ rfl (by omega)
  have c2:=hcell 2 _ rfl (by omega);simp only[gf] at c0;have eY:=aa (show kK w5 xA c.aq from h6);have b0:=az.o.cell 0;have q0:_=some (Value.int .i64 d):=au.o.cell 0;have hp0:(0:Int)≤(P:Int):=by omega
  have hp1:(P:Int)<(st.length:Int):=by omega
  clear hcell h4 h5 h6 hget;go_upto_region 17 with fail;replace HG:=aa (HG.o.alloc (.cells #[.string c.name,.slice dA c.ag.length dc,.slice xA c.aq.length xc] 48));replace az:=aa (az.o.alloc (.cells #[.string c.name,.slice dA c.ag.length dc,.slice xA c.aq.length xc] 48));replace au:=aa (au.o.alloc (.cells #[.string c.name,.slice dA c.ag.length dc,.slice xA c.aq.length xc] 48));have aS:=aa (aD w5 48 #[.string c.name,.slice dA c.ag.length dc,.slice xA c.aq.length xc]);replace eY:=aa (eY.o.grow ((ah w5).alloc (.cells #[.string c.name,.slice dA c.ag.length dc,.slice xA c.aq.length xc] 48)));obtain⟨gc,dQ⟩:∃g,w5.heap.size=g:=⟨_,rfl⟩;rw[dQ] at aS ⊢;generalize w5.alloc (.cells #[.string c.name,.slice dA c.ag.length dc,.slice xA c.aq.length xc] 48)=w6 at HG az au aS eY ⊢;clear c0 c1 c2 b0 q0 dQ
  have q0:_=some (Value.int .i64 d):=au.o.cell 0;have hcs:d=2∨(d=3∨d=4)∨(d=5∨d=6)∨d=8∨d=9∨d=10:=by
   have:=HD.o;omega
  clear hd1 hd7 hlo hhi HD;obtain rfl | yf | Iu | rfl | rfl | rfl:=hcs
  ·go_wp2_with fail;go_ret;exact fK.ok ⟨⟨by dsimp only;omega,by dsimp only;omega⟩,(fun h=>by dsimp only at h;omega),(fun _=>HF.o),(fun h=>by dsimp only at h;omega),(fun h=>by dsimp only at h;omega),(fun h=>by dsimp only at h;omega),(fun h=>by dsimp only at h;omega),(fun h=>by dsimp only at h;omega)⟩ HG.o
  ·have Rh:=aa yf;go_upto_if 72 with fail;go_cut [72] from 73 to 75 (fun t wx=>t=.bool true∧w6=wx)
   case first =>
    rcases yf with rfl | rfl
    ·go_wp2_with fail;go_meet;exact⟨rfl,rfl⟩
    go_wp2_with fail;go_meet;exact⟨rfl,rfl⟩
   obtain⟨rfl,rfl⟩:=hcut;clear yf q0;obtain⟨gd,hgd⟩:∃g,dv.good=g:=⟨_,rfl⟩;rw[hgd] at YS;have Hgd:=aa hgd;clear hgd;have Ri:_=some (Value.int .i64 cx.k):=au.o.cell 20;have Rj:_=some (Value.int .u64 cx.n):=au.o.cell 21;have Rk:_=some (Value.slice cx.aB cx.nB cx.cB):=au.o.cell 22;have Rl:_=some (Value.slice cx.aL cx.nL cx.cL):=au.o.cell 23;have Rm:_=some (Value.slice cx.aF cx.nF cx.cF):=au.o.cell 24;go_wp2_with fail;clear Ri Rj Rk Rl Rm;refine(YS.o _ HG.o).mono ?_;rintro e w7 ⟨rfl,hg⟩;replace HG:=aa (HG.o.trans hg);have aY:=aa hg;replace az:=aa (az.o.grow hg);replace au:=aa (au.o.grow hg);replace aS:=aa (aS.o.grow hg);clear hg;have bJ:=aa (show Grow w6 w7 from aY.o);by_cases hz:gd=0
   ·subst hz;obtain⟨ke,iu⟩:∃x,(bM dv).2=x:=⟨_,rfl⟩;have kZ:=aa iu;have Ri:_=some (Value.int .i64 cx.k):=au.o.cell 20;have Rj:_=some (Value.int .u64 cx.n):=au.o.cell 21;have Rk:_=some (Value.slice cx.aB cx.nB cx.cB):=au.o.cell 22;have Rl:_=some (Value.slice cx.aL cx.nL cx.cL):=au.o.cell 23;have Rm:_=some (Value.slice cx.aF cx.nF cx.cF):=au.o.cell 24;go_wp2_with fail;clear Ri Rj Rk Rl Rm;refine(HKEY.o _ HG.o).mono ?_;rintro e w8 ⟨afX,A8,c8,rfl,iK,xK,hg⟩;rw[iu];replace HG:=aa (HG.o.trans hg);have cD:=aa (bJ.o.trans hg);replace au:=aa (au.o.grow hg);replace aS:=aa (aS.o.grow hg);clear hg iK xK iu;by_cases YU:ke=0
    ·subst YU;go_upto_region 26 with fail;go_wp2_with fail;go_loopg [8] (c.aq.length+1) (fun gk i wr=>∃j:Nat,j≤c.aq.length∧gk+j=c.aq.length+1∧i=.int .i64 j∧(∀i (hi:i<c.aq.length),i<j→(eu c.aq[i].path dv).2.2=0)∧Grow w8 wr);exact⟨0,ba _,rfl,rfl,fun _ _ h=>absurd h (by omega),ah _⟩;obtain⟨j,hj,kW,rfl,hne,hgr⟩:=hrel;obtain⟨gk',rfl⟩:=bS gk (by omega);have HN:=aa hne;replace HG:=aa (HG.o.trans hgr);have L4:=aa (eY.o.grow (cD.o.trans hgr));have aH:=aa hgr;replace au:=aa (au.o.grow hgr);replace aS:=aa (aS.o.grow hgr);have hbc:=aS.o.cell;have h8:=dI.o.nx;clear hne hgr;by_cases hlt:j<c.aq.length
     ·obtain⟨bx,ox,rfl,fP,x0,x1,x2⟩:=L4.o.sx j hlt;have HE:=aa (fun(W:World) (hg:Grow wr W)=>wM.o c.aq[j] W (dI.o.path _ (aW hlt)) (HG.o.trans hg));clear L4;go_upto_region 29 with fail
      have uT:=aa (fun(W:World) (hg:Grow wr W)=>show W.cell? ⟨gc,2,none⟩=some (.slice (some ⟨bx,ox,none⟩) c.aq.length xc)∧W.cell? ⟨bx,ox+j*3,none⟩=some (.string c.aq[j].name)∧W.cell? ⟨bx,ox+j*3+1,none⟩=some (.string c.aq[j].path)∧W.cell? ⟨bx,ox+j*3+2,none⟩=some (.bool c.aq[j].uniq)∧W.cell? ⟨w.heap.size+1,20,none⟩=some (.int .i64 cx.k)∧W.cell? ⟨w.heap.size+1,21,none⟩=some (.int .u64 cx.n)∧W.cell? ⟨w.heap.size+1,22,none⟩=some (.slice cx.aB cx.nB cx.cB)∧W.cell? ⟨w.heap.size+1,23,none⟩=some (.slice cx.aL cx.nL cx.cL)∧W.cell? ⟨w.heap.size+1,24,none⟩=some (.slice cx.aF cx.nF cx.cF) from
       ⟨(aS.o.grow hg).cell 2,(hg.below.cell (p:=⟨bx,ox+j*3,none⟩) fP).trans x0,(hg.below.cell (p:=⟨bx,ox+j*3+1,none⟩) fP).trans x1,(hg.below.cell (p:=⟨bx,ox+j*3+2,none⟩) fP).trans x2,(au.o.grow hg).cell 20,(au.o.grow hg).cell 21,(au.o.grow hg).cell 22,(au.o.grow hg).cell 23,(au.o.grow hg).cell 24⟩)
      clear x0 x1 x2 hbc;refine dN ?_;refine dO (S:=fun w'=>w'.cell? ⟨gc,2,none⟩=some (.slice (some ⟨bx,ox,none⟩) c.aq.length xc)∧w'.cell? ⟨bx,ox+j*3,none⟩=some (.string c.aq[j].name)∧w'.cell? ⟨bx,ox+j*3+1,none⟩=some (.string c.aq[j].path)∧w'.cell? ⟨bx,ox+j*3+2,none⟩=some (.bool c.aq[j].uniq)∧w'.cell? ⟨w.heap.size+1,20,none⟩=some (.int .i64 cx.k)∧w'.cell? ⟨w.heap.size+1,21,none⟩=some (.int .u64 cx.n)∧w'.cell? ⟨w.heap.size+1,22,none⟩=some (.slice cx.aB cx.nB cx.cB)∧w'.cell? ⟨w.heap.size+1,23,none⟩=some (.slice cx.aL cx.nL cx.cL)∧w'.cell? ⟨w.heap.size+1,24,none⟩=some (.slice cx.aF cx.nF cx.cF)) (by kernel_rfl) (uT.o _ (ah _).drew) (fun hHeld=>?_);have jc:=aa (show Grow wr wr.drew from (ah _).drew);generalize wr.drew=W0 at jc hHeld ⊢
      refine aJ 0 ?_
      try simp only[ak]
      refine aj 1 (hy:=bt fun w ax=>by obtain⟨gg,-,-,-,-,-,-,-,-⟩:=ax;go_simp;try rfl) ?_;refine aJ 2 ?_
      try simp only[ak]
      refine aJ 3 ?_
      try simp only[ak]
      refine aj 4 (hy:=bt fun w ax=>by obtain⟨-,y0,y1,y2,-,-,-,-,-⟩:=ax;go_simp;try rfl) ?_;refine aJ 5 ?_
      try simp only[ak]
      refine aj 6 (hy:=bt fun w ax=>by obtain⟨-,-,-,-,k0,k1,k2,k3,k4⟩:=ax;go_simp;try rfl) ?_;refine aK 7 (fun K hK=>?_);have hC:=HE.o W0 jc.o;go_simp;go_at_call 29;refine hC.mono ?_;rintro ee W1 ⟨YV,A1,c1,rfl,hb1,hr1,hg1⟩;refine aU hK (uT.o _ (jc.o.trans hg1)) (fun hHeld=>?_);clear hK K;refine aJ 8 ?_
      try simp only[ak]
      refine aJ 9 ?_
      try simp only[ak]
      refine aJ 10 ?_
      try simp only[ak]
      refine aJ 11 ?_
      try simp only[ak]
      refine aJ 12 ?_
      try simp only[ak]
      refine aJ 13 ?_
      try simp only[ak]
      refine aJ 14 ?_
      try simp only[ak]
      refine cz ?_;clear hHeld hC;have HG2:=aa (jc.o.trans hg1);obtain⟨en,hen⟩:∃x,(eu c.aq[j].path dv).2.2=x:=⟨_,rfl⟩;have afY:=aa hen;rw[hen];clear hg1 hen;by_cases hz:en=0
      ·subst hz;go_wp2_with fail;go_roundg gk';refine⟨j+1,by omega,by omega,by go_num,fun i hi hij=>?_,aH.o.trans HG2.o⟩;by_cases ir:i=j
       ·subst ir;exact afY.o
       exact HN.o i hi (by omega);omega
      go_wp2_with fail;go_ret;exact fK.err hz (HG.o.trans HG2.o)
     have hjl:j=c.aq.length:=by omega
     subst hjl;have L_:=aa (show uq dv c.aq=0 from DV.2 fun x hx=>by
      obtain⟨i,hi,rfl⟩:=lH hx;exact HN.o i hi hi)
     go_wp2_with fail;go_ret;have hfk:=Rh.o;exact fK.ok ⟨⟨by dsimp only;omega,by dsimp only;omega⟩,(fun h=>by dsimp only at h;omega),(fun _=>HF.o),(fun _=>⟨kZ.o,by dsimp only;rw[iJ.o];exact L_.o⟩),(fun h=>by dsimp only at h;omega),(fun h=>by dsimp only at h;omega),(fun h=>by dsimp only at h;omega),(fun h=>by dsimp only at h;omega)⟩ HG.o
    go_wp2_with fail;go_ret;exact fK.err YU HG.o
   go_wp2_with fail;go_ret;exact fK.err hz HG.o
  ·have hd3:(d==3)=false:=by rcases Iu with rfl | rfl<;>rfl
   have BX:(d==4)=false:=by rcases Iu with rfl | rfl<;>rfl
   have Rh:=aa Iu;go_upto_if 112 with fail;go_cut [112] from 113 to 115 (fun t wx=>t=.bool true∧w6=wx)
   case first =>
    rcases Iu with rfl | rfl
    ·go_wp2_with fail;go_meet;exact⟨rfl,rfl⟩
    go_wp2_with fail;go_meet;exact⟨rfl,rfl⟩
   obtain⟨rfl,rfl⟩:=hcut;clear Iu hd3 BX q0;obtain⟨gd,hgd⟩:∃g,kv.good=g:=⟨_,rfl⟩;rw[hgd] at YT;have Hgd:=aa hgd;clear hgd;have q5:_=some (Value.int .i64 ck.k):=au.o.cell 5;have q6:_=some (Value.int .u64 ck.n):=au.o.cell 6;have q7:_=some (Value.slice ck.aB ck.nB ck.cB):=au.o.cell 7;have q8:_=some (Value.slice ck.aL ck.nL ck.cL):=au.o.cell 8;have q9:_=some (Value.slice ck.aF ck.nF ck.cF):=au.o.cell 9;go_wp2_with fail;clear q5 q6 q7 q8 q9;refine(YT.o _ HG.o).mono ?_;rintro e w7 ⟨rfl,hg⟩;replace HG:=aa (HG.o.trans hg);replace az:=aa (az.o.grow hg);replace au:=aa (au.o.grow hg);replace aS:=aa (aS.o.grow hg);clear hg;by_cases hz:gd=0
   ·subst hz;have q5:_=some (Value.int .i64 ck.k):=au.o.cell 5;have q6:_=some (Value.int .u64 ck.n):=au.o.cell 6;have q7:_=some (Value.slice ck.aB ck.nB ck.cB):=au.o.cell 7;have q8:_=some (Value.slice ck.aL ck.nL ck.cL):=au.o.cell 8;have q9:_=some (Value.slice ck.aF ck.nF ck.cF):=au.o.cell 9;go_wp2_with fail;clear q5 q6 q7 q8 q9;refine(pR.o _ HG.o).mono ?_;rintro e w8 ⟨afX,A8,c8,rfl,iK,xK,hg⟩;replace HG:=aa (HG.o.trans hg);clear hg iK xK;go_wp2_with fail;go_ret;have hfk:=Rh.o;exact⟨_,rfl,fun h=>⟨⟨by dsimp only;omega,by dsimp only;omega⟩,(fun h=>by dsimp only at h;omega),(fun _=>HF.o),(fun h=>by dsimp only at h;omega),fun _=>h,(fun h=>by dsimp only at h;omega),(fun h=>by dsimp only at h;omega),(fun h=>by dsimp only at h;omega)⟩,HG.o⟩
   go_wp2_with fail;go_ret;exact fK.err hz HG.o
  ·have HX:=aa (fun(W:World) (hg:Grow w6 W)=>G7 c.name dA c.ag.length dc c.aq ix xA xc W (eY.o.grow hg) dI.o.aq (by have:=dI.o.nx;omega));have hbc:=aS.o.cell;have q2:_=some (Value.string ix):=au.o.cell 2;obtain⟨FF,gL⟩:∃b,cK (c.aq.map Ix.name) ix=b:=⟨_,rfl⟩
   cases FF with
   | true =>
    rw[yc gL] at HX;obtain⟨I,hI⟩:∃p,bV (c.aq.map Ix.name) ix=p:=⟨_,rfl⟩;rw[hI] at HX;have hi0:(0:Int)≤(I:Int):=by omega
    have jt:=aa gL;clear gL;go_wp2_with fail;clear q0 q2;clear hbc;refine(HX.o _ (ah _)).mono ?_;rintro e w7 ⟨rfl,hg⟩;replace HG:=aa (HG.o.trans hg);replace az:=aa (az.o.grow hg);replace au:=aa (au.o.grow hg);replace aS:=aa (aS.o.grow hg);clear hg;go_wp2_with fail;go_ret;exact fK.ok ⟨⟨by dsimp only;omega,by dsimp only;omega⟩,(fun h=>by dsimp only at h;omega),(fun _=>HF.o),(fun h=>by dsimp only at h;omega),(fun h=>by dsimp only at h;omega),(fun h=>by dsimp only at h;omega),(fun _=>by dsimp only;rw[iJ.o];exact jt.o),(fun h=>by dsimp only at h;omega)⟩ HG.o
   | false =>
    rw[BV gL] at HX;have jt:=aa gL;clear gL;go_wp2_with fail;clear q0 q2;clear hbc;refine(HX.o _ (ah _)).mono ?_;rintro e w7 ⟨rfl,hg⟩;replace HG:=aa (HG.o.trans hg);replace az:=aa (az.o.grow hg);replace au:=aa (au.o.grow hg);replace aS:=aa (aS.o.grow hg);clear hg;go_wp2_with fail;go_ret;exact fK.err (by decide) HG.o
  ·go_upto_region 48 with fail;go_cut [157] from 148 to 157 (fun t wx=>∃b,t=.bool b∧Grow w wx∧Blk wx (w.heap.size+1) 33 (dm 9 co ix pa un ck cl ch cx n)∧(b=false→ix≠⟨#[]⟩→cK (gj c) ix=true))
   case first =>
    by_cases qa:ix=⟨#[]⟩
    ·subst qa;have q2:_=some (Value.string ⟨#[]⟩):=au.o.cell 2;go_wp2_with fail;go_meet;exact⟨false,rfl,HG.o,au.o,fun _ h=>absurd rfl h⟩
    have Qw:(ix.toList==[])=false:=by rw[show ([]:List UInt8)=(⟨#[]⟩:ByteArray).toList from by rw[toList_data]];exact Lp qa
    have HX:=aa (fun(W:World) (hg:Grow w6 W)=>G7 c.name dA c.ag.length dc c.aq ix xA xc W (eY.o.grow hg) dI.o.aq (by have:=dI.o.nx;omega));have hbc:=aS.o.cell;have q2:_=some (Value.string ix):=au.o.cell 2;obtain⟨FF,gL⟩:∃b,cK (c.aq.map Ix.name) ix=b:=⟨_,rfl⟩
    cases FF with
    | true =>
     rw[yc gL] at HX;obtain⟨I,hI⟩:∃p,bV (c.aq.map Ix.name) ix=p:=⟨_,rfl⟩;rw[hI] at HX;have hi0:(0:Int)≤(I:Int):=by omega
     have jt:=aa gL;clear gL;go_wp2_with fail;clear q0 q2;clear hbc;refine(HX.o _ (ah _)).mono ?_;rintro e w7 ⟨rfl,hg⟩;replace HG:=aa (HG.o.trans hg);replace az:=aa (az.o.grow hg);replace au:=aa (au.o.grow hg);replace aS:=aa (aS.o.grow hg);clear hg;go_wp2_with fail;go_meet;exact⟨false,rfl,HG.o,au.o,fun _ _=>jt.o⟩
    | false =>
     rw[BV gL] at HX;have jt:=aa gL;clear gL;go_wp2_with fail;clear q0 q2;clear hbc;refine(HX.o _ (ah _)).mono ?_;rintro e w7 ⟨rfl,hg⟩;replace HG:=aa (HG.o.trans hg);replace az:=aa (az.o.grow hg);replace au:=aa (au.o.grow hg);replace aS:=aa (aS.o.grow hg);clear hg;go_wp2_with fail;go_meet;exact⟨true,rfl,HG.o,au.o,fun h=>(by cases h)⟩
   obtain⟨b,rfl,hg,wN,hb0⟩:=hcut;obtain⟨w7,BZ⟩:∃x:World,x=wc:=⟨_,rfl⟩;subst BZ;replace HG:=aa hg;replace au:=aa wN;clear hg wN
   cases b with
   | true =>
    go_wp2_with fail;go_ret;exact fK.err (by decide) HG.o
   | false =>
    have uV:=aa (show ix≠⟨#[]⟩→cK (gj (bD st co)) ix=true from fun h=>by rw[iJ.o];exact hb0 rfl h);clear hb0;have Ma:_=some (Value.int .i64 n):=au.o.cell 25;by_cases tV:n<1
    ·go_wp2_with fail;go_ret;exact fK.err (by decide) HG.o
    by_cases rV:(64:Int)<n
    ·go_wp2_with fail;go_ret;exact fK.err (by decide) HG.o
    go_upto_region 52 with fail;clear Ma;go_cut [175] from 166 to 175 (fun t wx=>∃b,t=.bool b∧Grow w wx∧Blk wx (w.heap.size+1) 33 (dm 9 co ix pa un ck cl ch cx n)∧(b=false→lv.k=0∨lv.good=0)∧(b=true→lv.good≠0))
    case first =>
     by_cases B0:cl.k=0
     ·have hk1:(cl.k==0)=true:=by rw[B0];rfl
      have hk2:(cl.k != 0)=false:=by rw[B0];rfl
      have Iw:=aa (show lv.k=0 from ue.o ▸ B0);clear B0;have zL:_=some (Value.int .i64 cl.k):=au.o.cell 10;go_wp2_with fail;go_meet;exact⟨false,rfl,HG.o,au.o,fun _=>.inl Iw.o,fun h=>(by cases h)⟩
     have hk1:(cl.k==0)=false:=by simpa using B0
     have hk2:(cl.k != 0)=true:=by simpa using B0
     clear B0;obtain⟨gg,hgg⟩:∃g,lv.good=g:=⟨_,rfl⟩;have qb:=aa hgg;rw[hgg] at L6;clear hgg;have zL:_=some (Value.int .i64 cl.k):=au.o.cell 10;have Iy:_=some (Value.int .u64 cl.n):=au.o.cell 11;have Iz:_=some (Value.slice cl.aB cl.nB cl.cB):=au.o.cell 12;have IA:_=some (Value.slice cl.aL cl.nL cl.cL):=au.o.cell 13;have IB:_=some (Value.slice cl.aF cl.nF cl.cF):=au.o.cell 14;go_wp2_with fail;clear zL Iy Iz IA IB;refine(L6.o _ HG.o).mono ?_;rintro e w8 ⟨rfl,hg⟩;replace HG:=aa (HG.o.trans hg);replace au:=aa (au.o.grow hg);clear hg;by_cases hz:gg=0
     ·subst hz;go_wp2_with fail;go_meet;exact⟨false,rfl,HG.o,au.o,fun _=>.inr qb.o,fun h=>(by cases h)⟩
     go_wp2_with fail;go_meet;exact⟨true,cT Value.bool (by simpa using hz),HG.o,au.o,fun h=>(by cases h),fun _=>by rw[qb.o];exact hz⟩
    obtain⟨b,rfl,hg,wN,hb0,hb1⟩:=hcut;obtain⟨w8,BZ⟩:∃x:World,x=wc:=⟨_,rfl⟩;subst BZ;replace HG:=aa hg;replace au:=aa wN;clear hg wN
    cases b with
    | true =>
     have hz:=hb1 rfl;clear hb0 hb1;have zL:_=some (Value.int .i64 cl.k):=au.o.cell 10;have Iy:_=some (Value.int .u64 cl.n):=au.o.cell 11;have Iz:_=some (Value.slice cl.aB cl.nB cl.cB):=au.o.cell 12;have IA:_=some (Value.slice cl.aL cl.nL cl.cL):=au.o.cell 13;have IB:_=some (Value.slice cl.aF cl.nF cl.cF):=au.o.cell 14;obtain⟨gg,hgg⟩:∃g,lv.good=g:=⟨_,rfl⟩;rw[hgg] at L6 hz;clear hgg;go_wp2_with fail;clear zL Iy Iz IA IB;refine(L6.o _ HG.o).mono ?_;rintro e w8b ⟨rfl,hg⟩;replace HG:=aa (HG.o.trans hg);replace au:=aa (au.o.grow hg);clear hg;go_wp2_with fail;go_ret;exact fK.err hz HG.o
    | false =>
     have sI:=aa (hb0 rfl);clear hb0 hb1;go_upto_region 54 with fail;go_cut [188] from 179 to 188 (fun t wx=>∃b,t=.bool b∧Grow w wx∧Blk wx (w.heap.size+1) 33 (dm 9 co ix pa un ck cl ch cx n)∧(b=false→hv.k=0∨hv.good=0)∧(b=true→hv.good≠0))
     case first =>
      by_cases B6:ch.k=0
      ·have hk1:(ch.k==0)=true:=by rw[B6];rfl
       have hk2:(ch.k != 0)=false:=by rw[B6];rfl
       have Iw:=aa (show hv.k=0 from Dm.o ▸ B6);clear B6;have Ey:_=some (Value.int .i64 ch.k):=au.o.cell 15;go_wp2_with fail;go_meet;exact⟨false,rfl,HG.o,au.o,fun _=>.inl Iw.o,fun h=>(by cases h)⟩
      have hk1:(ch.k==0)=false:=by simpa using B6
      have hk2:(ch.k != 0)=true:=by simpa using B6
      clear B6;obtain⟨gg,hgg⟩:∃g,hv.good=g:=⟨_,rfl⟩;have qb:=aa hgg;rw[hgg] at L8;clear hgg;have Ey:_=some (Value.int .i64 ch.k):=au.o.cell 15;have IC:_=some (Value.int .u64 ch.n):=au.o.cell 16;have ID:_=some (Value.slice ch.aB ch.nB ch.cB):=au.o.cell 17;have IE:_=some (Value.slice ch.aL ch.nL ch.cL):=au.o.cell 18;have IG:_=some (Value.slice ch.aF ch.nF ch.cF):=au.o.cell 19;go_wp2_with fail;clear Ey IC ID IE IG;refine(L8.o _ HG.o).mono ?_;rintro e w9 ⟨rfl,hg⟩;replace HG:=aa (HG.o.trans hg);replace au:=aa (au.o.grow hg);clear hg;by_cases hz:gg=0
      ·subst hz;go_wp2_with fail;go_meet;exact⟨false,rfl,HG.o,au.o,fun _=>.inr qb.o,fun h=>(by cases h)⟩
      go_wp2_with fail;go_meet;exact⟨true,cT Value.bool (by simpa using hz),HG.o,au.o,fun h=>(by cases h),fun _=>by rw[qb.o];exact hz⟩
     obtain⟨b,rfl,hg,wN,hb0,hb1⟩:=hcut;obtain⟨w9,BZ⟩:∃x:World,x=wc:=⟨_,rfl⟩;subst BZ;replace HG:=aa hg;replace au:=aa wN;clear hg wN
     cases b with
     | true =>
      have hz:=hb1 rfl;clear hb0 hb1;have Ey:_=some (Value.int .i64 ch.k):=au.o.cell 15;have IC:_=some (Value.int .u64 ch.n):=au.o.cell 16;have ID:_=some (Value.slice ch.aB ch.nB ch.cB):=au.o.cell 17;have IE:_=some (Value.slice ch.aL ch.nL ch.cL):=au.o.cell 18;have IG:_=some (Value.slice ch.aF ch.nF ch.cF):=au.o.cell 19;obtain⟨gg,hgg⟩:∃g,hv.good=g:=⟨_,rfl⟩;rw[hgg] at L8 hz;clear hgg;go_wp2_with fail;clear Ey IC ID IE IG;refine(L8.o _ HG.o).mono ?_;rintro e w9b ⟨rfl,hg⟩;replace HG:=aa (HG.o.trans hg);replace au:=aa (au.o.grow hg);clear hg;go_wp2_with fail;go_ret;exact fK.err hz HG.o
     | false =>
      have QC:=aa (hb0 rfl);clear hb0 hb1;go_wp2_with fail;go_ret;exact fK.ok ⟨⟨by dsimp only;omega,by dsimp only;omega⟩,(fun h=>by dsimp only at h;omega),(fun _=>HF.o),(fun h=>by dsimp only at h;omega),(fun h=>by dsimp only at h;omega),(fun h=>by dsimp only at h;omega),(fun h=>by dsimp only at h;omega),(fun _=>⟨uV.o,sI.o,QC.o⟩)⟩ HG.o
  go_wp2_with fail;go_ret;exact fK.ok ⟨⟨by dsimp only;omega,by dsimp only;omega⟩,(fun h=>by dsimp only at h;omega),(fun _=>HF.o),(fun h=>by dsimp only at h;omega),(fun h=>by dsimp only at h;omega),(fun h=>by dsimp only at h;omega),(fun h=>by dsimp only at h;omega),(fun h=>by dsimp only at h;omega)⟩ HG.o
theorem afZ(N cap:Nat)(A:Option Addr)(st:List Co)(q:Rq)(ck cl ch cx:Cv)(w:World)(hst:dW w A cap st)(hok:dX N st)(hR:uU q)(hB:BS q)(hk:In w q.key ck)(hl:In w q.low cl)(hh:In w q.high ch)(hx:In w q.doc cx) :
 Calls prog 67 #[.agg #[.slice A st.length cap],.agg (dm q.bj q.aA q.index q.path q.unique ck cl ch cx q.n)] w (fK w st q):=by
 obtain⟨d,co,ix,pa,un,kv,lv,hv,dv,n⟩:=q;by_cases h1:d=1
 ·subst h1;exact afU N cap A st co ix pa un kv lv hv dv n ck cl ch cx w hst hok hB.aA
 by_cases h7:d=7
 ·subst h7;exact afV N cap A st co ix pa un kv lv hv dv n ck cl ch cx w hst hok hB.index
 exact afW N cap A st co ix pa un kv lv hv dv n ck cl ch cx w hst hok d ⟨h1,h7⟩ hR hB hk hl hh hx
end
abbrev amg:=@fK.err
abbrev amh:=@fK.ok
section
open Go.RowKit
structure Hc where
 e:ByteArray
 k:ByteArray
 d:Cv
abbrev Hc.cells(h:Hc):Array Value:=#[.string h.e,.string h.k,.int .i64 h.d.k,.int .u64 h.d.n,.slice h.d.aB h.d.nB h.d.cB,.slice h.d.aL h.d.nL h.d.cL,.slice h.d.aF h.d.nF h.d.cF]
def jR(hs:List Hc):List Value:=(hs.map fun h=>h.cells.toList).flatten
theorem YW(hs:List Hc):∀v∈jR hs,v.oneCell'=true:=by
 intro v hv;simp only[jR,FL,j3] at hv;obtain⟨_,⟨e,_,rfl⟩,h⟩:=hv;simp at h;rcases h with rfl | rfl | rfl | rfl | rfl | rfl | rfl<;>rfl
theorem Rn:(prog.info? 135).map (fun i=>(i.zero,i.size,i.bytes))=some (some (.agg #[.string ⟨#[]⟩,.string ⟨#[]⟩,.int .i64 0,.int .u64 0,.slice none 0 0,.slice none 0 0,.slice none 0 0]),7,120):=by kernel_rfl
theorem Ez:prog.underlying 132=some (.slice 135):=by kernel_rfl
section
variable {w:World} {ad:Addr} {A:Option Addr} {n:Nat} {xs:List Hc}
theorem af0(h:Reads (bK w 0 w.heap.size) 7 A n (jR xs))(i c:Nat)(hi:i≤n):Src prog 7 132 (.slice A i c) i (jR (xs.take i)) w:=by
 have hh:=fe (c:=c) Ez (h.Ii i hi) (fun u hu=>YW xs u (yP hu));rwa [show (jR xs).take (i*7)=jR (xs.take i) from zq (fun e:Hc=>e.cells.toList) 7 (fun _=>rfl) xs i] at hh
theorem af1{cap i:Nat}(h1:i≤n)(h2:n≤cap)(w:World):(Instr.sliceAt 132 (.slice A n cap) none (some (.int .i64 (i:Int))) none).run prog w=.ok (.slice A i cap) w:=by
 have k1:(0:Int)≤(i:Int):=by omega
 have k2:(i:Int)≤(n:Int):=by omega
 have k3:(i:Int)≤(cap:Int):=by omega
 rcases A with _ | a<;>go_simp
theorem af2{cap i:Nat}(h1:i≤n)(h2:n≤cap):∃B,(∀w,(Instr.sliceAt 132 (.slice A n cap) (some (.int .i64 (i:Int))) none none).run prog w=.ok (.slice B (n-i) (cap-i)) w) ∧
 ∀(w:World) (c:Nat) (xs:List Hc),Reads (bK w 0 w.heap.size) 7 A n (jR xs)→Src prog 7 132 (.slice B (n-i) c) (n-i) (jR (xs.drop i)) w:=by
 have k1:(0:Int)≤(i:Int):=by omega
 have k2:(i:Int)≤(n:Int):=by omega
 have k3:(i:Int)≤(cap:Int):=by omega
 refine⟨if cap=i then A else A.map (·.add (i*7)),fun w=>by rcases A with _ | a<;>go_simp,fun w c xs h=>?_⟩;have hh:=fe (c:=c) Ez (h.Ij i cap h1 h2) (fun u hu=>YW xs u (rQ hu));rwa [show (jR xs).drop (i*7)=jR (xs.drop i) from ur (fun e:Hc=>e.cells.toList) 7 (fun _=>rfl) xs i] at hh
theorem af3{g:Nat}(c:Hc)(hb:Blk w g 135 c.cells):Src prog 7 132 (.slice (some ⟨g,0,none⟩) 1 1) 1 c.cells.toList w:=
 Src.ofSlice _ Ez ⟨g,0,none⟩ 1 1 _ rfl (fun j u hu=>by
  rw[add_lit,dY,hb.cell j,← hu,pH]) (fun u hu=>by
  simp only[je,wZ,w_] at hu;rcases hu with rfl | rfl | rfl | rfl | rfl | rfl | rfl<;>rfl)
theorem af4{base c P:Nat}{x:Hc}(h:w.ownsRow base 135 7 (.slice A n c) n (jR (xs.take P)++x.cells.toList++jR (xs.drop P)))(hn:n=(cZ xs P x).length):w.ownsRow base 135 7 (.slice A (cZ xs P x).length c) (cZ xs P x).length (jR (cZ xs P x)):=by
 have e:jR (cZ xs P x)=jR (xs.take P)++x.cells.toList++jR (xs.drop P):=by simp[cZ,jR]
 rw[← hn,e];exact h
theorem Hc.at_(h:Reads (bK w 0 w.heap.size) 7 A xs.length (jR xs)){k:Nat}(hk:k<xs.length):∃bk o,A=some ⟨bk,o,none⟩∧bk<w.heap.size∧∀i v,xs[k].cells.toList[i]?=some v→i<7→w.cell? ⟨bk,o+k*7+i,none⟩=some v:=by
 obtain⟨bk,o,hA,hc⟩:=h.2 (by omega);have hf:∀i v,xs[k].cells.toList[i]?=some v→i<7→bK w 0 w.heap.size ⟨bk,o+(k*7+i),none⟩ v:=fun i v hv hi =>
  hc (k*7+i) v (by rw[jR,qL _ 7 (fun _=>rfl) xs k i hi xs[k] (cJ hk)];exact hv)
 exact⟨bk,o,hA,(hf 0 _ rfl (by omega)).2.2,fun i v hv hi=>by rw[kU];exact(hf i v hv hi).1⟩
end
theorem In.kind{w:World}{v:V}{c:Cv}(h:In w v c):c.k=v.k:=by obtain⟨k,n,b,l,f⟩:=v;obtain⟨aB,aL,aF,cB,cL,cF,rfl,_⟩:=In.open h;rfl
theorem YX{d u:V}{s:ByteArray}(hg:d.good=0)(h:ie d s=some u):u.formed=true:=(lR (Lt ((Ep hg s).trans h))).1
theorem af5{ops:Array Oper}{o:Oper}{a:Act}{K:Act→World→Prop}{Q:Exit→Act→World→Prop}{E:Prop}{w0 w:World}(hgd:o.guard=none)(s x:Operand)(t e:TypeId)(ho:o.op=.call { callee:=.builtin .append,args:=#[s,x],argTypes:=#[t,t] })(z iG:Nat)(zv:Value)(ht:prog.underlying t=some (.slice e))(hi:(prog.info? e).map (fun i=>(i.zero,i.size,i.bytes))=some (some zv,z,iG))(hzs:zv.cells.size=z)
 {v:Value} {n:Nat} {xs:List Value} (hv:a.eval s=v) (hown:w.ownsRow w0.heap.size e z v n xs) {u:Value} {m:Nat} {news:List Value} (hx:a.eval x=u) (hs:Src prog z t u m news w) (hb:(n+m)*iG≤140737488355328) (h63:n+m≤maxLen) (hg0:Grow w0 w)
 (h:∀A c w',w'.ownsRow w0.heap.size e z (.slice A (n+m) c) (n+m) (xs++news)→Grow w0 w'→K (a.put o.dst (.slice A (n+m) c)) w') :
 if Region.wanted o (yielded ops a.tmps)=true then Oper.wp prog o a w K Q else E:=by
 obtain⟨i0,h0,h1,h2,h3⟩:=info_parts hi;exact jg hgd s x t t ho w0.heap.size e i0 zv z iG ht h0 h1 h2 h3 hzs v n xs hv hown u m news hx hs hb h63 hg0.size (fun A c w' k1 k2 _=>h A c w' k1 (hg0.grown k2 (fun k hk=>(bO hown k hk).1)))
theorem af6{wn W3:World}{g:Nat}{a b c a' b' c':Value}{T:TypeId}(hg:Grow wn W3)(hn:wn.heap.size≤g)(hB:Blk W3 g T #[a',b',c']):Grow wn (((W3.setCell ⟨g,0,none⟩ a).setCell ⟨g,1,none⟩ b).setCell ⟨g,2,none⟩ c)∧Blk (((W3.setCell ⟨g,0,none⟩ a).setCell ⟨g,1,none⟩ b).setCell ⟨g,2,none⟩ c) g T #[a,b,c]:=
 ⟨((hg.setCell (p:=⟨g,0,none⟩) hn a).setCell (p:=⟨g,1,none⟩) hn b).setCell (p:=⟨g,2,none⟩) hn c,((hB.bf 0 _).bf 1 _).bf 2 _⟩
theorem af7{wn W3:World}{g:Nat}{c0 c:Cv}(hg:Grow wn W3)(hn:wn.heap.size≤g)(hB:Blk W3 g 27 c0.cells) :
 Grow wn (((((W3.setCell ⟨g,0,none⟩ (.int .i64 c.k)).setCell ⟨g,1,none⟩ (.int .u64 c.n)).setCell ⟨g,2,none⟩ (.slice c.aB c.nB c.cB)).setCell ⟨g,3,none⟩ (.slice c.aL c.nL c.cL)).setCell ⟨g,4,none⟩ (.slice c.aF c.nF c.cF)) ∧
 Blk (((((W3.setCell ⟨g,0,none⟩ (.int .i64 c.k)).setCell ⟨g,1,none⟩ (.int .u64 c.n)).setCell ⟨g,2,none⟩ (.slice c.aB c.nB c.cB)).setCell ⟨g,3,none⟩ (.slice c.aL c.nL c.cL)).setCell ⟨g,4,none⟩ (.slice c.aF c.nF c.cF)) g 27 c.cells ∧
 ∀{g':Nat} {T:TypeId} {cs:Array Value},Blk W3 g' T cs→g'≠g→Blk (((((W3.setCell ⟨g,0,none⟩ (.int .i64 c.k)).setCell ⟨g,1,none⟩ (.int .u64 c.n)).setCell ⟨g,2,none⟩ (.slice c.aB c.nB c.cB)).setCell ⟨g,3,none⟩ (.slice c.aL c.nL c.cL)).setCell ⟨g,4,none⟩ (.slice c.aF c.nF c.cF)) g' T cs:=
 ⟨((((hg.setCell (p:=⟨g,0,none⟩) hn _).setCell (p:=⟨g,1,none⟩) hn _).setCell (p:=⟨g,2,none⟩) hn _).setCell (p:=⟨g,3,none⟩) hn _).setCell (p:=⟨g,4,none⟩) hn _,((((hB.bf 0 _).bf 1 _).bf 2 _).bf 3 _).bf 4 _,fun h hne=>((((h.far (p:=⟨g,0,none⟩) hne _).far (p:=⟨g,1,none⟩) hne _).far (p:=⟨g,2,none⟩) hne _).far (p:=⟨g,3,none⟩) hne _).far (p:=⟨g,4,none⟩) hne _⟩
def RgM(wr:World)(g11 g12:Nat)(y:Cv)(t13 t14:Value)(wx:World):Prop:=
 ∃tb es c u,t13=.bool tb∧t14=.string es∧Grow wr wx∧Blk wx g11 27 y.cells∧Blk wx g12 27 (Cv.cells c)∧In wx u c∧(tb=true→u.formed=true)
def RgC(w:World)(n:Nat)(e:Ending)(w':World):Prop:=∃A c hs,e=.returned (.slice A hs.length c)∧Reads (bK w' 0 w'.heap.size) 7 A hs.length (jR hs)∧hs.length≤n∧hs.length≤c∧Grow w w'
theorem af8(nm na:ByteArray)(ag:List V)(dA xA:Option Addr)(dc xc:Nat)(aq:List Ix)(lv hv:V)(cl ch:Cv)(w:World)(hd:InL w dA dc ag)(hok:∀d∈ag,fC d)(hl:ag.length≤1000000)(qa:kK w xA aq)(YY:fI (gG (aq.map Ix.name)))(EA:aq.length≤8)(YZ:∀x∈aq,x.path.size≤200)
 (II:na≠⟨#[]⟩→cK (aq.map Ix.name) na=true) (hlo:In w lv cl) (hhi:In w hv ch) (Y0:lv.k=0∨lv.good=0) (Y1:hv.k=0∨hv.good=0) :
 Calls prog 78 #[.agg #[.string nm,.slice dA ag.length dc,.slice xA aq.length xc],.string na,cl.agg,ch.agg] w (RgC w ag.length):=by
 have HD:=aa hd;have cP:=aa hok;have HL:=aa hl;have HX:=aa qa;have Y2:=aa II;have Y3:=aa (show ∀x∈aq,x.path.size<4294967281 from fun x h=>by have:=YZ x h;omega);have HG:=aa ((((ah w).alloc (.cells #[.string nm,.slice dA ag.length dc,.slice xA aq.length xc] 48)).alloc (.cells cl.cells 27)).alloc (.cells ch.cells 27));have av:=aa (((aD w 48 #[.string nm,.slice dA ag.length dc,.slice xA aq.length xc]).alloc (.cells cl.cells 27)).alloc (.cells ch.cells 27));have dg:=aa ((cX (w:=w.alloc (.cells #[.string nm,.slice dA ag.length dc,.slice xA aq.length xc] 48)) (g:=w.heap.size+1) (by simp) 27 cl.cells).alloc (.cells ch.cells 27))
 have ji:=aa (cX (w:=(w.alloc (.cells #[.string nm,.slice dA ag.length dc,.slice xA aq.length xc] 48)).alloc (.cells cl.cells 27)) (g:=w.heap.size+1+1) (by simp) 27 ch.cells);have B_:=aa (fun(W:World) (hg:Grow w W)=>G7 nm dA ag.length dc aq na xA xc W (qa.grow hg) YY (by omega));have Ca:=aa (fun(d:V) (c:Cv) (s:ByteArray) (w0 W:World) (hs:s.size<4294967281) (hd:fC d) (hg:Grow w0 W) (hi:In w0 d c)=>BL w0 _ d s c W (ay _) hs (by obtain⟨i,-,-,-,h,-⟩:=hd.id;exact(lR h).1) hg hi);have wM:=aa (fun(x:Ix) (d:V) (c:Cv) (W:World) (hx:x.path.size<4294967281) (hd:fC d) (hi:In W d c)=>QY x d c W hx hd.count hd.fit hd.bytes hi);have uS:=aa (fun(d:V) (c:Cv) (W:World) (hd:fC d) (hi:In W d c)=>Es d c W hd.count hd.bytes hi)
 have HLK:Hid (cl.k=lv.k):=aa hlo.kind;have Y4:Hid (ch.k=hv.k):=aa hhi.kind;have Qv:=aa (fun(u:V) (c:Cv) (W:World) (hf:u.formed=true) (hi:In W u c) (hg:Grow w W) (h0:lv.k≠0)=>Y5 u lv hf (lR (Y0.resolve_left h0)).1 W c cl hi (hlo.grow hg));have Hj:=aa (fun(u:V) (c:Cv) (W:World) (hf:u.formed=true) (hi:In W u c) (hg:Grow w W) (h0:hv.k≠0)=>Y5 u hv hf (lR (Y1.resolve_left h0)).1 W c ch hi (hhi.grow hg));clear hd hok hl qa YY EA YZ II hlo hhi Y0 Y1;go_enter func78,ntmps78;go_wp2_with fail;generalize ((w.alloc (.cells #[.string nm,.slice dA ag.length dc,.slice xA aq.length xc] 48)).alloc (.cells cl.cells 27)).alloc (.cells ch.cells 27)=w3 at HG av dg ji ⊢
 go_loopg [9,10] (ag.length+1) (fun gk sl i wr=>∃(j B:Nat) (Ao:Option Addr) (co:Nat) (hs:List Hc),j≤ag.length∧gk+j=ag.length+1∧i=.int .i64 j∧sl=.slice Ao hs.length co∧wr.ownsRow B 135 7 (.slice Ao hs.length co) hs.length (jR hs)∧hs.length≤j∧Grow w3 wr);exact⟨0,0,none,0,[],ba _,rfl,rfl,rfl,iY _ _ _ _,ba _,ah _⟩;obtain⟨j,B,Ao,co,hs,hj,hg,rfl,rfl,hown,hel,hgr⟩:=hrel;obtain⟨gk',rfl⟩:=bS gk (by omega);have hl0:=HL.o;have aH:=aa hgr;have HOWN:=aa hown;have aY:=aa (HG.o.trans hgr);replace av:=aa (av.o.grow hgr);replace dg:=aa (dg.o.grow hgr);replace ji:=aa (ji.o.grow hgr);have oN:=aa hel;have hb4:=av.o.cell;clear hown hel;by_cases hlt:j<ag.length
 ·obtain⟨bk,o,y,ha,hbk,e0,e1,e2,e3,e4,hy⟩:=(HD.o.grow aY.o).fO j hlt;dsimp only[kH] at ha;subst ha;have jz:=aa (cP.o ag[j] (aW hlt));obtain⟨d,hdd⟩:∃d,ag[j]=d:=⟨_,rfl⟩;rw[hdd] at jz hy;have HY:=aa hy;clear hdd hgr hy;go_upto_region 6 with fail;have Mb:=aa ((ah wr).alloc (.cells y.cells 27));have jS:=aa (aD wr 27 y.cells);obtain⟨g11,zM⟩:∃g,wr.heap.size=g:=⟨_,rfl⟩;have af9:=aa zM;rw[zM] at jS ⊢;generalize wr.alloc (.cells y.cells 27)=w4 at Mb jS ⊢;have sV:=jS.o.cell;clear e0 e1 e2 e3 e4 hb4 zM;go_wp2_with fail;refine(Ca.o d y lM wr w4 (by decide) jz.o Mb.o HY.o).mono ?_;rintro e w5 ⟨bP,c5,t5,u5,rfl,Y6,iw⟩;replace jS:=aa (jS.o.grow bP);have LS:=aa Y6;have h_:=aa (Im iw);have DM:=aa (Mb.o.trans bP)
  clear sV Y6 iw bP;go_upto_region 7 with fail;have xD:=aa (DM.o.alloc (.cells c5.cells 27));have pd:=aa (aD w5 27 c5.cells);have af_:=aa (show g11<w5.heap.size from jS.o.lt);replace jS:=aa (jS.o.alloc (.cells c5.cells 27));have Ro:g11≠w5.heap.size:=by
   have h1:=af9.o;have h2:wr.heap.size+1≤w5.heap.size:=by have:=jS.o.lt;have h3:=DM.o.size;have h4:=af_.o;omega
   omega
  obtain⟨g12,Rs⟩:∃g,w5.heap.size=g:=⟨_,rfl⟩;have Y7:wr.heap.size≤g12:=Rs ▸ DM.o.size;rw[Rs] at pd Ro ⊢;generalize w5.alloc (.cells c5.cells 27)=w6 at xD jS pd ⊢;have cM:=aa Ro;have wL:=aa Y7;have sV:=jS.o.cell;clear Ro Y7 Rs;go_wp2_with fail;refine(uS.o d y w6 jz.o (HY.o.grow xD.o)).mono ?_;rintro e w7 ⟨rfl,b_⟩;obtain⟨ks,hks⟩:∃s,uQ d=s:=⟨_,rfl⟩;rw[hks];replace jS:=aa (jS.o.grow b_);replace pd:=aa (pd.o.grow b_);have zN:=aa (xD.o.trans b_);clear sV hks b_;go_upto_if 42 with fail;obtain⟨nb,hnb⟩:∃b,(!na.toList.isEmpty)=b:=⟨_,rfl⟩;rw[hnb];have kO:=aa hnb;clear hnb;go_cut [13,14,15,16,17,18] from 43 to 65 (fun t13 t14 t15 t16 t17 t18 wx=>RgM wr g11 g12 y t13 t14 wx)
  case first =>
   cases nb with
   | false =>
    go_wp2_with fail;go_meet;exact⟨t5,ks,c5,u5,rfl,rfl,zN.o,jS.o,pd.o,(LS.o.grow zN.o),fun h=>YX (by obtain⟨i,-,-,-,h,-⟩:=jz.o.id;exact h) (h_.o.resolve_right (fun k=>by rw[h] at k;cases k.2)).1⟩
   | true =>
    have II:na≠⟨#[]⟩:=fun e=>by have:=kO.o;rw[e,toList_data] at this;cases this
    have hF:=Y2.o II;have Rt:=Lh hF;rw[yc hF] at B_;have hil:bV (aq.map Ix.name) na<aq.length:=by rw[dZ] at Rt;exact Rt
    obtain⟨I,hI⟩:∃p,bV (aq.map Ix.name) na=p:=⟨_,rfl⟩;rw[hI] at B_ hil;obtain⟨bx,ox,hA,fP,x0,x1,x2⟩:=(HX.o.grow (aY.o.trans zN.o)).sx I hil;subst hA;have Cb:=aa (Y3.o _ (aW hil));obtain⟨x,hx⟩:∃x,aq[I]=x:=⟨_,rfl⟩;rw[hx] at x0 x1 x2 Cb;obtain⟨xn,xp,xu⟩:=x;dsimp only at x0 x1 x2 Cb;have hi0:(0:Int)≤(I:Int):=by omega
    have hi1:(I:Int)<(aq.length:Int):=by omega
    replace av:=aa (av.o.grow zN.o);clear II hF Rt hI hx;go_upto_region 9 with fail;go_cut [15] from 43 to 49 (fun p wx=>Grow w7 wx∧∃g15,p=.pointer (some ⟨g15,0,none⟩)∧w7.heap.size≤g15∧Blk wx g15 64 #[.string xn,.string xp,.bool xu])
    case first =>
     have gq:=aa (fun(W:World) (hg:Grow w7 W)=>show (∀i,W.cell? ⟨w.heap.size,i,none⟩=(#[.string nm,.slice (some ⟨bk,o,none⟩) ag.length dc,.slice (some ⟨bx,ox,none⟩) aq.length xc]:Array Value)[i]?)∧W.cell? ⟨bx,ox+I*3,none⟩=some (.string xn)∧W.cell? ⟨bx,ox+I*3+1,none⟩=some (.string xp)∧W.cell? ⟨bx,ox+I*3+2,none⟩=some (.bool xu) from
      ⟨(av.o.grow hg).cell,(hg.below.cell (p:=⟨bx,ox+I*3,none⟩) fP).trans x0,(hg.below.cell (p:=⟨bx,ox+I*3+1,none⟩) fP).trans x1,(hg.below.cell (p:=⟨bx,ox+I*3+2,none⟩) fP).trans x2⟩)
     clear x0 x1 x2;refine dN ?_;refine dO (S:=fun w'=>(∀i,w'.cell? ⟨w.heap.size,i,none⟩=(#[.string nm,.slice (some ⟨bk,o,none⟩) ag.length dc,.slice (some ⟨bx,ox,none⟩) aq.length xc]:Array Value)[i]?)∧w'.cell? ⟨bx,ox+I*3,none⟩=some (.string xn)∧w'.cell? ⟨bx,ox+I*3+1,none⟩=some (.string xp)∧w'.cell? ⟨bx,ox+I*3+2,none⟩=some (.bool xu)) (by kernel_rfl) (gq.o _ (ah _).drew) (fun hHeld=>?_);have aC:=aa (show Grow w7 w7.drew from (ah _).drew);generalize w7.drew=W0 at aC hHeld ⊢;refine aJ 0 ?_
     try simp only[ak]
     refine aj 1 (hy:=bt fun w ax=>by obtain⟨b4,-,-,-⟩:=ax;go_simp;try rfl) ?_;refine aj 2 (hy:=bt fun w ax=>by obtain⟨b4,-,-,-⟩:=ax;go_simp;try rfl) ?_;refine aJ 3 ?_
     try simp only[ak]
     refine bZ [4,7] ?_;refine eK (fun K hK=>?_) (eK (fun K hK=>?_) bY)
     ·have hC:=B_.o (W0) (aY.o.trans (zN.o.trans aC.o));go_simp;go_at_call 77;refine hC.mono ?_;rintro ee W3 ⟨rfl,hg3⟩;refine hK.out _ _ (gq.o _ (aC.o.trans hg3)) (fun hHeld=>?_);clear hC;clear hK K
      try simp only[ak]
      refine aJ 5 ?_
      try simp only[ak]
      refine aj 6 (hy:=bt fun w ax=>by obtain⟨-,y0,y1,y2⟩:=ax;go_simp;try rfl) ?_;refine aK 7 (fun K hK=>?_);go_simp;refine aU hK (gq.o _ ((aC.o.trans hg3).alloc _)) (fun hHeld=>?_);clear hK K;refine aK 8 (fun K hK=>?_);go_simp;refine aU hK (gq.o _ ((aC.o.trans hg3).alloc _)) (fun hHeld=>?_);clear hK K;refine cz ?_;go_wp2_with fail;go_meet;exact⟨(aC.o.trans hg3).alloc _,_,rfl,(aC.o.trans hg3).size,aD W3 _ _⟩
     go_simp;refine aU hK (gq.o _ (aC.o.alloc _)) (fun hHeld=>?_);clear hK K;refine aK 4 (fun K hK=>?_);have hC:=B_.o (W0.alloc (.cells #[.string ⟨#[]⟩,.string ⟨#[]⟩,.bool false] 64)) (aY.o.trans (zN.o.trans (aC.o.alloc (.cells #[.string ⟨#[]⟩,.string ⟨#[]⟩,.bool false] 64))));go_simp;go_at_call 77;refine hC.mono ?_;rintro ee W3 ⟨rfl,hg3⟩;refine hK.out _ _ (gq.o _ ((aC.o.alloc _).trans hg3)) (fun hHeld=>?_);clear hC;clear hK K
     try simp only[ak]
     refine aJ 5 ?_
     try simp only[ak]
     refine aj 6 (hy:=bt fun w ax=>by obtain⟨-,y0,y1,y2⟩:=ax;go_simp;try rfl) ?_;refine aK 8 (fun K hK=>?_);have rq:=(aD W0 64 #[.string ⟨#[]⟩,.string ⟨#[]⟩,.bool false]).grow hg3;obtain⟨Io,Ip⟩:=af6 (a:=.string xn) (b:=.string xp) (c:=.bool xu) ((aC.o.alloc (.cells #[.string ⟨#[]⟩,.string ⟨#[]⟩,.bool false] 64)).trans hg3) aC.o.size rq;have hbc:=rq.cell;have uI:=rq.frozen;have Ew:=aa Io;have Re:=aa Ip;clear rq Io Ip;go_simp;clear hbc uI;refine aU hK (gq.o _ Ew.o) (fun hHeld=>?_);clear hK K;refine cz ?_;go_wp2_with fail;go_meet;exact⟨Ew.o,_,rfl,aC.o.size,Re.o⟩
    obtain⟨dQ,g15,rfl,aga,IJ⟩:=hcut;have agb:=pd.o.lt;have Y8:=aa (zN.o.trans dQ);have IK:=aa IJ;have HNF:=aa (show g15≠g12 from fun e=>by omega);replace jS:=aa (jS.o.grow dQ);replace pd:=aa (pd.o.grow dQ);have sV:=jS.o.cell;have IJ:=IK.o.cell;clear dQ aga agb;go_wp2_with fail;refine(Ca.o d y xp wr wc Cb.o jz.o Y8.o HY.o).mono ?_;rintro e w9 ⟨l7,c9,t9,u9,rfl,Y9,Y_⟩;have agc:=aa (Y8.o.trans l7);replace jS:=aa (jS.o.grow l7);replace IK:=aa (IK.o.grow l7);obtain⟨s1,s2,s3⟩:=af7 (c:=c9) agc.o wL.o (pd.o.grow l7);have Ru:=aa s1;have zO:=aa s2;have Rv:=aa (s3 jS.o cM.o);have Za:=aa (s3 IK.o HNF.o);have HU9:=aa Y9;have HR9:=aa (Im Y_);have Ce:=(pd.o.grow l7).cell
    have agd:=(pd.o.grow l7).frozen;clear sV IJ Y9 Y_ l7 s1 s2 s3 pd;go_upto_region 11 with fail;generalize ((((w9.setCell ⟨g12,0,none⟩ _).setCell ⟨g12,1,none⟩ _).setCell ⟨g12,2,none⟩ _).setCell ⟨g12,3,none⟩ _).setCell ⟨g12,4,none⟩ _=nI at Ru zO Rv Za ⊢;have sV:=Rv.o.cell;have IJ:=Za.o.cell;clear Ce agd jS IK;go_wp2_with fail;refine(wM.o ⟨xn,xp,xu⟩ d y nI Cb.o jz.o (HY.o.grow Ru.o)).mono ?_;rintro e yg ⟨YV,A1,cc1,rfl,hbs,hr1,zM⟩;obtain⟨⟨b1,ok,er⟩,hp⟩:∃p,eu xp d=p:=⟨_,rfl⟩;rw[hp] at hr1 ⊢;dsimp only at hr1 ⊢;have hcs:=qB cc1 hr1.reads.1;have Zb:=aa (Ru.o.trans zM);have age:=aa (Rv.o.grow zM);have agf:=aa (zO.o.grow zM);clear sV IJ hbs hr1 hp zM;go_wp2_with fail;go_meet
    exact⟨t9,_,c9,u9,rfl,rfl,Zb.o,age.o,agf.o,HU9.o.grow Zb.o,fun h=>YX (by obtain⟨i,-,-,-,h,-⟩:=jz.o.id;exact h) (HR9.o.resolve_right (fun k=>by rw[h] at k;cases k.2)).1⟩
  obtain⟨tb,es,c,u,rfl,rfl,kr,sV,Ce,hu,fF⟩:=hcut;obtain⟨wa,BZ⟩:∃x:World,x=wc:=⟨_,rfl⟩;subst BZ;have aZ:=aa kr;replace dg:=aa (dg.o.grow kr);replace ji:=aa (ji.o.grow kr);replace jS:=aa sV;replace pd:=aa Ce;have HU:=aa hu;have HFM:=aa fF;have Zc:=aa (aY.o.trans kr);clear kr sV Ce hu fF B_ Ca wM HX Y2 Y3 LS h_ Mb DM xD zN;go_upto_region 13 with fail;go_cut [89] from 66 to 88 (fun b wx=>∃x,b=.bool x∧Grow wa wx)
  case first =>
   cases tb with
   | false =>
    go_wp2_with fail;go_meet;exact⟨true,rfl,ah _⟩
   | true =>
    have hf:=HFM.o rfl;have agh:=aa (fun(W:World) (hg:Grow wa W)=>Qv.o u c W hf (HU.o.grow hg) (Zc.o.trans hg));have Zd:=aa (fun(W:World) (hg:Grow wa W)=>Hj.o u c W hf (HU.o.grow hg) (Zc.o.trans hg));have Ce:=pd.o.cell;have kQ:=dg.o.cell;have mN:=ji.o.cell;clear hf;by_cases h0:cl.k=0
    ·have hk1:(cl.k==0)=true:=by rw[h0];rfl
     have hk2:(cl.k != 0)=false:=by rw[h0];rfl
     clear h0;by_cases h1:ch.k=0
     ·have hk3:(ch.k==0)=true:=by rw[h1];rfl
      have hk4:(ch.k != 0)=false:=by rw[h1];rfl
      clear h1;go_wp2_with fail;go_meet;exact⟨false,rfl,(ah wa)⟩
     have hk3:(ch.k==0)=false:=by simpa using h1
     have hk4:(ch.k != 0)=true:=by simpa using h1
     have hh:=Zd.o wa (ah wa) (by rw[← Y4.o];exact h1);obtain⟨z2,hz2⟩:∃z,V.cmp u hv=z:=⟨_,rfl⟩;rw[hz2] at hh;have zF:=aa hh;clear h1 hz2 hh;go_wp2_with fail;refine zF.o.mono ?_;rintro e wd ⟨rfl,hgd⟩;have pg:=aa hgd;clear hgd;by_cases hz1:(0:Int)<z2
     ·have hzb:decide ((0:Int)<z2)=true:=bW hz1;go_wp2_with fail;go_meet;exact⟨_,rfl,(ah wa).trans pg.o⟩
     have hzb:decide ((0:Int)<z2)=false:=bX hz1;go_wp2_with fail;go_meet;exact⟨_,rfl,(ah wa).trans pg.o⟩
    have hk1:(cl.k==0)=false:=by simpa using h0
    have hk2:(cl.k != 0)=true:=by simpa using h0
    have hh:=agh.o wa (ah _) (by rw[← HLK.o];exact h0);obtain⟨z,hz⟩:∃z,V.cmp u lv=z:=⟨_,rfl⟩;rw[hz] at hh;have HH1:=aa hh;clear h0 hz hh;go_wp2_with fail;refine HH1.o.mono ?_;rintro e wb ⟨rfl,hgb⟩;have qX:=aa hgb;clear kQ mN Ce;have mN:=(ji.o.grow hgb).cell;have Ce:=(pd.o.grow hgb).cell;clear hgb;by_cases hz0:z<0
    ·have hzb:decide (z<0)=true:=bW hz0;go_wp2_with fail;go_meet;exact⟨_,rfl,qX.o⟩
    have hzb:decide (z<0)=false:=bX hz0;by_cases h1:ch.k=0
    ·have hk3:(ch.k==0)=true:=by rw[h1];rfl
     have hk4:(ch.k != 0)=false:=by rw[h1];rfl
     clear h1;go_wp2_with fail;go_meet;exact⟨false,rfl,qX.o⟩
    have hk3:(ch.k==0)=false:=by simpa using h1
    have hk4:(ch.k != 0)=true:=by simpa using h1
    have hh:=Zd.o wb qX.o (by rw[← Y4.o];exact h1);obtain⟨z2,hz2⟩:∃z,V.cmp u hv=z:=⟨_,rfl⟩;rw[hz2] at hh;have zF:=aa hh;clear h1 hz2 hh;go_wp2_with fail;refine zF.o.mono ?_;rintro e wd ⟨rfl,hgd⟩;have pg:=aa hgd;clear hgd;by_cases hz1:(0:Int)<z2
    ·have hzb:decide ((0:Int)<z2)=true:=bW hz1;go_wp2_with fail;go_meet;exact⟨_,rfl,qX.o.trans pg.o⟩
    have hzb:decide ((0:Int)<z2)=false:=bX hz1;go_wp2_with fail;go_meet;exact⟨_,rfl,qX.o.trans pg.o⟩
  obtain⟨x,rfl,hgx⟩:=hcut;obtain⟨wd,hwd⟩:∃x:World,x=wc:=⟨_,rfl⟩;subst hwd;have ow:=aa (aH.o.trans (aZ.o.trans hgx));have HOW:=aa (ki HOWN.o (aZ.o.trans hgx));have qR:=aa (show Reads (bK wd 0 wd.heap.size) 7 Ao hs.length (jR hs) from eX km (lg (S:=fun _=>False) HOW.o (fun _ _ h=>h)));have Ze:=aa (jS.o.grow hgx);have HYD:=aa (HY.o.grow (aZ.o.trans hgx));have hel:=oN.o;clear hgx HOWN
  cases x with
  | true =>
   go_wp2_with fail;go_roundg gk';exact⟨j+1,B,Ao,co,hs,by omega,by omega,by go_num,rfl,HOW.o,by omega,ow.o⟩;omega
  | false =>
   go_upto_region 16 with fail;go_loopg [19,20] (hs.length+1) (fun gk n i wk=>∃k N:Nat,k≤hs.length∧gk+k=hs.length+1∧i=.int .i64 k∧n=.int .i64 N∧N≤k∧wk=wd);exact⟨0,0,ba _,rfl,rfl,rfl,ay _,rfl⟩;obtain⟨k,N,hk,kW,rfl,rfl,Rw,hwk⟩:=hrel;obtain⟨sJ,rfl⟩:∃g,gk=g+1:=⟨gk-1,by omega⟩;subst hwk;by_cases hkl:k<hs.length
   ·obtain⟨bo,oo,rfl,qM,hcell⟩:=Hc.at_ qR.o hkl;have o0:=hcell 0 _ rfl (by omega);simp only[gf] at o0;obtain⟨he,Zf⟩:∃s,hs[k].e=s:=⟨_,rfl⟩;rw[Zf] at o0;clear hcell Zf;by_cases hls:Op.bytesLess he.toList es.toList=true
    ·go_wp2_with fail;go_roundg sJ;exact⟨k+1,k+1,by omega,by omega,by go_num,by go_num,ay _,rfl⟩;omega
    replace hls:Op.bytesLess he.toList es.toList=false:=by simpa using hls
    go_wp2_with fail;go_roundg sJ;exact⟨k+1,N,by omega,by omega,by go_num,rfl,by omega,rfl⟩;omega
   have GI:k=hs.length:=by omega
   subst GI;have hi0:(0:Int)≤(N:Int):=by omega
   have hi1:(N:Int)≤(hs.length:Int):=by omega
   have iW:=aa (nr HOW.o).1;have hi2:(N:Int)≤(co:Int):=by have:=iW.o;omega
   obtain⟨kk,hkk⟩:∃s,uQ d=s:=⟨_,rfl⟩;have IL:=aa hkk;clear hkk;have hsh:=af1 (A:=Ao) (i:=N) Rw iW.o;go_upto_region 22 with (at_builtin;refine BM (w0:=wr) (.tmp 105) (.tmp 108) 132 135 7 120 _ Ez Rn rfl rfl rfl (af0 qR.o N co Rw) (by omega) (by simp only[maxLen];omega) (ah _) ?_;intro A6 c6 w6 kR cH);clear hsh;have sW:=aa kR;have bp:=aa cH;have iT:=aa (fun(W:World) (hg:Grow w6 W)=>show ∀i,W.cell? ⟨g11,i,none⟩=y.cells[i]? from (Ze.o.grow (bp.o.trans hg)).cell);clear kR cH;refine dN ?_;refine dO (S:=fun w'=>∀i,w'.cell? ⟨g11,i,none⟩=y.cells[i]?) (by kernel_rfl) (iT.o _ (ah _).drew) (fun hHeld=>?_);have jc:=aa (show Grow w6 w6.drew from (ah _).drew);generalize w6.drew=W0 at jc hHeld ⊢;refine aJ 0 ?_
   try simp only[ak]
   refine aJ 1 ?_
   try simp only[ak]
   refine aj 2 ?_;refine aj 4 ?_;refine aK 3 (fun K hK=>?_);have hC:=uS.o d y W0 jz.o (HYD.o.grow (bp.o.trans jc.o));rw[IL.o] at hC;go_simp;go_at_call 71;refine hC.mono ?_;rintro ee W1 ⟨rfl,hg1⟩;refine hK.out _ _ (iT.o _ (jc.o.trans hg1)) (fun hHeld=>?_);clear hC;clear hK K
   try simp only[ak]
   refine aJ 5 ?_
   try simp only[ak]
   refine aK 6 (fun K hK=>?_);go_simp;refine aU hK (iT.o _ ((jc.o.trans hg1).alloc _)) (fun hHeld=>?_);clear hK K;refine aK 7 (fun K hK=>?_);refine af5 (w0:=wr) (by rfl) (.tmp 110) (.tmp 116) 132 135 (by rfl) 7 120 _ Ez Rn rfl (by rfl) ((ki sW.o (jc.o.trans hg1)).alloc _) (by rfl) (af3 ⟨es,kk,y⟩ (aD W1 135 (Hc.cells ⟨es,kk,y⟩))) (by omega) (by simp only[maxLen];omega) ((bp.o.trans (jc.o.trans hg1)).alloc _) ?_;intro A7 c7 w7 fM b_;refine aU hK ((Ze.o.grow b_).cell) (fun hHeld=>?_);clear hK K;refine aJ 8 ?_
   try simp only[ak]
   refine cz ?_;have pj:=aa fM;have aX:=aa b_;clear hHeld fM b_ hg1;have iy:=aa (eX (fk aX.o.below (ay _) (ay _) aX.o.size) qR.o);obtain⟨AZ,hsl,hsrc⟩:=af2 (A:=Ao) (i:=N) Rw iW.o;have jk:=aa hsrc;clear hsrc;go_upto_region 4 with (at_builtin;refine sS (w0:=wr) (.tmp 118) (.tmp 121) 132 135 7 120 _ Ez Rn rfl rfl pj.o rfl (jk.o _ _ _ iy.o) (by omega) (by simp only[maxLen];omega) aX.o ?_;intro A8 c8 w8 cN cY);clear hsl;have hlen:N+1+(hs.length-N)=(cZ hs N (⟨es,kk,y⟩:Hc)).length:=by
    rw[uw];omega
   have yh:=aa (af4 cN hlen);have cD:=aa cY;have HLEN:=aa hlen;clear cN cY hlen;go_wp2_with fail;go_roundg gk';exact⟨j+1,wr.heap.size,A8,c8,cZ hs N ⟨es,kk,y⟩,by omega,by omega,by go_num,by rw[← HLEN.o],yh.o,by rw[uw];omega,ow.o.trans cD.o⟩;omega
 have hjl:j=ag.length:=by omega
 subst hjl;clear hgr;go_wp2_with fail;go_ret;exact⟨Ao,co,hs,rfl,eX km (lg (S:=fun _=>False) HOWN.o (fun _ _ h=>h)),oN.o,(nr HOWN.o).1,aY.o⟩
end
end Go.Proofs.YtndjopkdbdcmdaaGreatDoor
