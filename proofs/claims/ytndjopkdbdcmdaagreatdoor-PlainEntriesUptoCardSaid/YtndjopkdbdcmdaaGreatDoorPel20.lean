/- Part 20 of the proof of pentries_card. -/
import Derived.Test.YtndjopkdbdcmdaaGreatDoorPel19
set_option linter.unusedVariables false
set_option linter.unusedSimpArgs false
set_option maxRecDepth 100000
set_option maxHeartbeats 12800000
open Go.Proofs.Tryz
namespace Go.Proofs.YtndjopkdbdcmdaaGreatDoor
section
open Go.RowKit
theorem ah1{ops:Array Oper}{rest:List Oper}{Q:Exit→Act→World→Prop}{a:Act}{w:World}(base:Nat)(s x:Operand)(t e:TypeId)(z gi:Nat)(zv:Value)(ht:prog.underlying t=some (.slice e))(hi:(prog.info? e).map (fun i=>(i.zero,i.size,i.bytes))=some (some zv,z,gi))(hzs:zv.cells.size=z){d:Option Tmp}{tt:TypeId}{p:String}{af:Array Edge}
 {v:Value} {n:Nat} {xs:List Value} (hv:a.eval s=v) (hown:w.ownsRow base e z v n xs) {u:Value} {m:Nat} {news:List Value} (hx:a.eval x=u) (hs:Src prog z t u m news w) (hb:(n+m)*gi≤140737488355328) (h63:n+m≤maxLen) (hg0:base≤w.heap.size)
 (h:∀A c w',w'.ownsRow base e z (.slice A (n+m) c) (n+m) (xs++news)→w.grownBy w' v.ownBlock→wpList prog ops Q rest (a.put d (.slice A (n+m) c)) w') :
 wpList prog ops Q (⟨d,.call { callee:=.builtin .append,args:=#[s,x],argTypes:=#[t,t] },tt,p,af,none⟩::rest) a w:=by
 obtain⟨i0,h0,h1,h2,h3⟩:=info_parts hi;exact sO rfl s x t t rfl base e i0 zv z gi ht h0 h1 h2 h3 hzs v n xs hv hown u m news hx hs hb h63 hg0 (fun A c w' k1 k2 k3=>h A c w' k1 k2)
theorem Il{ops:Array Oper}{o:Oper}{a:Act}{K:Act→World→Prop}{Q:Exit→Act→World→Prop}{E:Prop}{w:World}(base:Nat)(hgd:o.guard=none)(s x:Operand)(t e:TypeId)(ho:o.op=.call { callee:=.builtin .append,args:=#[s,x],argTypes:=#[t,t] })(z gi:Nat)(zv:Value)(ht:prog.underlying t=some (.slice e))(hi:(prog.info? e).map (fun i=>(i.zero,i.size,i.bytes))=some (some zv,z,gi))(hzs:zv.cells.size=z)
 {v:Value} {n:Nat} {xs:List Value} (hv:a.eval s=v) (hown:w.ownsRow base e z v n xs) {u:Value} {m:Nat} {news:List Value} (hx:a.eval x=u) (hs:Src prog z t u m news w) (hb:(n+m)*gi≤140737488355328) (h63:n+m≤maxLen) (hg0:base≤w.heap.size)
 (h:∀A c w',w'.ownsRow base e z (.slice A (n+m) c) (n+m) (xs++news)→w.grownBy w' v.ownBlock→K (a.put o.dst (.slice A (n+m) c)) w') :
 if Region.wanted o (yielded ops a.tmps)=true then Oper.wp prog o a w K Q else E:=by
 obtain⟨i0,h0,h1,h2,h3⟩:=info_parts hi;exact jP hgd s x t t ho base e i0 zv z gi ht h0 h1 h2 h3 hzs v n xs hv hown u m news hx hs hb h63 hg0 (fun A c w' k1 k2 _=>h A c w' k1 k2)
theorem ZL{ops:Array Oper}{o:Oper}{a:Act}{K:Act→World→Prop}{Q:Exit→Act→World→Prop}{E:Prop}{w:World}(base:Nat)(hgd:o.guard=none)(s x:Operand)(t e:TypeId)(ho:o.op=.call { callee:=.builtin .append,args:=#[s,x],argTypes:=#[t,t] })(z gi:Nat)(zv:Value)(ht:prog.underlying t=some (.slice e))(hi:(prog.info? e).map (fun i=>(i.zero,i.size,i.bytes))=some (some zv,z,gi))(hzs:zv.cells.size=z)
 (hv:a.eval s=.slice none 0 0) {u:Value} {m:Nat} {news:List Value} (hx:a.eval x=u) (hs:Src prog z t u m news w) (hb:m*gi≤140737488355328) (h63:m≤maxLen) (hg0:base≤w.heap.size)
 (h:∀A c w',w'.ownsRow base e z (.slice A m c) m news→w.grownBy w' (Value.slice none 0 0).ownBlock→K (a.put o.dst (.slice A m c)) w') :
 if Region.wanted o (yielded ops a.tmps)=true then Oper.wp prog o a w K Q else E:=
 Il base hgd s x t e ho z gi zv ht hi hzs hv (iH _ _ _ _) hx hs (by rw[dg];exact hb) (by omega) hg0 (fun A c w' k1 k2=>by
  rw[dg,mF] at k1;rw[dg];exact h A c w' k1 k2)
def ZM(N:Nat)(w:World)(e:Ending)(w':World):Prop:=∃st A c x n B m k u,e=.returned (.tuple #[.agg #[.slice A st.length c],.agg (dD x n B m k u)])∧dR w' A c st∧ed (N+1) st∧Grow w w'
theorem ZN:(prog.info? 33).map (·.size)=some 26:=by kernel_rfl
theorem ZO{F:Func}{W:World}{ob rb:Nat}{tmps:Array Value}{u:Value}{e n k:Int}{B:Option Addr}{m d:Nat}(hF:F.results=#[ResultVar.cell 4 44,ResultVar.cell 5 31])(h4:tmps.getD 4 undef=.pointer (some ⟨ob,0,none⟩))(h5:tmps.getD 5 undef=.pointer (some ⟨rb,0,none⟩))(ho:Blk W ob 44 #[u])(hr:Blk W rb 31 (dD e n B m d k)) :
 (results F tmps).run prog W=.ok (.tuple #[.agg #[u],.agg (dD e n B m d k)]) W:=by
 have rE:∀i,W.cell? ⟨ob,i,none⟩=(#[u]:Array Value)[i]?:=ho.cell;have hrc:∀i,W.cell? ⟨rb,i,none⟩=(#[.int .i64 e,.int .i64 n,.slice B m d,.int .i64 k]:Array Value)[i]?:=hr.cell;have h4':tmps[4]?.getD undef=.pointer (some ⟨ob,0,none⟩):=by simpa using h4
 have wJ:tmps[5]?.getD undef=.pointer (some ⟨rb,0,none⟩):=by simpa using h5
 simp[results,hF,go_sem,h4',wJ,rE,hrc]
theorem mW{N:Nat}{w W:World}{g4 g5:Nat}{A B:Option Addr}{l c m d:Nat}{e n:Int}{st:List Co}{a:Act}(hg:Grow w W)(h4:w.heap.size≤g4)(h5:w.heap.size≤g5)(hne:g4≠g5)(H4:Blk W g4 44 #[.slice none 0 0])(H5:Blk W g5 31 (dD 0 0 none 0 0 0))(hs:dR W A c st)(ho:ed (N+1) st)(hl:l=st.length)
 (hd:a.defers=[]) (t4:a.tmps.getD 4 undef=.pointer (some ⟨g4,0,none⟩)) (t5:a.tmps.getD 5 undef=.pointer (some ⟨g5,0,none⟩)) :
 bodyPost prog f35 (ZM N w) .ret a (((((W.setCell ⟨g4,0,none⟩ (.slice A l c)).setCell ⟨g5,0,none⟩ (.int .i64 e)).setCell ⟨g5,1,none⟩ (.int .i64 n)).setCell ⟨g5,2,none⟩ (.slice B m d)).setCell ⟨g5,3,none⟩ (.int .i64 0)):=by
 obtain⟨r1,r2,r3,r4,-⟩:=GS (A':=A) (l':=l) (c':=c) (e':=e) (n':=n) (B':=B) (m':=m) (d':=d) (k':=0) hg h4 h5 hne H4 H5;subst hl;exact gK (ZO rfl t4 t5 r2 r3) hd ⟨st,A,c,_,_,_,_,_,_,rfl,r4 hs,ho,r1⟩
theorem ah2(e:Int)(A:Option Addr)(l c:Nat)(w:World) :
 Calls prog 68 #[.agg #[.slice A l c],.int .i64 e] w fun e' w'=>e'=.returned (.tuple #[.agg #[.slice A l c],.agg #[.int .i64 e,.int .i64 0,.slice none 0 0,.int .i64 0]])∧Grow w w':=by
 have HG:=aa ((((ah w).alloc (.cells #[.slice A l c] 44)).alloc (.cells #[.slice none 0 0] 44)).alloc (.cells (dD 0 0 none 0 0 0) 31));have aG:=aa (((aH w 44 #[.slice A l c]).alloc (.cells #[.slice none 0 0] 44)).alloc (.cells (dD 0 0 none 0 0 0) 31));have au:=aa ((df (w:=w.alloc (.cells #[.slice A l c] 44)) (g:=w.heap.size+1) (by simp) 44 #[.slice none 0 0]).alloc (.cells (dD 0 0 none 0 0 0) 31));have ay:=aa (df (w:=(w.alloc (.cells #[.slice A l c] 44)).alloc (.cells #[.slice none 0 0] 44)) (g:=w.heap.size+1+1) (by simp) 31 (dD 0 0 none 0 0 0));go_enter func68,ntmps68;go_upto_region 1 with fail;generalize ((w.alloc (.cells #[.slice A l c] 44)).alloc (.cells #[.slice none 0 0] 44)).alloc (.cells (dD 0 0 none 0 0 0) 31)=w3 at HG aG au ay ⊢;have hb2:=aG.o.cell;have hb4:=au.o.cell
 have dt:∀i,w3.cell? ⟨w.heap.size+1+1,i,none⟩=(#[.int .i64 0,.int .i64 0,.slice none 0 0,.int .i64 0]:Array Value)[i]?:=ay.o.cell;have h_:=au.o.frozen;have i6:=ay.o.frozen;have hn:w.heap.size+1≠w.heap.size+1+1:=by omega
 go_wp2_with fail;refine gK (ZO (ob:=w.heap.size+1) (rb:=w.heap.size+1+1) (u:=.slice A l c) (e:=e) (n:=0) (k:=0) (B:=none) (m:=0) (d:=0) rfl rfl rfl ?_ ?_) rfl ?_
 ·exact((((au.o.bg 0 _).far (p:=⟨w.heap.size+1+1,0,none⟩) hn _).far (p:=⟨w.heap.size+1+1,1,none⟩) hn _).far (p:=⟨w.heap.size+1+1,2,none⟩) hn _).far (p:=⟨w.heap.size+1+1,3,none⟩) hn _
 ·exact((((ay.o.far (p:=⟨w.heap.size+1,0,none⟩) (fun e=>hn e.symm) _).bg 0 _).bg 1 _).bg 2 _).bg 3 _
 refine⟨rfl,?_⟩;exact((((HG.o.setCell (p:=⟨w.heap.size+1,0,none⟩) (fg _) _).setCell (p:=⟨w.heap.size+1+1,0,none⟩) (by dsimp only;omega) _).setCell (p:=⟨w.heap.size+1+1,1,none⟩) (by dsimp only;omega) _).setCell (p:=⟨w.heap.size+1+1,2,none⟩) (by dsimp only;omega) _).setCell (p:=⟨w.heap.size+1+1,3,none⟩) (by dsimp only;omega) _
theorem ah3(N cap:Nat)(A:Option Addr)(st:List Co)(d:Int)(co ix pa:ByteArray)(un:Bool)(kv lv hv dv:V)(n:Int)(ck cl ch cx:Cv)(w:World)(hst:dR w A cap st)(hok:ed N st)(hN:N≤1000000)(hR:uo ⟨d,co,ix,pa,un,kv,lv,hv,dv,n⟩)(hB:Bl ⟨d,co,ix,pa,un,kv,lv,hv,dv,n⟩)(hk:In w kv ck)(hl:In w lv cl)(hh:In w hv ch)(hx:In w dv cx) :
 Calls prog 35 #[.agg #[.slice A st.length cap],.agg (cP d co ix pa un ck cl ch cx n)] w (ZM N w):=by
 have HST:=aa hst;have cJ:=aa hok;have HN:=aa hN;have HR:=aa hR;have HB:=aa hB;have HK:=aa hk;have HL:=aa hl;have HH:=aa hh;have HX:=aa hx;have hn:=hok.n;have ZP:=aa (fun(W:World) (hg:Grow w W)=>agk N cap A st ⟨d,co,ix,pa,un,kv,lv,hv,dv,n⟩ ck cl ch cx W (hst.grow hg) hok hR hB (hk.grow hg) (hl.grow hg) (hh.grow hg) (hx.grow hg));have HC:=aa (fun(W:World) (hg:Grow w W)=>KQ st co A cap W (hst.grow hg) hok.oz (by omega));have BC:=aa (fun(e:Int) (W:World)=>ah2 e A st.length cap W);have HG:=aa (((((ah w).alloc (.cells #[.slice A st.length cap] 44)).alloc (.cells (cP d co ix pa un ck cl ch cx n) 33)).alloc (.cells #[.slice none 0 0] 44)).alloc (.cells (dD 0 0 none 0 0 0) 31))
 have aC:=aa ((((aH w 44 #[.slice A st.length cap]).alloc (.cells (cP d co ix pa un ck cl ch cx n) 33)).alloc (.cells #[.slice none 0 0] 44)).alloc (.cells (dD 0 0 none 0 0 0) 31));have aw:=aa (((df (w:=w.alloc (.cells #[.slice A st.length cap] 44)) (g:=w.heap.size+1) (by simp) 33 (cP d co ix pa un ck cl ch cx n)).alloc (.cells #[.slice none 0 0] 44)).alloc (.cells (dD 0 0 none 0 0 0) 31));have au:=aa ((df (w:=(w.alloc (.cells #[.slice A st.length cap] 44)).alloc (.cells (cP d co ix pa un ck cl ch cx n) 33)) (g:=w.heap.size+1+1) (by simp) 44 #[.slice none 0 0]).alloc (.cells (dD 0 0 none 0 0 0) 31))
 have ay:=aa (df (w:=((w.alloc (.cells #[.slice A st.length cap] 44)).alloc (.cells (cP d co ix pa un ck cl ch cx n) 33)).alloc (.cells #[.slice none 0 0] 44)) (g:=w.heap.size+1+1+1) (by simp) 31 (dD 0 0 none 0 0 0));clear hst hok hN hR hB hk hl hh hx;go_enter func35,ntmps35;go_upto_region 1 with fail;generalize (((w.alloc (.cells #[.slice A st.length cap] 44)).alloc (.cells (cP d co ix pa un ck cl ch cx n) 33)).alloc (.cells #[.slice none 0 0] 44)).alloc (.cells (dD 0 0 none 0 0 0) 31)=w3 at HG aC aw au ay ⊢;obtain⟨g4,hg4⟩:∃g,w.heap.size+1+1=g:=⟨_,rfl⟩;obtain⟨g5,cr⟩:∃g,w.heap.size+1+1+1=g:=⟨_,rfl⟩;have H4:=aa (show w.heap.size≤g4 by omega);have H5:=aa (show w.heap.size≤g5 by omega);have cj:=aa (show g4≠g5 by omega)
 have jU:=aa (show w.heap.size≠g4∧w.heap.size≠g5 by omega);have ZQ:=aa (show w.heap.size+1≠g4∧w.heap.size+1≠g5 by omega);simp only[cr] at ay ⊢;simp only[hg4] at au ⊢;clear hg4 cr;go_wp2_with (first | ((with_reducible refine ZR 44 ?_);refine ZT (g:=w.heap.size) (n:=1) (cells:=#[.slice A st.length cap]) underlying44 rfl rfl aC.o Xa rfl ?_) | ((with_reducible refine ZR 33 ?_);refine ZT (g:=w.heap.size+1) (n:=26) (cells:=(cP d co ix pa un ck cl ch cx n)) underlying33 rfl rfl aw.o ZN rfl ?_));refine(ZP.o _ HG.o).mono ?_;rintro e w4 ⟨x,rfl,hx0,hg⟩;replace HG:=aa (HG.o.trans hg);replace aC:=aa (aC.o.grow hg);replace aw:=aa (aw.o.grow hg);replace au:=aa (au.o.grow hg);replace ay:=aa (ay.o.grow hg);clear hg;by_cases ZU:x=0
 ·subst ZU;have xQ:=aa (hx0 rfl);clear hx0 ZP;by_cases hd1:d=1
  ·subst hd1;have BD:=aa (xQ.o.make rfl);have hmk:=BD.o.2.1;dsimp only at hmk;rw[Bn hmk] at HC;have hbs:=aC.o.cell;have q1:_=some (Value.string co):=aw.o.cell 1;clear hmk;go_wp2_with fail;clear hbs q1;refine(HC.o _ HG.o).mono ?_;rintro e w5 ⟨rfl,hg⟩;replace HG:=aa (HG.o.trans hg);replace aC:=aa (aC.o.grow hg);replace aw:=aa (aw.o.grow hg);replace au:=aa (au.o.grow hg);replace ay:=aa (ay.o.grow hg);clear hg HC;have hbs:=aC.o.cell;have q0:_=some (Value.int .i64 1):=aw.o.cell 0;go_upto_region 8 with fail;clear hbs q0;have GX:=aa (show bX (bh st) co=eI (gF (bh st)) co.data.toList from (Gi _ _).trans (Gh cJ.o.oz))
   go_loopg [8,9] (st.length+1) (fun gk n i wr=>∃j:Nat,j≤st.length∧gk+j=st.length+1∧i=.int .i64 j∧n=.int .i64 (eI ((gF (bh st)).take j) co.data.toList:Nat)∧Grow w5 wr);exact⟨0,aS _,rfl,rfl,by simp[eI],ah _⟩;obtain⟨j,hj,iB,rfl,rfl,hgr⟩:=hrel;obtain⟨gk',rfl⟩:=bP gk (by omega);have aO:=aa hgr;obtain⟨M,hM⟩:∃M,eI ((gF (bh st)).take j) co.data.toList=M:=⟨_,rfl⟩;rw[hM];have G9:=aa hM;have K5:=cJ.o.n;replace HG:=aa (HG.o.trans hgr);replace aC:=aa (aC.o.grow hgr);replace aw:=aa (aw.o.grow hgr);replace au:=aa (au.o.grow hgr);replace ay:=aa (ay.o.grow hgr);clear hM hgr;have hbs:=aC.o.cell;have q1:_=some (Value.string co):=aw.o.cell 1;by_cases hlt:j<st.length
   ·obtain⟨bk,o,e,rfl,hbk,aW,hcell⟩:=(HST.o.grow HG.o).rS j hlt;have c0:=hcell 0 _ rfl (by omega);simp only[fF] at c0;have ue:=aa (PV cJ.o.oz co.data.toList (j:=j) (by rw[cY,cY];exact hlt));have h1:=aW.nm;obtain⟨nm,dA,dn,dc,xA,xn,xc⟩:=e;dsimp only at h1;have ZV:=aa h1.symm;have DD:(j:Int)<(st.length:Int):=by omega
    have Fw:(0:Int)≤(j:Int):=by omega
    clear hcell aW h1;by_cases hls:cD nm.toList co.toList=true
    ·have hl2:Op.bytesLess nm.toList co.toList=true:=by rw[xD];exact hls
     have lK:=aa hls;clear hls;go_upto_region 10 with fail;go_quiet (fail);go_wp2_with fail;go_roundg gk';refine⟨j+1,by omega,by omega,by go_num,?_,aO.o.trans ((ah _).drewN _)⟩;rw[ue.o];simp only[jb,ZV.o];rw[ar (by have:=lK.o;rwa [toList_data,toList_data] at this)];go_num;omega
    have hl2:Op.bytesLess nm.toList co.toList=false:=by rw[xD];simpa using hls
    have lK:=aa hls;clear hls;go_upto_region 10 with fail;go_quiet (fail);go_wp2_with fail;go_roundg gk';refine⟨j+1,by omega,by omega,by go_num,?_,aO.o.trans ((ah _).drewN _)⟩;rw[ue.o];simp only[jb,ZV.o];rw[ai (by have:=lK.o;rwa [toList_data,toList_data] at this),G9.o];omega
   have hjl:j=st.length:=by omega
   subst hjl;have Rn:M=bX (bh st) co:=by
    rw[GX.o,← G9.o,pV (by rw[cY,cY];exact av _)]
   have mU:=aa (show ed (N+1) (cK st M ⟨co,[],[]⟩) from AH (q:=⟨1,co,ix,pa,un,kv,lv,hv,dv,n⟩) (n:=0) (ag:=[]) cJ.o HR.o.fit HR.o.doc (by
    show mN st ⟨1,co,ix,pa,un,kv,lv,hv,dv,n⟩=_;unfold mN;dsimp only;rw[ai (by rw[BD.o.1];decide),ai (by rw[BD.o.2.1];decide),ai BD.o.2.2,Rn]))
   have hpl:=O6 (bh st) co;rw[cY,← Rn] at hpl;obtain⟨hcap,es,BF,zj⟩:=HST.o;have Ro:=aa BF;have Bj:=aa zj;have hel:es.length=st.length:=BF.1;have lN:=aa hel;have hi0:(0:Int)≤(M:Int):=by omega
   have hi1:(M:Int)≤(st.length:Int):=by omega
   have hi2:(M:Int)≤(cap:Int):=by omega
   clear BF zj Rn q1 GX;go_upto_region 13 with fail;have cG:=aa (aH wr 44 #[.slice none 0 0]);have cM:=aa ((ah wr).alloc (.cells #[.slice none 0 0] 44));have hl4:=au.o.lt;have qN:=ay.o.lt;obtain⟨gx,hgx⟩:∃g,wr.heap.size=g:=⟨_,rfl⟩;have eU:=aa hgx;have se:=aa (show gx≠g4∧gx≠g5 by omega);rw[hgx] at cG ⊢;clear hgx hl4 qN;generalize wr.alloc (.cells #[.slice none 0 0] 44)=w7 at cG cM ⊢;refine dN ?_;refine dO (S:=fun w'=>Grow wr w') (by kernel_rfl) (cM.o.trans (ah _).drew) (fun hHeld=>?_);have az:=aa (show Grow w7 w7.drew from (ah _).drew);generalize w7.drew=W0 at az hHeld ⊢;refine aK 0 ?_
   try simp only[ak]
   refine aK 2 ?_
   try simp only[ak]
   refine aj 3 (hy:=bj fun w ax=>by have b:=(aC.o.grow ax).cell;clear ax;go_simp;try rfl) ?_;refine aK 4 ?_
   try simp only[ak]
   refine pq (i:=5) (v:=.slice A M cap) (by simp only[uV,uW,uX];rfl) (by kernel_rfl) (by kernel_rfl) (by kernel_rfl) (fun _ _ _ h=>h) (Or.inl ⟨by rfl,fun w _=>YV (n:=st.length) (by rfl) (by rfl) (by omega) (by omega)⟩) (by assumption) ?_
   try simp only[ak]
   refine aR 1 (fun K hK=>?_);have gH:∀i,W0.cell? ⟨gx,i,none⟩=(#[.slice none 0 0]:Array Value)[i]?:=(cG.o.grow az.o).cell;go_simp;clear gH;refine aV hK (cM.o.trans az.o) (fun hHeld=>?_);clear hK K;refine aR 6 (fun K hK=>?_);refine ZL (gx+1) (by rfl) (.tmp 67) (.tmp 71) 42 48 (by rfl) 3 64 _ vU D4 rfl (by rfl) (by first | rfl | (rw[add_lit];rfl)) (YQ (dW (eO (HG.o.trans (cM.o.trans az.o)).below (av _) (av _) (HG.o.trans (cM.o.trans az.o)).size) Bj.o) M cap (by omega)) (by omega) (by simp only[maxLen];omega) (by have:=cG.o.lt;have:=az.o.size;omega) ?_;intro A8 c8 w8 cX dz;have gp:=aa ((cG.o.grow az.o).own dz (fun k hk=>by have:=(bO (iH W0 (gx+1) 48 3) k hk).1;omega))
   have gU:=aa ((cM.o.trans az.o).grown dz (fun k hk=>by have:=(bO (iH W0 (gx+1) 48 3) k hk).1;have:=eU.o;omega));have jl:=aa cX;clear cX dz;refine hK.out _ _ gU.o (fun hHeld=>?_);clear hK K
   try simp only[ak]
   refine aK 7 ?_
   try simp only[ak]
   refine aR 8 (fun K hK=>?_);have gH:∀i,w8.cell? ⟨gx,i,none⟩=(#[.slice none 0 0]:Array Value)[i]?:=gp.o.cell;have oP:=gp.o.frozen;go_simp;clear gH oP;refine aV hK (gU.o.setCell (p:=⟨gx,0,none⟩) (by dsimp only;have:=eU.o;omega) _) (fun hHeld=>?_);clear hK K;refine cz ?_;clear hHeld;have lU:=aa (show Blk (w8.setCell ⟨gx,0,none⟩ (.slice A8 (M) c8)) gx 44 #[.slice A8 (M) c8] from gp.o.bg 0 (.slice A8 (M) c8));have lV:=aa (gD jl.o ((eK (S:=fun x=>x=gx) w8).set (p:=⟨gx,0,none⟩) rfl (.slice A8 (M) c8)) (fun g hg e=>by
    have:=(bO jl.o g (by rw[cE];exact hg)).1;omega))
   have lW:=aa (gU.o.setCell (p:=⟨gx,0,none⟩) (by dsimp only;have:=eU.o;omega) (.slice A8 (M) c8));clear gp jl gU
   try clear cG
   try clear HOW
   try clear cM
   try clear az
   generalize w8.setCell ⟨gx,0,none⟩ (.slice A8 (M) c8)=w9 at lU lV lW ⊢;have cG:=lU;have HOW:=lV;have cM:=lW;clear lU lV lW;have fq:=cG.o.cell;have q1:_=some (Value.string co):=(aw.o.grow cM.o).cell 1;go_upto_region 15 with (at_builtin;refine ah1 (gx+1) (.tmp 75) (.tmp 79) 42 48 3 64 _ vU D4 rfl rfl (HOW.o.alloc _) rfl (agG ⟨co,none,0,0,none,0,0⟩ (aH w9 48 (Cc.cells ⟨co,none,0,0,none,0,0⟩))) (by omega) (by simp only[maxLen];omega) (a_ cG.o.lt ((ah w9).alloc _).size) ?_;intro A9 c9 wp kC nO;have gp:=aa (((cG.o.alloc _).own nO (fun k hk=>by have:=(bO HOW.o k hk).1;omega)));have fq:=gp.o.cell;have hfx:=gp.o.frozen);have jl:=aa kC
   have gU:=aa ((cM.o.alloc _).grown nO (fun k hk=>by have:=(bO HOW.o k hk).1;have:=eU.o;omega));clear kC nO q1 fq hfx;have lU:=aa (show Blk (wp.setCell ⟨gx,0,none⟩ (.slice A9 (M+1) c9)) gx 44 #[.slice A9 (M+1) c9] from gp.o.bg 0 (.slice A9 (M+1) c9));have lV:=aa (gD jl.o ((eK (S:=fun x=>x=gx) wp).set (p:=⟨gx,0,none⟩) rfl (.slice A9 (M+1) c9)) (fun g hg e=>by
    have:=(bO jl.o g (by rw[cE];exact hg)).1;omega))
   have lW:=aa (gU.o.setCell (p:=⟨gx,0,none⟩) (by dsimp only;have:=eU.o;omega) (.slice A9 (M+1) c9));clear gp jl gU
   try clear cG
   try clear HOW
   try clear cM
   try clear az
   generalize wp.setCell ⟨gx,0,none⟩ (.slice A9 (M+1) c9)=oL at lU lV lW ⊢;have cG:=lU;have HOW:=lV;have cM:=lW;clear lU lV lW;obtain⟨AZ,Im⟩:∃AZ,(if cap=M then A else Option.map (fun x:Addr=>x.add (M*3)) A)=AZ:=⟨_,rfl⟩;have Io:=aa Im;clear Im;refine dN ?_;refine dO (S:=fun w'=>Grow wr w') (by kernel_rfl) (cM.o.trans (ah _).drew) (fun hHeld=>?_);have az:=aa (show Grow oL oL.drew from (ah _).drew);generalize oL.drew=W0 at az hHeld ⊢;refine aK 0 ?_
   try simp only[ak]
   refine aK 2 ?_
   try simp only[ak]
   refine aj 3 (hy:=bj fun w ax=>by have b:=(aC.o.grow ax).cell;clear ax;go_simp;try rfl) ?_;refine aK 4 ?_
   try simp only[ak]
   refine pq (i:=5) (v:=.slice AZ (st.length-M) (cap-M)) (by simp only[uV,uW,uX];rfl) (by kernel_rfl) (by kernel_rfl) (by kernel_rfl) (fun _ _ _ h=>h) (Or.inl ⟨by rfl,fun w _=>(YU (A:=A) (n:=st.length) (cap:=cap) (i:=M) (by rfl) (by rfl) (by omega) (by omega)).trans (by rw[Io.o])⟩) (by assumption) ?_
   try simp only[ak]
   refine aR 1 (fun K hK=>?_);have gH:∀i,W0.cell? ⟨gx,i,none⟩=(#[.slice A9 (M+1) c9]:Array Value)[i]?:=(cG.o.grow az.o).cell;go_simp;clear gH;refine aV hK (cM.o.trans az.o) (fun hHeld=>?_);clear hK K;refine aR 6 (fun K hK=>?_);refine Il (gx+1) (by rfl) (.tmp 83) (.tmp 87) 42 48 (by rfl) 3 64 _ vU D4 rfl (by rfl) (kr HOW.o az.o) (by first | rfl | (rw[add_lit];rfl)) ((by have h:=YR (dW (eO (HG.o.trans (cM.o.trans az.o)).below (av _) (av _) (HG.o.trans (cM.o.trans az.o)).size) Bj.o) M (cap-M) cap (by omega) (by omega);rw[Io.o] at h;exact h)) (by omega) (by simp only[maxLen];omega) (by have:=cG.o.lt;have:=az.o.size;omega) ?_;intro ja c10 wq cX dz
   have gp:=aa ((cG.o.grow az.o).own dz (fun k hk=>by have:=(bO HOW.o k hk).1;omega));have gU:=aa ((cM.o.trans az.o).grown dz (fun k hk=>by have:=(bO HOW.o k hk).1;have:=eU.o;omega));have jl:=aa cX;clear cX dz;refine hK.out _ _ gU.o (fun hHeld=>?_);clear hK K
   try simp only[ak]
   refine aK 7 ?_
   try simp only[ak]
   refine aR 8 (fun K hK=>?_);have gH:∀i,wq.cell? ⟨gx,i,none⟩=(#[.slice A9 (M+1) c9]:Array Value)[i]?:=gp.o.cell;have oP:=gp.o.frozen;go_simp;clear gH oP;refine aV hK (gU.o.setCell (p:=⟨gx,0,none⟩) (by dsimp only;have:=eU.o;omega) _) (fun hHeld=>?_);clear hK K;refine cz ?_;clear hHeld;have lU:=aa (show Blk (wq.setCell ⟨gx,0,none⟩ (.slice ja ((M+1)+(st.length-M)) c10)) gx 44 #[.slice ja ((M+1)+(st.length-M)) c10] from gp.o.bg 0 (.slice ja ((M+1)+(st.length-M)) c10));have lV:=aa (gD jl.o ((eK (S:=fun x=>x=gx) wq).set (p:=⟨gx,0,none⟩) rfl (.slice ja ((M+1)+(st.length-M)) c10)) (fun g hg e=>by
    have:=(bO jl.o g (by rw[cE];exact hg)).1;omega))
   have lW:=aa (gU.o.setCell (p:=⟨gx,0,none⟩) (by dsimp only;have:=eU.o;omega) (.slice ja ((M+1)+(st.length-M)) c10));clear gp jl gU
   try clear cG
   try clear HOW
   try clear cM
   try clear az
   generalize wq.setCell ⟨gx,0,none⟩ (.slice ja ((M+1)+(st.length-M)) c10)=uq at lU lV lW ⊢;have cG:=lU;have HOW:=lV;have cM:=lW;clear lU lV lW;have hlen:(M+1)+(st.length-M)=(cK st M ⟨co,[],[]⟩).length:=by
    rw[cK,bD,aU,eD,iI];omega
   have zu:=aa (YS (es:=(es.take M++(⟨co,none,0,0,none,0,0⟩:Cc)::es.drop M)) (st:=(cK st M ⟨co,[],[]⟩)) HOW.o (by rw[YT];simp[dw]) hlen ((Ro.o.grow (HG.o.trans cM.o)).ins M (agI co)));replace HG:=aa (HG.o.trans cM.o);replace au:=aa (au.o.grow cM.o);replace ay:=aa (ay.o.grow cM.o);rw[hlen] at cG;clear HOW cM hlen;have fq:=cG.o.cell;have hb4:=au.o.cell;have h_:=au.o.frozen;have dt:∀i,uq.cell? ⟨g5,i,none⟩=(#[.int .i64 0,.int .i64 0,.slice none 0 0,.int .i64 0]:Array Value)[i]?:=ay.o.cell;have i6:=ay.o.frozen;have sB:=cj.o;have nk:=fun e=>cj.o (lq e)
   go_wp2_with fail;exact mW HG.o H4.o H5.o cj.o au.o ay.o zu.o mU.o (rfl) rfl rfl rfl
  have hF:=xQ.o.co hd1;dsimp only at hF;have bJ:=aa hd1;clear hd1;obtain⟨P,hlt,hget,hP⟩:∃P,∃h:P<st.length,st[P]=bH st co∧bX (bh st) co=P:=⟨_,(D_ hF).1,(D_ hF).2,rfl⟩;obtain⟨c,hc⟩:∃c,bH st co=c:=⟨_,rfl⟩;have hmem:=(nJ hF).2.1;rw[hc] at hmem hget;have HF:=aa hF;have vL:=aa hP;have sx:=aa hlt;have cS:=aa (cJ.o.co c hmem);have fP:=aa hc;rw[xL hF,hP] at HC;have hbs:=aC.o.cell;have q1:_=some (Value.string co):=aw.o.cell 1;clear hF hP hc hmem;go_wp2_with fail;clear hbs q1;refine(HC.o _ HG.o).mono ?_;rintro e w5 ⟨rfl,hg⟩;replace HG:=aa (HG.o.trans hg);replace aC:=aa (aC.o.grow hg);replace aw:=aa (aw.o.grow hg);replace au:=aa (au.o.grow hg);replace ay:=aa (ay.o.grow hg);clear hg
  obtain⟨bk,o,e,rfl,hbk,aW,hcell⟩:=(HST.o.grow HG.o).rS P hlt;rw[hget] at aW;have zl:=aa aW;obtain⟨nm,dA,dn,dc,xA,xn,xc⟩:=e;obtain⟨h1,h2,h3,h4,h5,h6⟩:=aW;dsimp only at h1 h2 h3 h4 h5 h6;subst h1 h2 h3;have c0:=hcell 0 _ rfl (by omega);have c1:=hcell 1 _ rfl (by omega);have c2:=hcell 2 _ rfl (by omega);simp only[fF] at c0;have fe:=aa (show kq w5 xA c.aq from h6);have dM:=aa (show InL w5 dA dc c.ag from h5);have LU:=aa h4;have amc:=fe;have ah4:=dM;have hbs:=aC.o.cell;have q0:_=some (Value.int .i64 d):=aw.o.cell 0;have hd1:(d==1)=false:=by simpa using bJ.o
  have hp0:(0:Int)≤(P:Int):=by omega
  have hp1:(P:Int)<(st.length:Int):=by omega
  clear hcell h4 h5 h6 hget;go_upto_region 18 with fail;clear c0 c1 c2 hbs hd1 q0;have hl4:=au.o.lt;have qN:=ay.o.lt;have ZW:=aa aC.o.lt;replace HG:=aa (HG.o.trans ((ah w5).alloc (.cells #[.string c.name,.slice dA c.ag.length dc,.slice xA c.aq.length xc] 48)));replace aC:=aa (aC.o.grow ((ah w5).alloc (.cells #[.string c.name,.slice dA c.ag.length dc,.slice xA c.aq.length xc] 48)));replace aw:=aa (aw.o.grow ((ah w5).alloc (.cells #[.string c.name,.slice dA c.ag.length dc,.slice xA c.aq.length xc] 48)));replace au:=aa (au.o.grow ((ah w5).alloc (.cells #[.string c.name,.slice dA c.ag.length dc,.slice xA c.aq.length xc] 48)));replace ay:=aa (ay.o.grow ((ah w5).alloc (.cells #[.string c.name,.slice dA c.ag.length dc,.slice xA c.aq.length xc] 48)))
  have ZX:=aa ((ah w5).alloc (.cells #[.string c.name,.slice dA c.ag.length dc,.slice xA c.aq.length xc] 48));have aT:=aa (aH w5 48 #[.string c.name,.slice dA c.ag.length dc,.slice xA c.aq.length xc]);replace fe:=aa (fe.o.grow ((ah w5).alloc (.cells #[.string c.name,.slice dA c.ag.length dc,.slice xA c.aq.length xc] 48)));replace dM:=aa (dM.o.grow ((ah w5).alloc (.cells #[.string c.name,.slice dA c.ag.length dc,.slice xA c.aq.length xc] 48)));obtain⟨gc,dS⟩:∃g,w5.heap.size=g:=⟨_,rfl⟩;have cM:=aa dS;have uy:=aa (show gc≠g4∧gc≠g5 by omega);rw[dS] at aT ⊢;generalize w5.alloc (.cells #[.string c.name,.slice dA c.ag.length dc,.slice xA c.aq.length xc] 48)=w6 at HG aC aw au ay aT fe dM ZX ⊢;clear dS hl4 qN
  have hcs:d=2∨(d=3∨d=4)∨d=5∨d=6∨d=7∨d=8∨d=9∨d=10:=by
   have:=xQ.o.bp;have h1:=bJ.o;dsimp only at this;omega
  obtain rfl | xM | rfl | rfl | rfl | rfl | rfl | rfl:=hcs
  ·have mU:=aa (show ed (N+1) (gj st P) from AH (q:=⟨2,co,ix,pa,un,kv,lv,hv,dv,n⟩) (n:=0) (ag:=[]) cJ.o HR.o.fit HR.o.doc (by
    show F7 st ⟨2,co,ix,pa,un,kv,lv,hv,dv,n⟩=_;unfold F7;dsimp only;rw[ai (by rw[HF.o];decide),vL.o]))
   obtain⟨hcap,es,BF,zj⟩:=HST.o;have Ro:=aa BF;have Bj:=aa zj;have hel:es.length=st.length:=BF.1;have hlt:=sx.o;have K5:=cJ.o.n;obtain⟨q,hq⟩:∃q,P+1=q:=⟨_,rfl⟩;have DM:((P:Int)+1)=(q:Int):=by omega
   have DN:IntKind.i64.wrap (q:Int)=(q:Int):=by rw[cZ];omega
   have hi0:(0:Int)≤(P:Int):=by omega
   have hi1:(P:Int)≤(st.length:Int):=by omega
   have hi2:(P:Int)≤(cap:Int):=by omega
   have hq0:(0:Int)≤(q:Int):=by omega
   have hq1:(q:Int)≤(st.length:Int):=by omega
   have hq2:(q:Int)≤(cap:Int):=by omega
   have HQ:=aa hq;have lN:=aa hel;clear BF zj hel;have q0:_=some (Value.int .i64 2):=aw.o.cell 0;go_upto_region 21 with fail;clear q0;have cG:=aa (aH w6 44 #[.slice none 0 0]);have cM:=aa ((ah w6).alloc (.cells #[.slice none 0 0] 44));have hl4:=au.o.lt;have qN:=ay.o.lt;obtain⟨gx,hgx⟩:∃g,w6.heap.size=g:=⟨_,rfl⟩;have eU:=aa hgx;have se:=aa (show gx≠g4∧gx≠g5 by omega);rw[hgx] at cG ⊢;clear hgx hl4 qN;generalize w6.alloc (.cells #[.slice none 0 0] 44)=w7 at cG cM ⊢;refine dN ?_;refine dO (S:=fun w'=>Grow w6 w') (by kernel_rfl) (cM.o.trans (ah _).drew) (fun hHeld=>?_);have az:=aa (show Grow w7 w7.drew from (ah _).drew);generalize w7.drew=W0 at az hHeld ⊢;refine aK 0 ?_
   try simp only[ak]
   refine aK 2 ?_
   try simp only[ak]
   refine aj 3 (hy:=bj fun w ax=>by have b:=(aC.o.grow ax).cell;clear ax;go_simp;try rfl) ?_;refine aK 4 ?_
   try simp only[ak]
   refine pq (i:=5) (v:=.slice (some ⟨bk,o,none⟩) P cap) (by simp only[uV,uW,uX];rfl) (by kernel_rfl) (by kernel_rfl) (by kernel_rfl) (fun _ _ _ h=>h) (Or.inl ⟨by rfl,fun w _=>YV (n:=st.length) (by rfl) (by rfl) (by omega) (by omega)⟩) (by assumption) ?_
   try simp only[ak]
   refine aR 1 (fun K hK=>?_);have gH:∀i,W0.cell? ⟨gx,i,none⟩=(#[.slice none 0 0]:Array Value)[i]?:=(cG.o.grow az.o).cell;go_simp;clear gH;refine aV hK (cM.o.trans az.o) (fun hHeld=>?_);clear hK K;refine aR 6 (fun K hK=>?_);refine ZL (gx+1) (by rfl) (.tmp 102) (.tmp 106) 42 48 (by rfl) 3 64 _ vU D4 rfl (by rfl) (by first | rfl | (rw[add_lit];rfl)) (YQ (dW (eO (HG.o.trans (cM.o.trans az.o)).below (av _) (av _) (HG.o.trans (cM.o.trans az.o)).size) Bj.o) P cap (by omega)) (by omega) (by simp only[maxLen];omega) (by have:=cG.o.lt;have:=az.o.size;omega) ?_;intro A8 c8 w8 cX dz;have gp:=aa ((cG.o.grow az.o).own dz (fun k hk=>by have:=(bO (iH W0 (gx+1) 48 3) k hk).1;omega))
   have gU:=aa ((cM.o.trans az.o).grown dz (fun k hk=>by have:=(bO (iH W0 (gx+1) 48 3) k hk).1;have:=eU.o;omega));have jl:=aa cX;clear cX dz;refine hK.out _ _ gU.o (fun hHeld=>?_);clear hK K
   try simp only[ak]
   refine aK 7 ?_
   try simp only[ak]
   refine aR 8 (fun K hK=>?_);have gH:∀i,w8.cell? ⟨gx,i,none⟩=(#[.slice none 0 0]:Array Value)[i]?:=gp.o.cell;have oP:=gp.o.frozen;go_simp;clear gH oP;refine aV hK (gU.o.setCell (p:=⟨gx,0,none⟩) (by dsimp only;have:=eU.o;omega) _) (fun hHeld=>?_);clear hK K;refine cz ?_;clear hHeld;have lU:=aa (show Blk (w8.setCell ⟨gx,0,none⟩ (.slice A8 (P) c8)) gx 44 #[.slice A8 (P) c8] from gp.o.bg 0 (.slice A8 (P) c8));have lV:=aa (gD jl.o ((eK (S:=fun x=>x=gx) w8).set (p:=⟨gx,0,none⟩) rfl (.slice A8 (P) c8)) (fun g hg e=>by
    have:=(bO jl.o g (by rw[cE];exact hg)).1;omega))
   have lW:=aa (gU.o.setCell (p:=⟨gx,0,none⟩) (by dsimp only;have:=eU.o;omega) (.slice A8 (P) c8));clear gp jl gU
   try clear cG
   try clear HOW
   try clear cM
   try clear az
   generalize w8.setCell ⟨gx,0,none⟩ (.slice A8 (P) c8)=w9 at lU lV lW ⊢;have cG:=lU;have HOW:=lV;have cM:=lW;clear lU lV lW;have hel:=lN.o;obtain⟨AZ,Im⟩:∃AZ,(if cap=q then (some ⟨bk,o,none⟩) else Option.map (fun x:Addr=>x.add (q*3)) (some ⟨bk,o,none⟩))=AZ:=⟨_,rfl⟩;have Io:=aa Im;clear Im;go_upto_region 22 with fail;refine dN ?_;refine dO (S:=fun w'=>Grow w6 w') (by kernel_rfl) (cM.o.trans (ah _).drew) (fun hHeld=>?_);have az:=aa (show Grow w9 w9.drew from (ah _).drew);generalize w9.drew=W0 at az hHeld ⊢;refine aK 0 ?_
   try simp only[ak]
   refine aK 2 ?_
   try simp only[ak]
   refine aj 3 (hy:=bj fun w ax=>by have b:=(aC.o.grow ax).cell;clear ax;go_simp;try rfl) ?_;refine aK 4 ?_
   try simp only[ak]
   refine aK 5 ?_
   try simp only[ak]
   refine pq (i:=6) (v:=.slice AZ (st.length-q) (cap-q)) (by simp only[uV,uW,uX];rfl) (by kernel_rfl) (by kernel_rfl) (by kernel_rfl) (fun _ _ _ h=>h) (Or.inl ⟨by rfl,fun w _=>(YU (A:=(some ⟨bk,o,none⟩)) (n:=st.length) (cap:=cap) (i:=q) (by rfl) (by rfl) (by omega) (by omega)).trans (by rw[Io.o])⟩) (by assumption) ?_
   try simp only[ak]
   refine aR 1 (fun K hK=>?_);have gH:∀i,W0.cell? ⟨gx,i,none⟩=(#[.slice A8 P c8]:Array Value)[i]?:=(cG.o.grow az.o).cell;go_simp;clear gH;refine aV hK (cM.o.trans az.o) (fun hHeld=>?_);clear hK K;refine aR 7 (fun K hK=>?_);refine Il (gx+1) (by rfl) (.tmp 110) (.tmp 115) 42 48 (by rfl) 3 64 _ vU D4 rfl (by rfl) (kr HOW.o az.o) (by first | rfl | (rw[add_lit];rfl)) ((by have h:=YR (dW (eO (HG.o.trans (cM.o.trans az.o)).below (av _) (av _) (HG.o.trans (cM.o.trans az.o)).size) Bj.o) q (cap-q) cap (by omega) (by omega);rw[Io.o] at h;exact h)) (by omega) (by simp only[maxLen];omega) (by have:=cG.o.lt;have:=az.o.size;omega) ?_;intro A9 c9 LV cX dz
   have gp:=aa ((cG.o.grow az.o).own dz (fun k hk=>by have:=(bO HOW.o k hk).1;omega));have gU:=aa ((cM.o.trans az.o).grown dz (fun k hk=>by have:=(bO HOW.o k hk).1;have:=eU.o;omega));have jl:=aa cX;clear cX dz;refine hK.out _ _ gU.o (fun hHeld=>?_);clear hK K
   try simp only[ak]
   refine aK 8 ?_
   try simp only[ak]
   refine aR 9 (fun K hK=>?_);have gH:∀i,LV.cell? ⟨gx,i,none⟩=(#[.slice A8 P c8]:Array Value)[i]?:=gp.o.cell;have oP:=gp.o.frozen;go_simp;clear gH oP;refine aV hK (gU.o.setCell (p:=⟨gx,0,none⟩) (by dsimp only;have:=eU.o;omega) _) (fun hHeld=>?_);clear hK K;refine cz ?_;clear hHeld;have lU:=aa (show Blk (LV.setCell ⟨gx,0,none⟩ (.slice A9 (P+(st.length-q)) c9)) gx 44 #[.slice A9 (P+(st.length-q)) c9] from gp.o.bg 0 (.slice A9 (P+(st.length-q)) c9));have lV:=aa (gD jl.o ((eK (S:=fun x=>x=gx) LV).set (p:=⟨gx,0,none⟩) rfl (.slice A9 (P+(st.length-q)) c9)) (fun g hg e=>by
    have:=(bO jl.o g (by rw[cE];exact hg)).1;omega))
   have lW:=aa (gU.o.setCell (p:=⟨gx,0,none⟩) (by dsimp only;have:=eU.o;omega) (.slice A9 (P+(st.length-q)) c9));clear gp jl gU
   try clear cG
   try clear HOW
   try clear cM
   try clear az
   generalize LV.setCell ⟨gx,0,none⟩ (.slice A9 (P+(st.length-q)) c9)=uq at lU lV lW ⊢;have cG:=lU;have HOW:=lV;have cM:=lW;clear lU lV lW;have hq:=HQ.o;clear DM DN;have hlen:P+(st.length-q)=(gj st P).length:=by
    rw[gj,bD,eD,iI];omega
   have zu:=aa (YS (es:=(gj es P)) (st:=(gj st P)) HOW.o (by rw[← YT,← hq];rfl) hlen ((Ro.o.grow (HG.o.trans cM.o)).del P));replace HG:=aa (HG.o.trans cM.o);replace au:=aa (au.o.grow cM.o);replace ay:=aa (ay.o.grow cM.o);rw[hlen] at cG;clear HOW cM hlen;have fq:=cG.o.cell;have hb4:=au.o.cell;have h_:=au.o.frozen;have dt:∀i,uq.cell? ⟨g5,i,none⟩=(#[.int .i64 0,.int .i64 0,.slice none 0 0,.int .i64 0]:Array Value)[i]?:=ay.o.cell;have i6:=ay.o.frozen;have sB:=cj.o;have nk:=fun e=>cj.o (lq e)
   go_wp2_with fail;exact mW HG.o H4.o H5.o cj.o au.o ay.o zu.o mU.o (rfl) rfl rfl rfl
  ·have hput:=xQ.o.put xM;dsimp only at hput;rw[fP.o] at hput;have mv:=aa hput;have Ip:=aa (show eu dv from ⟨hput.1,HR.o.fit,HR.o.doc⟩);have ZY:=aa (fun(_:dv.formed=true)=>HB.o.doc);have HFO:=aa (show dv.formed=true from by obtain⟨i,-,-,-,h,-⟩:=Ip.o.id;exact(mJ h).1);have ZZ:=aa xM;have hd2:(d==2)=false:=by rcases xM with rfl | rfl<;>rfl
   have q0:_=some (Value.int .i64 d):=aw.o.cell 0;clear hput;go_upto_if 120 with fail;go_cut [120] from 121 to 123 (fun t wx=>t=.bool true∧w6=wx)
   case first =>
    rcases xM with rfl | rfl
    ·go_wp2_with fail;go_meet;exact⟨rfl,rfl⟩
    go_wp2_with fail;go_meet;exact⟨rfl,rfl⟩
   obtain⟨rfl,rfl⟩:=hcut;clear xM hd2;go_upto_region 26 with fail;clear q0;refine dN ?_;refine dO (S:=fun w'=>Grow w6 w') (by kernel_rfl) ((ah _).drew) (fun hHeld=>?_);have az:=aa (show Grow w6 w6.drew from (ah _).drew);generalize w6.drew=W0 at az hHeld ⊢;refine aj 0 (hy:=bj fun w ax=>by have b:=(aT.o.grow ax).cell;clear ax;go_simp;try rfl) ?_;refine aK 1 ?_
   try simp only[ak]
   refine aj 2 (hy:=bj fun w ax=>by have b:=(aw.o.grow ax).cell;have k20:_=some (Value.int .i64 cx.k):=b 20;have k21:_=some (Value.int .u64 cx.n):=b 21;have k22:_=some (Value.slice cx.aB cx.nB cx.cB):=b 22;have k23:_=some (Value.slice cx.aL cx.nL cx.cL):=b 23;have k24:_=some (Value.slice cx.aF cx.nF cx.cF):=b 24;clear ax b;go_simp;try rfl) ?_;refine aR 3 (fun K hK=>?_);have hC:=DG dv cx W0 HR.o.doc ZY.o (HX.o.grow (HG.o.trans az.o));go_simp;go_at_call 71;refine hC.mono ?_;rintro ee W1 ⟨rfl,hg1⟩;refine hK.out _ _ (az.o.trans hg1) (fun hHeld=>?_);clear hC;clear hK K
   try simp only[ak]
   refine aR 4 (fun K hK=>?_);have hC:=GJ c.name c.ag dA xA dc c.aq.length xc (bt dv).1 W1 (dM.o.grow (az.o.trans hg1)) cS.o.ag cS.o.keys (by have:=cS.o.nd;have:=HN.o;omega);go_simp;go_at_call 70;refine hC.mono ?_;rintro ee wA ⟨rfl,hg2⟩;have bV:=aa (az.o.trans (hg1.trans hg2));refine hK.out _ _ bV.o (fun hHeld=>?_);clear hC;clear hK K
   try simp only[ak]
   refine aK 5 ?_
   try simp only[ak]
   refine aK 6 ?_
   try simp only[ak]
   refine aK 7 ?_
   try simp only[ak]
   refine aK 8 ?_
   try simp only[ak]
   refine aK 9 ?_
   try simp only[ak]
   refine cz ?_;clear hHeld hg1 hg2;replace HG:=aa (HG.o.trans bV.o);replace aC:=aa (aC.o.grow bV.o);replace aw:=aa (aw.o.grow bV.o);replace au:=aa (au.o.grow bV.o);replace ay:=aa (ay.o.grow bV.o);replace aT:=aa (aT.o.grow bV.o);replace dM:=aa (dM.o.grow bV.o);replace fe:=aa (fe.o.grow bV.o);obtain⟨FF,iG⟩:∃b,jg c.ag (bt dv).1=b:=⟨_,rfl⟩;have j_:=aa iG;rw[iG];clear iG;have q0:_=some (Value.int .i64 d):=aw.o.cell 0;go_upto_region 27 with fail;go_cut [136] from 131 to 136 (fun t wx=>t=.bool (FF&&(d==4))∧wA=wx)
   case first =>
    cases FF
    ·go_wp2_with fail;go_meet;exact⟨rfl,rfl⟩
    go_wp2_with fail;go_meet;exact⟨rfl,rfl⟩
   obtain⟨rfl,rfl⟩:=hcut;obtain⟨BB,qJ⟩:∃b,(FF&&(d==4))=b:=⟨_,rfl⟩;rw[qJ];have vJ:=aa qJ;clear qJ
   cases BB with
   | true =>
    have hbs:=aC.o.cell;go_wp2_with fail;refine(BC.o 6 _).mono ?_;rintro e wf ⟨rfl,bQ⟩;clear hbs q0;replace HG:=aa (HG.o.trans bQ);replace aC:=aa (aC.o.grow bQ);replace aw:=aa (aw.o.grow bQ);replace au:=aa (au.o.grow bQ);replace ay:=aa (ay.o.grow bQ);replace aT:=aa (aT.o.grow bQ);clear bQ;have hb4:=au.o.cell;have h_:=au.o.frozen;have dt:∀i,wf.cell? ⟨g5,i,none⟩=(#[.int .i64 0,.int .i64 0,.slice none 0 0,.int .i64 0]:Array Value)[i]?:=ay.o.cell;have i6:=ay.o.frozen;have sB:=cj.o;have nk:=fun e=>cj.o (lq e)
    go_wp2_with fail;exact mW HG.o H4.o H5.o cj.o au.o ay.o (HST.o.grow HG.o) (cJ.o.mono (fg _)) (rfl) rfl rfl rfl
   | false =>
    go_upto_region 30 with fail;clear q0;go_loopg [15] (c.aq.length+1) (fun gk i wr=>∃j:Nat,j≤c.aq.length∧gk+j=c.aq.length+1∧i=.int .i64 j∧(∀i (hi:i<c.aq.length),i<j→c.aq[i].uniq=true→c.ag.any (jI c.aq[i].path dv)=false)∧Grow wA wr);exact⟨0,aS _,rfl,rfl,fun _ _ h=>absurd h (by omega),ah _⟩;obtain⟨j,hj,iB,rfl,hne,hgr⟩:=hrel;obtain⟨gk',rfl⟩:=bP gk (by omega);have kA:=aa hne;replace HG:=aa (HG.o.trans hgr);replace aC:=aa (aC.o.grow hgr);replace aw:=aa (aw.o.grow hgr);replace au:=aa (au.o.grow hgr);replace ay:=aa (ay.o.grow hgr);replace aT:=aa (aT.o.grow hgr);replace dM:=aa (dM.o.grow hgr);replace fe:=aa (fe.o.grow hgr);have aO:=aa hgr;have hbc:=aT.o.cell;have h8:=cS.o.nx;clear hne hgr;by_cases hjl:j<c.aq.length
    ·obtain⟨bx,ox,rfl,fq,x0,x1,x2⟩:=fe.o.rS j hjl;have Rs:=aa (show c.aq[j].path.size<4294967281 from by have:=cS.o.path _ (aY hjl);omega);obtain⟨xj,Rt⟩:∃x,c.aq[j]=x:=⟨_,rfl⟩;rw[Rt] at x0 x1 x2 Rs;have Bu:=aa Rt;obtain⟨BG,Ru,xuu⟩:=xj;dsimp only at x0 x1 x2 Rs;clear Rt
     cases xuu with
     | false =>
      go_upto_region 32 with fail;go_quiet (fail);go_wp2_with fail;go_roundg gk';refine⟨j+1,by omega,by omega,by go_num,fun i hi hij hu=>?_,aO.o.trans ((ah _).drewN _)⟩;by_cases ie:i=j
      ·subst ie;rw[Bu.o] at hu;cases hu
      exact kA.o i hi (by omega) hu;omega
     | true =>
      have LW:=aa (fun(W:World) (hg:Grow wr W)=>show ∀i v,(Ix.cells ⟨BG,Ru,true⟩).toList[i]?=some v→i<3→W.cell? ⟨bx,ox+j*3+i,none⟩=some v from fun i v hv hi=>by
       match i,hv,hi with
       | 0,hv,_=>cases hv;exact(hg.below.cell (p:=⟨bx,ox+j*3,none⟩) fq).trans x0
       | 1,hv,_=>cases hv;exact(hg.below.cell (p:=⟨bx,ox+j*3+1,none⟩) fq).trans x1
       | 2,hv,_=>cases hv;exact(hg.below.cell (p:=⟨bx,ox+j*3+2,none⟩) fq).trans x2
       | i+3,_,hi=>omega)
      go_upto_region 32 with fail;clear hbc x0 x1 x2;refine dN ?_;refine dO (S:=fun w'=>Grow wr w') (by kernel_rfl) ((ah _).drew) (fun hHeld=>?_);have oO:=aa (show Grow wr wr.drew from (ah _).drew);generalize wr.drew=W5 at oO hHeld ⊢;refine aK 0 ?_
      try simp only[ak]
      refine aj 1 (hy:=bj fun w ax=>by have b:=(aT.o.grow ax).cell;clear ax;go_simp;try rfl) ?_;refine aK 2 ?_
      try simp only[ak]
      refine aK 3 ?_
      try simp only[ak]
      refine aK 4 ?_
      try simp only[ak]
      refine aj 5 (hy:=bj fun w ax=>by have y2:=LW.o _ ax 2 _ rfl (by omega);clear ax;go_simp;try rfl) ?_;refine aK 6 ?_
      try simp only[ak]
      refine aj 7 (hy:=bj fun w ax=>by have b:=(aT.o.grow ax).cell;clear ax;go_simp;try rfl) ?_;refine aK 8 ?_
      try simp only[ak]
      refine aj 9 (hy:=bj fun w ax=>by have b:=(aT.o.grow ax).cell;clear ax;go_simp;try rfl) ?_;refine aK 10 ?_
      try simp only[ak]
      refine aK 11 ?_
      try simp only[ak]
      refine aj 12 (hy:=bj fun w ax=>by have y0:=LW.o _ ax 0 _ rfl (by omega);rw[fF] at y0;have y1:=LW.o _ ax 1 _ rfl (by omega);have y2:=LW.o _ ax 2 _ rfl (by omega);clear ax;go_simp;try rfl) ?_;refine aK 13 ?_
      try simp only[ak]
      refine aj 14 (hy:=bj fun w ax=>by have b:=(aw.o.grow ax).cell;have k20:_=some (Value.int .i64 cx.k):=b 20;have k21:_=some (Value.int .u64 cx.n):=b 21;have k22:_=some (Value.slice cx.aB cx.nB cx.cB):=b 22;have k23:_=some (Value.slice cx.aL cx.nL cx.cL):=b 23;have k24:_=some (Value.slice cx.aF cx.nF cx.cF):=b 24;clear ax b;go_simp;try rfl) ?_;refine aR 15 (fun K hK=>?_);have hC:=Ya c.name c.ag dA (some ⟨bx,ox,none⟩) dc c.aq.length xc ⟨BG,Ru,true⟩ dv cx W5 (dM.o.grow oO.o) cS.o.ag (by have:=cS.o.nd;have:=HN.o;omega) Rs.o HFO.o HR.o.doc ZY.o (HX.o.grow (HG.o.trans oO.o));dsimp only[Ix.cells] at hC;go_simp;go_at_call 72;refine hC.mono ?_;rintro ee W6 ⟨rfl,bU⟩;have bR:=aa (oO.o.trans bU);refine hK.out _ _ bR.o (fun hHeld=>?_);clear hC;clear hK K
      try simp only[ak]
      refine aK 16 ?_
      try simp only[ak]
      refine cz ?_;clear hHeld bU;obtain⟨cb,hcb⟩:∃b,c.ag.any (jI Ru dv)=b:=⟨_,rfl⟩;have qz:=aa hcb;rw[hcb];clear hcb;replace HG:=aa (HG.o.trans bR.o);replace aC:=aa (aC.o.grow bR.o);replace aw:=aa (aw.o.grow bR.o);replace au:=aa (au.o.grow bR.o);replace ay:=aa (ay.o.grow bR.o);replace aT:=aa (aT.o.grow bR.o)
      cases cb with
      | true =>
       have hbs:=aC.o.cell;go_wp2_with fail;refine(BC.o 13 _).mono ?_;rintro e wf ⟨rfl,bQ⟩;clear hbs;replace HG:=aa (HG.o.trans bQ);replace aC:=aa (aC.o.grow bQ);replace aw:=aa (aw.o.grow bQ);replace au:=aa (au.o.grow bQ);replace ay:=aa (ay.o.grow bQ);replace aT:=aa (aT.o.grow bQ);clear bQ;have hb4:=au.o.cell;have h_:=au.o.frozen;have dt:∀i,wf.cell? ⟨g5,i,none⟩=(#[.int .i64 0,.int .i64 0,.slice none 0 0,.int .i64 0]:Array Value)[i]?:=ay.o.cell;have i6:=ay.o.frozen;have sB:=cj.o;have nk:=fun e=>cj.o (lq e)
       go_wp2_with fail;exact mW HG.o H4.o H5.o cj.o au.o ay.o (HST.o.grow HG.o) (cJ.o.mono (fg _)) (rfl) rfl rfl rfl
      | false =>
       go_wp2_with fail;go_roundg gk';refine⟨j+1,by omega,by omega,by go_num,fun i hi hij hu=>?_,aO.o.trans bR.o⟩;by_cases ie:i=j
       ·subst ie;rw[Bu.o];exact qz.o
       exact kA.o i hi (by omega) hu;omega
    have Rv:j=c.aq.length:=by omega
    subst Rv;have mU:=aa (show ed (N+1) (st.set P ⟨c.name,fN c.ag dv,c.aq⟩) from AH (q:=⟨d,co,ix,pa,un,kv,lv,hv,dv,n⟩) (n:=if jg c.ag (bt dv).1=true then 1 else 0) (ag:=[]) cJ.o HR.o.fit HR.o.doc (by
     rw[show kp st ⟨d,co,ix,pa,un,kv,lv,hv,dv,n⟩=pM st ⟨d,co,ix,pa,un,kv,lv,hv,dv,n⟩ from by rcases ZZ.o with e | e<;>(unfold kp;dsimp only;rw[e];rfl)];unfold pM;dsimp only;rw[ai (by rw[HF.o];decide),ai (by rw[mv.o.1];simp),fP.o,ai (by rw[mv.o.2];simp),ai (fun h=>h.2 (ZZ.o.resolve_right (fun e=>by have h5:=vJ.o;rw[← j_.o,h.1,e] at h5;exact absurd h5 (by decide)))),ai (by
      rw[agE cS.o Ip.o mv.o.2 (fun x hx hu=>by
       obtain⟨i,hi,rfl⟩:=kH hx;exact kA.o i hi hi hu)]
      decide),vL.o]))
    have Rw:=aa (show ∀g,(g=g4∨g=g5)→gT wr g from fun g h=>h.elim (fun e=>e ▸ K0 au.o) (fun e=>e ▸ K1 ay.o));go_upto_if 169 with fail;go_cut [16] from 169 to 170 (fun t wx=>t=.int .i64 (if FF=true then 1 else 0)∧wr=wx)
    case first =>
     cases FF
     ·go_wp2_with fail;go_meet;exact⟨rfl,rfl⟩
     go_wp2_with fail;go_meet;exact⟨rfl,rfl⟩
    obtain⟨rfl,rfl⟩:=hcut;obtain⟨NN,LX⟩:∃z:Int,(if FF=true then 1 else 0)=z:=⟨_,rfl⟩;rw[LX];clear LX;go_upto_region 37 with fail;clear hbc;refine dN ?_;refine dO (S:=fun w'=>Kept (fun q=>q=g4∨q=g5) wr w') (by kernel_rfl) (jh (ah _).drew) (fun hHeld=>?_);have kZ:=aa (show Grow wr wr.drew from (ah _).drew);generalize wr.drew=W5 at kZ hHeld ⊢;refine aj 0 (hy:=bj fun w ax=>by have b:=(ax.blk aC.o (fun e=>e.elim jU.o.1 jU.o.2)).cell;clear ax;go_simp;try rfl) ?_;refine aK 1 ?_
    try simp only[ak]
    refine aj 2 (hy:=bj fun w ax=>by have b:=(ax.blk aT.o (fun e=>e.elim uy.o.1 uy.o.2)).cell;clear ax;go_simp;try rfl) ?_;refine aK 3 ?_
    try simp only[ak]
    refine aj 4 (hy:=bj fun w ax=>by have b:=(ax.blk aw.o (fun e=>e.elim ZQ.o.1 ZQ.o.2)).cell;have k20:_=some (Value.int .i64 cx.k):=b 20;have k21:_=some (Value.int .u64 cx.n):=b 21;have k22:_=some (Value.slice cx.aB cx.nB cx.cB):=b 22;have k23:_=some (Value.slice cx.aL cx.nL cx.cL):=b 23;have k24:_=some (Value.slice cx.aF cx.nF cx.cF):=b 24;clear ax b;go_simp;try rfl) ?_;refine aK 7 ?_
    try simp only[ak]
    refine aK 8 ?_
    try simp only[ak]
    refine aR 5 (fun K hK=>?_);have hC:=afw c.name c.ag dA xA dc c.aq.length xc dv cx W5 (dM.o.grow kZ.o) cS.o.ag cS.o.keys (by have:=cS.o.nd;have:=HN.o;omega) (HX.o.grow (HG.o.trans kZ.o)) Ip.o;go_simp;go_at_call 74;refine hC.mono ?_;rintro ee W6 ⟨A5,c5,rfl,hi5,hg1⟩;refine hK.out _ _ (jh (kZ.o.trans hg1)) (fun hHeld=>?_);clear hC;clear hK K
    try simp only[ak]
    refine aR 6 (fun K hK=>?_);have hC:=La st (some ⟨bk,o,none⟩) cap P ⟨c.name,A5,(fN c.ag dv).length,c5,xA,c.aq.length,xc⟩ ⟨c.name,fN c.ag dv,c.aq⟩ W6 (HST.o.grow (HG.o.trans (kZ.o.trans hg1))) ⟨rfl,rfl,rfl,LU.o,hi5,fe.o.grow (kZ.o.trans hg1)⟩ sx.o (by have:=cJ.o.n;omega);go_simp;go_at_call 73;refine hC.mono ?_;rintro ee W2 ⟨A6,c6,rfl,nP,hg2⟩;have mV:=aa (show Kept (fun q=>q=g4∨q=g5) wr W2 from jh (kZ.o.trans (hg1.trans hg2)));refine hK.out _ _ mV.o (fun hHeld=>?_);clear hC;clear hK K
    try simp only[ak]
    replace HG:=aa (HG.o.trans (kZ.o.trans (hg1.trans hg2)));replace au:=aa (au.o.grow (kZ.o.trans (hg1.trans hg2)));replace ay:=aa (ay.o.grow (kZ.o.trans (hg1.trans hg2)));have BH:=aa nP;clear hg1 hg2 nP hi5;have hb4:=au.o.cell;have h_:=au.o.frozen;have dt:∀i,W2.cell? ⟨g5,i,none⟩=(#[.int .i64 0,.int .i64 0,.slice none 0 0,.int .i64 0]:Array Value)[i]?:=ay.o.cell;have i6:=ay.o.frozen;refine aR 9 (fun K hK=>?_);go_simp;refine aV hK (mV.o.set (p:=⟨g4,0,none⟩) (.inl rfl) _) (fun hHeld=>?_);clear hK K;refine aR 10 (fun K hK=>?_);have Ek:=fun i=>((((ay.o.far (p:=⟨g4,0,none⟩) (fun e=>cj.o e.symm) (.slice A6 (st.length) c6)))).cell i)
    have El:=(ay.o.far (p:=⟨g4,0,none⟩) (fun e=>cj.o e.symm) (.slice A6 (st.length) c6)).frozen;clear dt i6;go_simp;refine aV hK (((((mV.o.set (p:=⟨g4,0,none⟩) (.inl rfl) _).set (p:=⟨g5,0,none⟩) (.inr rfl) _).set (p:=⟨g5,1,none⟩) (.inr rfl) _).set (p:=⟨g5,2,none⟩) (.inr rfl) _).set (p:=⟨g5,3,none⟩) (.inr rfl) _) (fun hHeld=>?_);clear hK K;refine cz ?_;clear hHeld;go_wp2_with fail;exact mW HG.o H4.o H5.o cj.o au.o ay.o BH.o mU.o (by rw[j5]) rfl rfl rfl
  ·have hof:=GH kv ck w6 (CP HR.o.key) (fun _=>HB.o.key) (HK.o.grow HG.o);have fG:=xQ.o.key (by dsimp only;omega);dsimp only at fG;obtain⟨⟨kb,ke⟩,hkk⟩:∃p,bK kv=p:=⟨_,rfl⟩;rw[hkk] at hof fG;have kQ:=aa hof;have gh:=aa fG;have Hv:=aa hkk;have q0:_=some (Value.int .i64 5):=aw.o.cell 0;have q5:_=some (Value.int .i64 ck.k):=aw.o.cell 5;have q6:_=some (Value.int .u64 ck.n):=aw.o.cell 6;have q7:_=some (Value.slice ck.aB ck.nB ck.cB):=aw.o.cell 7;have q8:_=some (Value.slice ck.aL ck.nL ck.cL):=aw.o.cell 8;have q9:_=some (Value.slice ck.aF ck.nF ck.cF):=aw.o.cell 9;clear hof fG hkk;go_wp2_with fail;clear q0 q5 q6 q7 q8 q9;refine kQ.o.mono ?_;rintro e w7 ⟨ah5,A7,c7,rfl,mr,ji,hg⟩;dsimp only at ji ⊢
   have jE:=aa (show ba w7 A7 kb from dW (fun p u hp=>⟨hp.1,aS _,hp.2.2⟩) ji.reads.1);replace HG:=aa (HG.o.trans hg);replace aC:=aa (aC.o.grow hg);replace aw:=aa (aw.o.grow hg);replace au:=aa (au.o.grow hg);replace ay:=aa (ay.o.grow hg);replace aT:=aa (aT.o.grow hg);replace dM:=aa (dM.o.grow hg);have Rx:=aa (show Grow w6 w7 from hg);clear hg mr ji;have hcs:=ly c7 jE.o;have hbc:=aT.o.cell;go_wp2_with fail;clear hcs hbc;refine(GJ c.name c.ag dA xA dc c.aq.length xc kb w7 dM.o cS.o.ag cS.o.keys (by have:=cS.o.nd;have:=HN.o;omega)).mono ?_;rintro e w8 ⟨rfl,hg⟩;replace HG:=aa (HG.o.trans hg);replace aC:=aa (aC.o.grow hg);replace aw:=aa (aw.o.grow hg);replace au:=aa (au.o.grow hg);replace ay:=aa (ay.o.grow hg)
   replace aT:=aa (aT.o.grow hg);replace dM:=aa (dM.o.grow hg);replace jE:=aa (jE.o.grow hg);have kg:=aa (Rx.o.trans hg);clear hg;obtain⟨FD,uz⟩:∃b,jg c.ag kb=b:=⟨_,rfl⟩;have Ry:=aa uz;rw[uz]
   cases FD with
   | false =>
    clear uz;have hbs:=aC.o.cell;go_wp2_with fail;refine(BC.o 17 _).mono ?_;rintro e wf ⟨rfl,bQ⟩;clear hbs;replace HG:=aa (HG.o.trans bQ);replace aC:=aa (aC.o.grow bQ);replace aw:=aa (aw.o.grow bQ);replace au:=aa (au.o.grow bQ);replace ay:=aa (ay.o.grow bQ);replace aT:=aa (aT.o.grow bQ);clear bQ;have hb4:=au.o.cell;have h_:=au.o.frozen;have dt:∀i,wf.cell? ⟨g5,i,none⟩=(#[.int .i64 0,.int .i64 0,.slice none 0 0,.int .i64 0]:Array Value)[i]?:=ay.o.cell;have i6:=ay.o.frozen;have sB:=cj.o;have nk:=fun e=>cj.o (lq e)
    go_wp2_with fail;exact mW HG.o H4.o H5.o cj.o au.o ay.o (HST.o.grow HG.o) (cJ.o.mono (fg _)) (rfl) rfl rfl rfl
   | true =>
    have hil:=yS uz;obtain⟨D,hD⟩:∃n,iM c.ag kb=n:=⟨_,rfl⟩;have Ed:=aa hD;rw[hD] at hil ⊢;obtain⟨b2,o2,y,ha,hbk2,e0,e1,e2,e3,e4,hy⟩:=dM.o.fJ D hil;dsimp only[kf] at ha;subst ha;have hbc:=aT.o.cell;have hd0:(0:Int)≤(D:Int):=by omega
    have hd1:(D:Int)<(c.ag.length:Int):=by omega
    clear uz hD;go_upto_region 45 with fail;clear e0 e1 e2 e3 e4 hbc hy;have bV:=aa (((ah w8).alloc (.cells y.cells 27)).alloc (.cells #[.int .i64 0,.int .i64 0,.slice (some ⟨w8.heap.size,0,none⟩) 1 1,.int .i64 0] 31));have je:=aa (aH (w8.alloc (.cells y.cells 27)) 31 #[.int .i64 0,.int .i64 0,.slice (some ⟨w8.heap.size,0,none⟩) 1 1,.int .i64 0]);have hl4:=au.o.lt;have qN:=ay.o.lt;have C7:(w8.alloc (.cells y.cells 27)).heap.size=w8.heap.size+1:=by simp
    obtain⟨g21,xR⟩:∃g,(w8.alloc (.cells y.cells 27)).heap.size=g:=⟨_,rfl⟩;have oQ:=aa (show g21≠g4∧g21≠g5 by omega);replace HG:=aa (HG.o.trans bV.o);replace aC:=aa (aC.o.grow bV.o);replace aw:=aa (aw.o.grow bV.o);replace au:=aa (au.o.grow bV.o);replace ay:=aa (ay.o.grow bV.o);replace aT:=aa (aT.o.grow bV.o);replace dM:=aa (dM.o.grow bV.o);replace jE:=aa (jE.o.grow bV.o);rw[xR] at je
    try rw[xR]
    try simp only[C7] at xR
    subst xR;generalize hwz:(w8.alloc (.cells y.cells 27)).alloc (.cells #[.int .i64 0,.int .i64 0,.slice (some ⟨w8.heap.size,0,none⟩) 1 1,.int .i64 0] 31)=w9 at bV je HG aC aw au ay aT dM jE ⊢;have eU:=aa (kg.o.trans bV.o);clear hwz hl4 qN C7 bV;have q0:_=some (Value.int .i64 5):=aw.o.cell 0;have mU:=aa (show ed (N+1) (st.set P ⟨c.name,gj c.ag D,c.aq⟩) from AH (q:=⟨5,co,ix,pa,un,kv,lv,hv,dv,n⟩) (n:=0) (ag:=[c.ag.getD D V.zero]) cJ.o HR.o.fit HR.o.doc (by
     show F8 st ⟨5,co,ix,pa,un,kv,lv,hv,dv,n⟩=_;unfold F8;dsimp only;rw[ai (by rw[HF.o];decide),ai (by rw[Hv.o];simpa using gh.o),fP.o,vL.o,Hv.o];dsimp only;rw[ai (by rw[Ry.o];decide),Ed.o]))
    have Rw:=aa (show ∀g,(g=g4∨g=g5)→gT w9 g from fun g h=>h.elim (fun e=>e ▸ K0 au.o) (fun e=>e ▸ K1 ay.o));replace fe:=aa (fe.o.grow eU.o);go_upto_region 47 with fail;clear q0;refine dN ?_;refine dO (S:=fun w'=>Kept (fun q=>q=g4∨q=g5) w9 w') (by kernel_rfl) (jh (ah _).drew) (fun hHeld=>?_);have az:=aa (show Grow w9 w9.drew from (ah _).drew);generalize w9.drew=W0 at az hHeld ⊢;refine aj 0 (hy:=bj fun w ax=>by have b:=(ax.blk aC.o (fun e=>e.elim jU.o.1 jU.o.2)).cell;clear ax;go_simp;try rfl) ?_;refine aK 1 ?_
    try simp only[ak]
    refine aj 2 (hy:=bj fun w ax=>by have b:=(ax.blk aT.o (fun e=>e.elim uy.o.1 uy.o.2)).cell;clear ax;go_simp;try rfl) ?_;refine aK 3 ?_
    try simp only[ak]
    refine aj 4 (hy:=bj fun w ax=>by have hcs:=ly c7 (ba.GQ ax Rw.o jE.o);clear ax;go_simp;try rfl) ?_;refine aj 7 (hy:=bj fun w ax=>by have b:=(ax.blk je.o (fun e=>e.elim oQ.o.1 oQ.o.2)).cell;clear ax;go_simp;try rfl) ?_;refine aR 5 (fun K hK=>?_);have hC:=afT c.name c.ag (some ⟨b2,o2,none⟩) xA dc c.aq.length xc kb W0 (dM.o.grow az.o) cS.o.ag cS.o.keys (by have:=cS.o.nd;have:=HN.o;omega) Ry.o;rw[Ed.o] at hC;go_simp;go_at_call 75;refine hC.mono ?_;rintro ee W1 ⟨A5,c5,rfl,hi5,hg1⟩;refine hK.out _ _ (jh (az.o.trans hg1)) (fun hHeld=>?_);clear hC;clear hK K
    try simp only[ak]
    refine aR 6 (fun K hK=>?_);have hC:=La st (some ⟨bk,o,none⟩) cap P ⟨c.name,A5,(gj c.ag D).length,c5,xA,c.aq.length,xc⟩ ⟨c.name,gj c.ag D,c.aq⟩ W1 (HST.o.grow (HG.o.trans (az.o.trans hg1))) ⟨rfl,rfl,rfl,LU.o,hi5,fe.o.grow (az.o.trans hg1)⟩ sx.o (by have:=cJ.o.n;omega);go_simp;go_at_call 73;refine hC.mono ?_;rintro ee W2 ⟨A6,c6,rfl,nP,hg2⟩;have mV:=aa (show Kept (fun q=>q=g4∨q=g5) w9 W2 from jh (az.o.trans (hg1.trans hg2)));refine hK.out _ _ mV.o (fun hHeld=>?_);clear hC;clear hK K
    try simp only[ak]
    replace HG:=aa (HG.o.trans (az.o.trans (hg1.trans hg2)));replace au:=aa (au.o.grow (az.o.trans (hg1.trans hg2)));replace ay:=aa (ay.o.grow (az.o.trans (hg1.trans hg2)));have BH:=aa nP;clear hg1 hg2 nP hi5;have hb4:=au.o.cell;have h_:=au.o.frozen;have dt:∀i,W2.cell? ⟨g5,i,none⟩=(#[.int .i64 0,.int .i64 0,.slice none 0 0,.int .i64 0]:Array Value)[i]?:=ay.o.cell;have i6:=ay.o.frozen;refine aR 8 (fun K hK=>?_);go_simp;refine aV hK (mV.o.set (p:=⟨g4,0,none⟩) (.inl rfl) _) (fun hHeld=>?_);clear hK K;refine aR 9 (fun K hK=>?_);have Ek:=fun i=>((((ay.o.far (p:=⟨g4,0,none⟩) (fun e=>cj.o e.symm) (.slice A6 (st.length) c6)))).cell i)
    have El:=(ay.o.far (p:=⟨g4,0,none⟩) (fun e=>cj.o e.symm) (.slice A6 (st.length) c6)).frozen;clear dt i6;go_simp;refine aV hK (((((mV.o.set (p:=⟨g4,0,none⟩) (.inl rfl) _).set (p:=⟨g5,0,none⟩) (.inr rfl) _).set (p:=⟨g5,1,none⟩) (.inr rfl) _).set (p:=⟨g5,2,none⟩) (.inr rfl) _).set (p:=⟨g5,3,none⟩) (.inr rfl) _) (fun hHeld=>?_);clear hK K;refine cz ?_;clear hHeld;go_wp2_with fail;exact mW HG.o H4.o H5.o cj.o au.o ay.o BH.o mU.o (by rw[j5]) rfl rfl rfl
  ·have hof:=GH kv ck w6 (CP HR.o.key) (fun _=>HB.o.key) (HK.o.grow HG.o);have fG:=xQ.o.key (by dsimp only;omega);dsimp only at fG;obtain⟨⟨kb,ke⟩,hkk⟩:∃p,bK kv=p:=⟨_,rfl⟩;rw[hkk] at hof fG;have kQ:=aa hof;have gh:=aa fG;have Hv:=aa hkk;have q0:_=some (Value.int .i64 6):=aw.o.cell 0;have q5:_=some (Value.int .i64 ck.k):=aw.o.cell 5;have q6:_=some (Value.int .u64 ck.n):=aw.o.cell 6;have q7:_=some (Value.slice ck.aB ck.nB ck.cB):=aw.o.cell 7;have q8:_=some (Value.slice ck.aL ck.nL ck.cL):=aw.o.cell 8;have q9:_=some (Value.slice ck.aF ck.nF ck.cF):=aw.o.cell 9;clear hof fG hkk;go_wp2_with fail;clear q0 q5 q6 q7 q8 q9;refine kQ.o.mono ?_;rintro e w7 ⟨ah5,A7,c7,rfl,mr,ji,hg⟩;dsimp only at ji ⊢
   have jE:=aa (show ba w7 A7 kb from dW (fun p u hp=>⟨hp.1,aS _,hp.2.2⟩) ji.reads.1);replace HG:=aa (HG.o.trans hg);replace aC:=aa (aC.o.grow hg);replace aw:=aa (aw.o.grow hg);replace au:=aa (au.o.grow hg);replace ay:=aa (ay.o.grow hg);replace aT:=aa (aT.o.grow hg);replace dM:=aa (dM.o.grow hg);have Rx:=aa (show Grow w6 w7 from hg);clear hg mr ji;have hcs:=ly c7 jE.o;have hbc:=aT.o.cell;go_wp2_with fail;clear hcs hbc;refine(GJ c.name c.ag dA xA dc c.aq.length xc kb w7 dM.o cS.o.ag cS.o.keys (by have:=cS.o.nd;have:=HN.o;omega)).mono ?_;rintro e w8 ⟨rfl,hg⟩;replace HG:=aa (HG.o.trans hg);replace aC:=aa (aC.o.grow hg);replace aw:=aa (aw.o.grow hg);replace au:=aa (au.o.grow hg);replace ay:=aa (ay.o.grow hg)
   replace aT:=aa (aT.o.grow hg);replace dM:=aa (dM.o.grow hg);replace jE:=aa (jE.o.grow hg);have kg:=aa (Rx.o.trans hg);clear hg;obtain⟨FD,uz⟩:∃b,jg c.ag kb=b:=⟨_,rfl⟩;have Ry:=aa uz;rw[uz]
   cases FD with
   | false =>
    clear uz;have hbs:=aC.o.cell;go_wp2_with fail;refine(BC.o 17 _).mono ?_;rintro e wf ⟨rfl,bQ⟩;clear hbs;replace HG:=aa (HG.o.trans bQ);replace aC:=aa (aC.o.grow bQ);replace aw:=aa (aw.o.grow bQ);replace au:=aa (au.o.grow bQ);replace ay:=aa (ay.o.grow bQ);replace aT:=aa (aT.o.grow bQ);clear bQ;have hb4:=au.o.cell;have h_:=au.o.frozen;have dt:∀i,wf.cell? ⟨g5,i,none⟩=(#[.int .i64 0,.int .i64 0,.slice none 0 0,.int .i64 0]:Array Value)[i]?:=ay.o.cell;have i6:=ay.o.frozen;have sB:=cj.o;have nk:=fun e=>cj.o (lq e)
    go_wp2_with fail;exact mW HG.o H4.o H5.o cj.o au.o ay.o (HST.o.grow HG.o) (cJ.o.mono (fg _)) (rfl) rfl rfl rfl
   | true =>
    have hil:=yS uz;obtain⟨D,hD⟩:∃n,iM c.ag kb=n:=⟨_,rfl⟩;have Ed:=aa hD;rw[hD] at hil ⊢;obtain⟨b2,o2,y,ha,hbk2,e0,e1,e2,e3,e4,hy⟩:=dM.o.fJ D hil;dsimp only[kf] at ha;subst ha;have hbc:=aT.o.cell;have hd0:(0:Int)≤(D:Int):=by omega
    have hd1:(D:Int)<(c.ag.length:Int):=by omega
    clear uz hD;go_upto_region 45 with fail;clear e0 e1 e2 e3 e4 hbc hy;have bV:=aa (((ah w8).alloc (.cells y.cells 27)).alloc (.cells #[.int .i64 0,.int .i64 0,.slice (some ⟨w8.heap.size,0,none⟩) 1 1,.int .i64 0] 31));have je:=aa (aH (w8.alloc (.cells y.cells 27)) 31 #[.int .i64 0,.int .i64 0,.slice (some ⟨w8.heap.size,0,none⟩) 1 1,.int .i64 0]);have hl4:=au.o.lt;have qN:=ay.o.lt;have C7:(w8.alloc (.cells y.cells 27)).heap.size=w8.heap.size+1:=by simp
    obtain⟨g21,xR⟩:∃g,(w8.alloc (.cells y.cells 27)).heap.size=g:=⟨_,rfl⟩;have oQ:=aa (show g21≠g4∧g21≠g5 by omega);replace HG:=aa (HG.o.trans bV.o);replace aC:=aa (aC.o.grow bV.o);replace aw:=aa (aw.o.grow bV.o);replace au:=aa (au.o.grow bV.o);replace ay:=aa (ay.o.grow bV.o);replace aT:=aa (aT.o.grow bV.o);replace dM:=aa (dM.o.grow bV.o);replace jE:=aa (jE.o.grow bV.o);rw[xR] at je
    try rw[xR]
    try simp only[C7] at xR
    subst xR;generalize hwz:(w8.alloc (.cells y.cells 27)).alloc (.cells #[.int .i64 0,.int .i64 0,.slice (some ⟨w8.heap.size,0,none⟩) 1 1,.int .i64 0] 31)=w9 at bV je HG aC aw au ay aT dM jE ⊢;have eU:=aa (kg.o.trans bV.o);clear hwz hl4 qN C7 bV;have q0:_=some (Value.int .i64 6):=aw.o.cell 0;go_upto_region 46 with fail;clear q0;refine dN ?_
    refine dO (S:=fun w'=>w'.cell? ⟨w.heap.size,0,none⟩=some (.slice (some ⟨bk,o,none⟩) st.length cap)∧w'.cell? ⟨(w8.heap.size+1),0,none⟩=some (.int .i64 0)∧w'.cell? ⟨(w8.heap.size+1),1,none⟩=some (.int .i64 0)∧w'.cell? ⟨(w8.heap.size+1),2,none⟩=some (.slice (some ⟨w8.heap.size,0,none⟩) 1 1)∧w'.cell? ⟨(w8.heap.size+1),3,none⟩=some (.int .i64 0)) (by kernel_rfl) (⟨(aC.o.grow (ah _).drew).cell 0,(je.o.grow (ah _).drew).cell 0,(je.o.grow (ah _).drew).cell 1,(je.o.grow (ah _).drew).cell 2,(je.o.grow (ah _).drew).cell 3⟩) (fun hHeld=>?_);have az:=aa (show Grow w9 w9.drew from (ah _).drew);generalize w9.drew=W0 at az hHeld ⊢;replace HG:=aa (HG.o.trans az.o);replace au:=aa (au.o.grow az.o);replace ay:=aa (ay.o.grow az.o)
    replace aC:=aa (aC.o.grow az.o);replace je:=aa (je.o.grow az.o);have hb4:=au.o.cell;have h_:=au.o.frozen;have dt:∀i,W0.cell? ⟨g5,i,none⟩=(#[.int .i64 0,.int .i64 0,.slice none 0 0,.int .i64 0]:Array Value)[i]?:=ay.o.cell;have i6:=ay.o.frozen;have R5:=aa (fun(g:Nat) (T:TypeId) (cs:Array Value) h1 h2 h3=>(GS (A':=(some ⟨bk,o,none⟩)) (l':=st.length) (c':=cap) (e':=0) (n':=0) (B':=(some ⟨w8.heap.size,0,none⟩)) (m':=1) (d':=1) (k':=0) HG.o H4.o H5.o cj.o au.o ay.o).2.2.2.2 (g:=g) (T:=T) (cs:=cs) h1 h2 h3);refine aj 0 (hy:=bj fun w ax=>by obtain⟨s0,-,-,-,-⟩:=ax;go_simp;try rfl) ?_;refine aj 1 (hy:=bj fun w ax=>by obtain⟨-,s1,s2,s3,s4⟩:=ax;go_simp;try rfl) ?_;refine aR 2 (fun K hK=>?_);go_simp
    refine aV hK (⟨(aC.o.far (p:=⟨g4,0,none⟩) jU.o.1 _).cell 0,(je.o.far (p:=⟨g4,0,none⟩) oQ.o.1 _).cell 0,(je.o.far (p:=⟨g4,0,none⟩) oQ.o.1 _).cell 1,(je.o.far (p:=⟨g4,0,none⟩) oQ.o.1 _).cell 2,(je.o.far (p:=⟨g4,0,none⟩) oQ.o.1 _).cell 3⟩) (fun hHeld=>?_);clear hK K;refine aR 3 (fun K hK=>?_);have Ek:=fun i=>((((ay.o.far (p:=⟨g4,0,none⟩) (fun e=>cj.o e.symm) (.slice (some ⟨bk,o,none⟩) (st.length) cap)))).cell i)
    have El:=(ay.o.far (p:=⟨g4,0,none⟩) (fun e=>cj.o e.symm) (.slice (some ⟨bk,o,none⟩) (st.length) cap)).frozen;clear dt i6;go_simp;refine aV hK (⟨(R5.o _ _ _ aC.o jU.o.1 jU.o.2).cell 0,(R5.o _ _ _ je.o oQ.o.1 oQ.o.2).cell 0,(R5.o _ _ _ je.o oQ.o.1 oQ.o.2).cell 1,(R5.o _ _ _ je.o oQ.o.1 oQ.o.2).cell 2,(R5.o _ _ _ je.o oQ.o.1 oQ.o.2).cell 3⟩) (fun hHeld=>?_);clear hK K;refine cz ?_;clear hHeld;go_wp2_with fail;exact mW HG.o H4.o H5.o cj.o au.o ay.o (HST.o.grow HG.o) (cJ.o.mono (fg _)) (rfl) rfl rfl rfl
  ·have qK:=xQ.o.ix rfl;dsimp only at qK;rw[fP.o] at qK;have Iq:=aa qK;have q0:_=some (Value.int .i64 7):=aw.o.cell 0;have q2:_=some (Value.string ix):=aw.o.cell 2;have q3:_=some (Value.string pa):=aw.o.cell 3;have q4:_=some (Value.bool un):=aw.o.cell 4;clear qK;go_upto_region 50 with fail;clear q0 q2 q3 q4;have qO:=aa (aH w6 64 #[.string ix,.string pa,.bool un]);have uA:=aa ((ah w6).alloc (.cells #[.string ix,.string pa,.bool un] 64));have hl4:=au.o.lt;have qN:=ay.o.lt;obtain⟨g22,Z0⟩:∃g,w6.heap.size=g:=⟨_,rfl⟩;have Z4:=aa (show g22≠g4∧g22≠g5 by omega);rw[Z0] at qO ⊢;clear Z0 hl4 qN;generalize w6.alloc (.cells #[.string ix,.string pa,.bool un] 64)=w7 at qO uA ⊢;replace HG:=aa (HG.o.trans uA.o);replace aC:=aa (aC.o.grow uA.o)
   replace aw:=aa (aw.o.grow uA.o);replace au:=aa (au.o.grow uA.o);replace ay:=aa (ay.o.grow uA.o);replace aT:=aa (aT.o.grow uA.o);replace dM:=aa (dM.o.grow uA.o);replace fe:=aa (fe.o.grow uA.o);have hbc:=aT.o.cell;have LY:=qO.o.cell;go_wp2_with fail;clear hbc LY;have Z5:=aa (show pa.size<4294967281 from by have:=Iq.o.2.1;omega);refine(Qt c.name c.ag dA xA dc c.aq.length xc ⟨ix,pa,un⟩ w7 dM.o Z5.o cS.o.ag (by have:=cS.o.nd;have:=HN.o;omega)).mono ?_;rintro e w8 ⟨hg,hre⟩;replace HG:=aa (HG.o.trans hg);replace aC:=aa (aC.o.grow hg);replace aw:=aa (aw.o.grow hg);replace au:=aa (au.o.grow hg);replace ay:=aa (ay.o.grow hg);replace aT:=aa (aT.o.grow hg);replace qO:=aa (qO.o.grow hg)
   replace dM:=aa (dM.o.grow hg);replace fe:=aa (fe.o.grow hg);clear hg;dsimp only at hre;obtain⟨x,hx⟩:∃x,fW pa c.ag=x:=⟨_,rfl⟩;rw[hx] at hre;have nQ:=aa hx;clear hx;obtain⟨ZU,rfl⟩ | ⟨rfl,A1,c1,es,rfl,-,-,-⟩:=hre
   ·have hbs:=aC.o.cell;go_wp2_with fail;refine(BC.o x _).mono ?_;rintro e wf ⟨rfl,bQ⟩;clear hbs;replace HG:=aa (HG.o.trans bQ);replace aC:=aa (aC.o.grow bQ);replace aw:=aa (aw.o.grow bQ);replace au:=aa (au.o.grow bQ);replace ay:=aa (ay.o.grow bQ);replace aT:=aa (aT.o.grow bQ);replace qO:=aa (qO.o.grow bQ);clear bQ;have hb4:=au.o.cell;have h_:=au.o.frozen;have dt:∀i,wf.cell? ⟨g5,i,none⟩=(#[.int .i64 0,.int .i64 0,.slice none 0 0,.int .i64 0]:Array Value)[i]?:=ay.o.cell;have i6:=ay.o.frozen;have sB:=cj.o;have nk:=fun e=>cj.o (lq e)
    go_wp2_with fail;exact mW HG.o H4.o H5.o cj.o au.o ay.o (HST.o.grow HG.o) (cJ.o.mono (fg _)) (rfl) rfl rfl rfl
   go_upto_region 54 with fail;go_loopg [25] (c.ag.length+1) (fun gk i wr=>∃j:Nat,j≤c.ag.length∧gk+j=c.ag.length+1∧i=.int .i64 j∧(un=true→∀i (hi:i<c.ag.length),i<j→c.ag.any (jI pa c.ag[i])=false)∧Grow w8 wr);exact⟨0,aS _,rfl,rfl,fun _ _ _ h=>absurd h (by omega),ah _⟩;obtain⟨j,hj,iB,rfl,hne,hgr⟩:=hrel;obtain⟨gk',rfl⟩:=bP gk (by omega);have kA:=aa hne;replace HG:=aa (HG.o.trans hgr);replace aC:=aa (aC.o.grow hgr);replace aw:=aa (aw.o.grow hgr);replace au:=aa (au.o.grow hgr);replace ay:=aa (ay.o.grow hgr);replace aT:=aa (aT.o.grow hgr);replace qO:=aa (qO.o.grow hgr);replace dM:=aa (dM.o.grow hgr);replace fe:=aa (fe.o.grow hgr);have aO:=aa hgr;have hbc:=aT.o.cell;have LY:=qO.o.cell;have h8:=cS.o.nd
   have h9:=HN.o;clear hne hgr;by_cases hjl:j<c.ag.length
   ·obtain⟨b2,o2,y,ha,hbk2,e0,e1,e2,e3,e4,hy⟩:=dM.o.fJ j hjl;dsimp only[kf] at ha;subst ha;have kY:=aa (show eu c.ag[j]∧c.ag[j].good=0∧(c.ag[j].formed=true→c.ag[j].bytes.length≤140737488355328) from ⟨cS.o.ag _ (aY hjl),(cS.o.ag _ (aY hjl)).id.elim fun _ h=>h.2.2.2.1,(cS.o.ag _ (aY hjl)).bytes⟩);have HY:=aa hy;obtain⟨dk,kV⟩:∃x,c.ag[j]=x:=⟨_,rfl⟩;rw[kV] at kY HY;have Ip:=aa kV;clear hy kV
    cases un with
    | false =>
     go_upto_region 56 with fail;go_quiet (fail);go_wp2_with fail;go_roundg gk';exact⟨j+1,by omega,by omega,by go_num,fun h=>(by cases h),aO.o.trans ((ah _).drewN _)⟩;omega
    | true =>
     have Ir:=aa (fun(W:World) (hg:Grow wr W)=>show ∀i v,y.cells.toList[i]?=some v→i<5→W.cell? ⟨b2,o2+j*5+i,none⟩=some v from fun i v hv hi=>by
      match i,hv,hi with
      | 0,hv,_=>cases hv;exact(hg.below.cell (p:=⟨b2,o2+j*5,none⟩) hbk2).trans e0
      | 1,hv,_=>cases hv;exact(hg.below.cell (p:=⟨b2,o2+j*5+1,none⟩) hbk2).trans e1
      | 2,hv,_=>cases hv;exact(hg.below.cell (p:=⟨b2,o2+j*5+2,none⟩) hbk2).trans e2
      | 3,hv,_=>cases hv;exact(hg.below.cell (p:=⟨b2,o2+j*5+3,none⟩) hbk2).trans e3
      | 4,hv,_=>cases hv;exact(hg.below.cell (p:=⟨b2,o2+j*5+4,none⟩) hbk2).trans e4
      | i+5,_,hi=>omega)
     go_upto_region 56 with fail;clear hbc LY e0 e1 e2 e3 e4;refine dN ?_;refine dO (S:=fun w'=>Grow wr w') (by kernel_rfl) ((ah _).drew) (fun hHeld=>?_);have oO:=aa (show Grow wr wr.drew from (ah _).drew);generalize wr.drew=W5 at oO hHeld ⊢;refine aK 0 ?_
     try simp only[ak]
     refine aj 1 (hy:=bj fun w ax=>by have b:=(qO.o.grow ax).cell;clear ax;go_simp;try rfl) ?_;refine aK 2 ?_
     try simp only[ak]
     refine aj 3 (hy:=bj fun w ax=>by have b:=(aT.o.grow ax).cell;clear ax;go_simp;try rfl) ?_;refine aj 4 (hy:=bj fun w ax=>by have b:=(qO.o.grow ax).cell;clear ax;go_simp;try rfl) ?_;refine aK 5 ?_
     try simp only[ak]
     refine aj 6 (hy:=bj fun w ax=>by have b:=(aT.o.grow ax).cell;clear ax;go_simp;try rfl) ?_;refine aK 7 ?_
     try simp only[ak]
     refine aK 8 ?_
     try simp only[ak]
     refine aj 9 (hy:=bj fun w ax=>by have y0:=Ir.o _ ax 0 _ rfl (by omega);rw[fF] at y0;have y1:=Ir.o _ ax 1 _ rfl (by omega);have y2:=Ir.o _ ax 2 _ rfl (by omega);have y3:=Ir.o _ ax 3 _ rfl (by omega);have y4:=Ir.o _ ax 4 _ rfl (by omega);clear ax;go_simp;try rfl) ?_;refine aR 10 (fun K hK=>?_);have hC:=Ya c.name c.ag (some ⟨b2,o2,none⟩) xA dc c.aq.length xc ⟨ix,pa,true⟩ dk y W5 (dM.o.grow oO.o) cS.o.ag (by have:=cS.o.nd;have:=HN.o;omega) Z5.o (mJ kY.o.2.1).1 kY.o.1.count kY.o.2.2 (HY.o.grow oO.o);dsimp only[Ix.cells] at hC;go_simp;go_at_call 72;refine hC.mono ?_;rintro ee W6 ⟨rfl,bU⟩;have bR:=aa (oO.o.trans bU);refine hK.out _ _ bR.o (fun hHeld=>?_);clear hC;clear hK K
     try simp only[ak]
     refine aK 11 ?_
     try simp only[ak]
     refine cz ?_;clear hHeld bU;obtain⟨cb,hcb⟩:∃b,c.ag.any (jI pa dk)=b:=⟨_,rfl⟩;have qz:=aa hcb;rw[hcb];clear hcb;replace HG:=aa (HG.o.trans bR.o);replace aC:=aa (aC.o.grow bR.o);replace aw:=aa (aw.o.grow bR.o);replace au:=aa (au.o.grow bR.o);replace ay:=aa (ay.o.grow bR.o);replace aT:=aa (aT.o.grow bR.o)
     cases cb with
     | true =>
      have hbs:=aC.o.cell;go_wp2_with fail;refine(BC.o 13 _).mono ?_;rintro e wf ⟨rfl,bQ⟩;clear hbs;replace HG:=aa (HG.o.trans bQ);replace aC:=aa (aC.o.grow bQ);replace aw:=aa (aw.o.grow bQ);replace au:=aa (au.o.grow bQ);replace ay:=aa (ay.o.grow bQ);replace aT:=aa (aT.o.grow bQ);clear bQ;have hb4:=au.o.cell;have h_:=au.o.frozen;have dt:∀i,wf.cell? ⟨g5,i,none⟩=(#[.int .i64 0,.int .i64 0,.slice none 0 0,.int .i64 0]:Array Value)[i]?:=ay.o.cell;have i6:=ay.o.frozen;have sB:=cj.o;have nk:=fun e=>cj.o (lq e)
      go_wp2_with fail;exact mW HG.o H4.o H5.o cj.o au.o ay.o (HST.o.grow HG.o) (cJ.o.mono (fg _)) (rfl) rfl rfl rfl
     | false =>
      go_wp2_with fail;go_roundg gk';refine⟨j+1,by omega,by omega,by go_num,fun hu i hi hij=>?_,aO.o.trans bR.o⟩;by_cases ie:i=j
      ·subst ie;rw[Ip.o];exact qz.o
      exact kA.o hu i hi (by omega);omega
   have Rv:j=c.ag.length:=by omega
   subst Rv;have mU:=aa (show ed (N+1) (st.set P ⟨c.name,c.ag,(cK c.aq (bX (c.aq.map Ix.name) ix) ⟨ix,pa,un⟩)⟩) from AH (q:=⟨7,co,ix,pa,un,kv,lv,hv,dv,n⟩) (n:=0) (ag:=[]) cJ.o HR.o.fit HR.o.doc (by
    show F9 st ⟨7,co,ix,pa,un,kv,lv,hv,dv,n⟩=_;unfold F9;dsimp only;rw[ai (by rw[Iq.o.1];decide),ai Iq.o.2.1,ai (by rw[HF.o];decide),fP.o,ai (by rw[Iq.o.2.2.1];decide),ai Iq.o.2.2.2,ai (by rw[nQ.o];simp),ai (fun h=>by
     rw[agF cS.o.ag cS.o.keys nQ.o (fun x hx=>by
      obtain⟨i,hi,rfl⟩:=kH hx;exact kA.o h.1 i hi hi)] at h
     cases h.2),vL.o]))
   have Rw:=aa (show ∀g,(g=g4∨g=g5)→gT wr g from fun g h=>h.elim (fun e=>e ▸ K0 au.o) (fun e=>e ▸ K1 ay.o));go_upto_region 58 with fail;clear hbc LY;refine dN ?_;refine dO (S:=fun w'=>Kept (fun q=>q=g4∨q=g5) wr w') (by kernel_rfl) (jh (ah _).drew) (fun hHeld=>?_);have kZ:=aa (show Grow wr wr.drew from (ah _).drew);generalize wr.drew=W5 at kZ hHeld ⊢;refine aj 0 (hy:=bj fun w ax=>by have b:=(ax.blk aC.o (fun e=>e.elim jU.o.1 jU.o.2)).cell;clear ax;go_simp;try rfl) ?_;refine aK 1 ?_
   try simp only[ak]
   refine aj 2 (hy:=bj fun w ax=>by have b:=(ax.blk aT.o (fun e=>e.elim uy.o.1 uy.o.2)).cell;clear ax;go_simp;try rfl) ?_;refine aj 3 (hy:=bj fun w ax=>by have b:=(ax.blk qO.o (fun e=>e.elim Z4.o.1 Z4.o.2)).cell;clear ax;go_simp;try rfl) ?_;refine aK 6 ?_
   try simp only[ak]
   refine aR 4 (fun K hK=>?_);have hC:=afB c.name dA xA c.ag.length dc c.aq xc ⟨ix,pa,un⟩ W5 (fe.o.grow kZ.o) LU.o cS.o.aq (by have:=cS.o.nx;omega);dsimp only[Ix.cells] at hC;go_simp;go_at_call 76;refine hC.mono ?_;rintro ee W6 ⟨A5,c5,rfl,hi5,E_,hg1⟩;refine hK.out _ _ (jh (kZ.o.trans hg1)) (fun hHeld=>?_);clear hC;clear hK K
   try simp only[ak]
   refine aR 5 (fun K hK=>?_);have hC:=La st (some ⟨bk,o,none⟩) cap P ⟨c.name,dA,c.ag.length,dc,A5,(cK c.aq (bX (c.aq.map Ix.name) ix) ⟨ix,pa,un⟩).length,c5⟩ ⟨c.name,c.ag,(cK c.aq (bX (c.aq.map Ix.name) ix) ⟨ix,pa,un⟩)⟩ W6 (HST.o.grow (HG.o.trans (kZ.o.trans hg1))) ⟨rfl,rfl,rfl,E_,dM.o.grow (kZ.o.trans hg1),hi5⟩ sx.o (by have:=cJ.o.n;omega);go_simp;go_at_call 73;refine hC.mono ?_;rintro ee W2 ⟨A6,c6,rfl,nP,hg2⟩;have mV:=aa (show Kept (fun q=>q=g4∨q=g5) wr W2 from jh (kZ.o.trans (hg1.trans hg2)));refine hK.out _ _ mV.o (fun hHeld=>?_);clear hC;clear hK K
   try simp only[ak]
   replace HG:=aa (HG.o.trans (kZ.o.trans (hg1.trans hg2)));replace au:=aa (au.o.grow (kZ.o.trans (hg1.trans hg2)));replace ay:=aa (ay.o.grow (kZ.o.trans (hg1.trans hg2)));have BH:=aa nP;clear hg1 hg2 nP hi5 E_;have hb4:=au.o.cell;have h_:=au.o.frozen;have dt:∀i,W2.cell? ⟨g5,i,none⟩=(#[.int .i64 0,.int .i64 0,.slice none 0 0,.int .i64 0]:Array Value)[i]?:=ay.o.cell;have i6:=ay.o.frozen;refine aR 7 (fun K hK=>?_);go_simp;refine aV hK (mV.o.set (p:=⟨g4,0,none⟩) (.inl rfl) _) (fun hHeld=>?_);clear hK K;refine aR 8 (fun K hK=>?_);have Ek:=fun i=>((((ay.o.far (p:=⟨g4,0,none⟩) (fun e=>cj.o e.symm) (.slice A6 (st.length) c6)))).cell i)
   have El:=(ay.o.far (p:=⟨g4,0,none⟩) (fun e=>cj.o e.symm) (.slice A6 (st.length) c6)).frozen;clear dt i6;go_simp;refine aV hK (((((mV.o.set (p:=⟨g4,0,none⟩) (.inl rfl) _).set (p:=⟨g5,0,none⟩) (.inr rfl) _).set (p:=⟨g5,1,none⟩) (.inr rfl) _).set (p:=⟨g5,2,none⟩) (.inr rfl) _).set (p:=⟨g5,3,none⟩) (.inr rfl) _) (fun hHeld=>?_);clear hK K;refine cz ?_;clear hHeld;go_wp2_with fail;exact mW HG.o H4.o H5.o cj.o au.o ay.o BH.o mU.o (by rw[j5]) rfl rfl rfl
  ·have hun:=xQ.o.un rfl;dsimp only at hun;rw[fP.o] at hun;have hil:=Kq hun;rw[cY] at hil;have Ej:=GA c.name dA c.ag.length dc c.aq ix xA xc w6 fe.o cS.o.aq (by have:=cS.o.nx;omega);rw[xL hun] at Ej;have mU:=aa (show ed (N+1) (st.set P ⟨c.name,c.ag,gj c.aq (bX (c.aq.map Ix.name) ix)⟩) from AH (q:=⟨8,co,ix,pa,un,kv,lv,hv,dv,n⟩) (n:=0) (ag:=[]) cJ.o HR.o.fit HR.o.doc (by
    show F_ st ⟨8,co,ix,pa,un,kv,lv,hv,dv,n⟩=_;unfold F_;dsimp only;rw[ai (by rw[HF.o];decide),fP.o,ai (by rw[hun];decide),vL.o]))
   obtain⟨I,hI⟩:∃p,bX (c.aq.map Ix.name) ix=p:=⟨_,rfl⟩;rw[hI] at Ej hil mU;have Bt:=aa Ej;have Rz:=aa hil;have hbc:=aT.o.cell;have q0:_=some (Value.int .i64 8):=aw.o.cell 0;have q2:_=some (Value.string ix):=aw.o.cell 2;clear hun hI Ej hil;go_wp2_with fail;clear q0 q2 hbc;refine Bt.o.mono ?_;rintro e w7 ⟨rfl,hg⟩;have xB:=aa (show w.heap.size≤w5.heap.size from by have:=ZW.o;omega);have lK:=aa (show w.heap.size<w5.heap.size from by have:=ZW.o;omega);have uA:=aa (show Grow w6 w7 from hg);replace HG:=aa (HG.o.trans hg);replace aC:=aa (aC.o.grow hg);replace aw:=aa (aw.o.grow hg);replace au:=aa (au.o.grow hg);replace ay:=aa (ay.o.grow hg);replace aT:=aa (aT.o.grow hg);replace fe:=aa (fe.o.grow hg);clear hg;have hil:=Rz.o;have hnx:=cS.o.nx
   have oh:=LU.o;obtain⟨q,hq⟩:∃q,I+1=q:=⟨_,rfl⟩;have DM:((I:Int)+1)=(q:Int):=by omega
   have DN:IntKind.i64.wrap (q:Int)=(q:Int):=by rw[cZ];omega
   have hi0:(0:Int)≤(I:Int):=by omega
   have hi1:(I:Int)≤(c.aq.length:Int):=by omega
   have hi2:(I:Int)≤(xc:Int):=by omega
   have hq0:(0:Int)≤(q:Int):=by omega
   have hq1:(q:Int)≤(c.aq.length:Int):=by omega
   have hq2:(q:Int)≤(xc:Int):=by omega
   have hbc:=aT.o.cell;have HQ:=aa hq;clear hq;have hsh:=Xm (A:=xA) (i:=I) (by omega) oh;go_upto_region 63 with (at_builtin;refine A_ (w0:=w7) (.tmp 279) (.tmp 283) 46 64 3 40 _ ze GW rfl rfl rfl (Xl fe.o I xc (by omega)) (by omega) (by simp only[maxLen];omega) (ah _) ?_;intro A7 c7 w8 fI bW);clear hsh;have oK:=aa fI;have aZ:=aa bW;have il:=aa (dW (eO bW.below (av _) (av _) bW.size) fe.o);clear hbc;have hbc:=(aT.o.grow bW).cell;clear fI bW;obtain⟨AZ,hsl,hsrc⟩:=Xn (A:=xA) (n:=c.aq.length) (cap:=xc) (i:=q) (by omega) oh;have gz:=aa hsrc;clear hsrc
   go_upto_region 64 with (at_builtin;refine uf (w0:=w7) (.tmp 285) (.tmp 290) 46 64 3 40 _ ze GW rfl rfl oK.o rfl (gz.o _ _ _ il.o) (by omega) (by simp only[maxLen];omega) aZ.o ?_;intro A8 c8 w9 cX cO;have hbc:=(aT.o.grow cO).cell;have tZ:=(aT.o.grow cO).frozen);clear hsl;have hq:=HQ.o;subst hq;have fV:=(eK (S:=fun x=>x=gc) w9).set (p:=⟨gc,2,none⟩) rfl (.slice A8 (I+(c.aq.length-(I+1))) c8);have kW:=aa (show Blk (w9.setCell ⟨gc,2,none⟩ (.slice A8 (I+(c.aq.length-(I+1))) c8)) gc 48 #[.string c.name,.slice dA c.ag.length dc,.slice A8 (I+(c.aq.length-(I+1))) c8] from (aT.o.grow cO).bg 2 (.slice A8 (I+(c.aq.length-(I+1))) c8));have ah6:=aT.o.lt;have kC:=gD cX fV (fun g hg e=>by
    have:=(bO cX g (by rw[cE];exact hg)).1;omega)
   have hlen:I+(c.aq.length-(I+1))=(gj c.aq I).length:=by
    rw[gj,bD,eD,iI];omega
   have Z6:=aa (show kq (w9.setCell ⟨gc,2,none⟩ (.slice A8 (I+(c.aq.length-(I+1))) c8)) A8 (gj c.aq I) from by
    unfold kq;rw[← hlen,show gm (gj c.aq I)=gm (c.aq.take I)++gm (c.aq.drop (I+1)) from by simp[gj,gm]];exact dW jW (ku (S:=fun _=>False) kC (fun _ _ h=>h)))
   have HC8:=aa (show (gj c.aq I).length≤c8 from by rw[← hlen];exact(nH kC).1);have cr:=((ZX.o.trans uA.o).trans cO).setCell (p:=⟨gc,2,none⟩) (by dsimp only;have:=cM.o;omega) (.slice A8 (I+(c.aq.length-(I+1))) c8);have Z7:=aa (ah4.o.grow cr);replace HG:=aa ((HG.o.trans cO).setCell (p:=⟨gc,2,none⟩) (by dsimp only;have:=cM.o;have:=xB.o;omega) (.slice A8 (I+(c.aq.length-(I+1))) c8));replace aC:=aa ((aC.o.grow cO).far (p:=⟨gc,2,none⟩) (fun e=>by dsimp only at e;have:=cM.o;have:=lK.o;omega) (.slice A8 (I+(c.aq.length-(I+1))) c8));replace au:=aa ((au.o.grow cO).far (p:=⟨gc,2,none⟩) (fun e=>uy.o.1 e.symm) (.slice A8 (I+(c.aq.length-(I+1))) c8))
   replace ay:=aa ((ay.o.grow cO).far (p:=⟨gc,2,none⟩) (fun e=>uy.o.2 e.symm) (.slice A8 (I+(c.aq.length-(I+1))) c8));clear fV cX kC ah6 cO cr hbc tZ aT;generalize w9.setCell ⟨gc,2,none⟩ (.slice A8 (I+(c.aq.length-(I+1))) c8)=oL at kW Z6 Z7 HG aC au ay ⊢
   try simp only[fF] at hlen kW ⊢
   rw[hlen] at kW ⊢;clear hlen DM DN hq0 hq1 hq2
   try clear amd Z8
   have hbc:=kW.o.cell;have hbs:=aC.o.cell;go_wp2_with fail;refine(La st (some ⟨bk,o,none⟩) cap P ⟨c.name,dA,c.ag.length,dc,A8,(gj c.aq I).length,c8⟩ ⟨c.name,c.ag,gj c.aq I⟩ oL (HST.o.grow HG.o) ⟨rfl,rfl,rfl,HC8.o,Z7.o,Z6.o⟩ sx.o (by have:=cJ.o.n;omega)).mono ?_;rintro e uq ⟨A6,c6,rfl,nP,hg⟩;replace HG:=aa (HG.o.trans hg);replace au:=aa (au.o.grow hg);replace ay:=aa (ay.o.grow hg);have BH:=aa nP;clear hg nP hbc hbs;rw[j5];have hb4:=au.o.cell;have h_:=au.o.frozen;have dt:∀i,uq.cell? ⟨g5,i,none⟩=(#[.int .i64 0,.int .i64 0,.slice none 0 0,.int .i64 0]:Array Value)[i]?:=ay.o.cell;have i6:=ay.o.frozen;have sB:=cj.o;have nk:=fun e=>cj.o (lq e)
   go_wp2_with fail;exact mW HG.o H4.o H5.o cj.o au.o ay.o BH.o mU.o (by rw[j5]) rfl rfl rfl
  ·have q0:_=some (Value.int .i64 9):=aw.o.cell 0;have q2:_=some (Value.string ix):=aw.o.cell 2;have zf:_=some (Value.int .i64 cl.k):=aw.o.cell 10;have Hi:_=some (Value.int .u64 cl.n):=aw.o.cell 11;have Hj:_=some (Value.slice cl.aB cl.nB cl.cB):=aw.o.cell 12;have Hk:_=some (Value.slice cl.aL cl.nL cl.cL):=aw.o.cell 13;have Hm:_=some (Value.slice cl.aF cl.nF cl.cF):=aw.o.cell 14;have Ea:_=some (Value.int .i64 ch.k):=aw.o.cell 15;have Hn:_=some (Value.int .u64 ch.n):=aw.o.cell 16;have Ho:_=some (Value.slice ch.aB ch.nB ch.cB):=aw.o.cell 17;have Hp:_=some (Value.slice ch.aL ch.nL ch.cL):=aw.o.cell 18;have Hq:_=some (Value.slice ch.aF ch.nF ch.cF):=aw.o.cell 19;have hbc:=aT.o.cell;have hfi:=xQ.o.fi rfl;dsimp only at hfi;rw[fP.o] at hfi
   have Z9:=aa (agt c.name ix c.ag dA xA dc xc c.aq lv hv cl ch w6 dM.o cS.o.ag (by have:=cS.o.nd;have:=HN.o;omega) fe.o cS.o.aq cS.o.nx cS.o.path hfi.1 (HL.o.grow HG.o) (HH.o.grow HG.o) hfi.2.1 hfi.2.2);clear hfi;go_wp2_with fail;clear q0 q2 zf Hi Hj Hk Hm Ea Hn Ho Hp Hq hbc;refine Z9.o.mono ?_;rintro e w7 ⟨A1,c1,hs,rfl,qB,hle,hcap,hg⟩;have qC:=aa qB;have vS:=aa hle;replace HG:=aa (HG.o.trans hg);replace aC:=aa (aC.o.grow hg);replace aw:=aa (aw.o.grow hg);replace au:=aa (au.o.grow hg);replace ay:=aa (ay.o.grow hg);replace aT:=aa (aT.o.grow hg);clear qB hle hg Z9;go_upto_region 69 with fail;have RA:=aa (aH w7 31 #[.int .i64 0,.int .i64 0,.slice none 0 0,.int .i64 0])
   have ah7:=((ah w7).alloc (.cells #[.int .i64 0,.int .i64 0,.slice none 0 0,.int .i64 0] 31)).size;have LZ:(w7.alloc (.cells #[.int .i64 0,.int .i64 0,.slice none 0 0,.int .i64 0] 31)).heap.size=w7.heap.size+1:=by simp
   have Z_:=aa ((ah w7).alloc (.cells #[.int .i64 0,.int .i64 0,.slice none 0 0,.int .i64 0] 31));obtain⟨eB,RB⟩:∃g,w7.heap.size=g:=⟨_,rfl⟩;rw[RB] at RA LZ ⊢;generalize w7.alloc (.cells #[.int .i64 0,.int .i64 0,.slice none 0 0,.int .i64 0] 31)=wl at RA Z_ LZ ⊢;have gq:=aa LZ;have xS:=aa RB;have hl4:=au.o.lt;have qN:=ay.o.lt;have hls:=aC.o.lt;have BI:=aa (show (eB≠g4∧eB≠g5)∧eB≠w.heap.size by omega);have jv:=aa BI.o.1;clear ah7 LZ RB hl4 qN hls;have aaa:=aa (show w.heap.size≤eB from by have:=HG.o.size;have:=xS.o;omega)
   go_loopg [30] (hs.length+1) (fun gk i wr=>∃(m:Nat) (Ad:Option Addr) (cd:Nat) (xs:List Value),m≤hs.length∧gk+m=hs.length+1∧i=.int .i64 m∧Blk wr eB 31 (dD 0 0 Ad m cd 0)∧wr.ownsRow (eB+1) 27 5 (.slice Ad m cd) m xs∧Grow w7 wr);exact⟨0,none,0,[],aS _,rfl,rfl,RA.o,iH _ _ _ _,Z_.o⟩;obtain⟨m,Ad,cd,xs,hm,iB,rfl,aab,hown,hgr⟩:=hrel;obtain⟨gk',rfl⟩:=bP gk (by omega);have lR:=aa aab;have HOW:=aa hown;have aZ:=aa hgr;have HLEN:=aa (show hs.length≤1000000 from by have:=vS.o;have:=cS.o.nd;have:=HN.o;omega);replace HG:=aa (HG.o.trans hgr);replace aC:=aa (aC.o.grow hgr);replace aw:=aa (aw.o.grow hgr);replace au:=aa (au.o.grow hgr);replace ay:=aa (ay.o.grow hgr);replace aT:=aa (aT.o.grow hgr)
   have Lr:_=some (Value.int .i64 n):=aw.o.cell 25;have qB:Reads (bE wr 0 wr.heap.size) 7 A1 hs.length (jJ hs):=dW (eO hgr.below (av _) (av _) hgr.size) qC.o;have hsl:eB+1≤wr.heap.size:=by have:=lR.o.lt;omega
   have ve:=aa hsl;clear aab hown hgr hsl;by_cases ig:m<hs.length
   ·by_cases RD:(m:Int)<n
    ·obtain⟨br,rr,rfl,hbr,hcell⟩:=Hc.at_ qB ig;obtain⟨h0,VO⟩:∃h,hs[m]=h:=⟨_,rfl⟩;rw[VO] at hcell;have js:=aa (fun(W:World) (hg:Grow w7 W)=>show ∀i v,h0.cells.toList[i]?=some v→i<7→W.cell? ⟨br,rr+m*7+i,none⟩=some v from fun i v hv hi=>by
      obtain⟨b2,r2,e2,-,h2⟩:=Hc.at_ (dW (eO hg.below (av _) (av _) hg.size) qC.o) ig;injection e2 with e2;injection e2 with e3 e4;subst e3 e4;exact h2 i v (by rw[VO];exact hv) hi)
     have hl0:=HLEN.o;clear hcell qB;go_upto_region 71 with fail;refine dN ?_;refine dO (S:=fun w'=>Grow w7 w') (by kernel_rfl) (aZ.o.trans (ah _).drew) (fun hHeld=>?_);have az:=aa (show Grow wr wr.drew from (ah _).drew);generalize wr.drew=W0 at az hHeld ⊢;refine aK 0 ?_
     try simp only[ak]
     refine aK 2 ?_
     try simp only[ak]
     refine aK 3 ?_
     try simp only[ak]
     refine aK 4 ?_
     try simp only[ak]
     refine aK 5 ?_
     try simp only[ak]
     refine aj 6 (hy:=bj fun w ax=>by have k2:=js.o _ ax 2 _ rfl (by omega);have k3:=js.o _ ax 3 _ rfl (by omega);have k4:=js.o _ ax 4 _ rfl (by omega);have k5:=js.o _ ax 5 _ rfl (by omega);have k6:=js.o _ ax 6 _ rfl (by omega);clear ax;go_simp;try rfl) ?_;refine b_ [1,7] ?_;refine iz (fun K hK=>?_) (iz (fun K hK=>?_) bZ)
     ·have gH:∀i,W0.cell? ⟨eB,i,none⟩=(#[.int .i64 0,.int .i64 0,.slice Ad m cd,.int .i64 0]:Array Value)[i]?:=(lR.o.grow az.o).cell;go_simp;clear gH;refine aV hK (aZ.o.trans az.o) (fun hHeld=>?_);clear hK K;refine aR 7 (fun K hK=>?_);go_simp;refine aV hK ((aZ.o.trans az.o).alloc _) (fun hHeld=>?_);clear hK K;refine aR 8 (fun K hK=>?_);refine Il (eB+1) (by rfl) (.tmp 321) (.tmp 327) 24 27 (by rfl) 5 88 _ lF ry rfl (by rfl) ((kr HOW.o az.o).alloc _) (by rfl) (P5 h0.d (aH W0 27 h0.d.cells)) (by omega) (by simp only[maxLen];omega) (a_ ve.o ((az.o.alloc _).size)) ?_;intro A8 c8 w8 cX dz;have gp:=aa (((lR.o.grow az.o).alloc _).own dz (fun k hk=>by have:=(bO HOW.o k hk).1;omega))
      have gU:=aa ((((aZ.o.trans az.o).alloc _)).grown dz (fun k hk=>by have:=(bO HOW.o k hk).1;have:=xS.o;omega));have jl:=aa cX;clear cX dz;refine hK.out _ _ gU.o (fun hHeld=>?_);clear hK K
      try simp only[ak]
      refine aK 9 ?_
      try simp only[ak]
      refine aR 10 (fun K hK=>?_);have gH:∀i,w8.cell? ⟨eB,i,none⟩=(#[.int .i64 0,.int .i64 0,.slice Ad m cd,.int .i64 0]:Array Value)[i]?:=gp.o.cell;have oP:=gp.o.frozen;go_simp;clear gH oP;refine aV hK (gU.o.setCell (p:=⟨eB,2,none⟩) (by dsimp only;have:=xS.o;omega) _) (fun hHeld=>?_);clear hK K;refine cz ?_;clear hHeld;go_wp2_with fail;go_roundg gk';refine⟨m+1,A8,c8,_,by omega,by omega,by go_num,gp.o.bg 2 _,gD jl.o ((eK (S:=fun x=>x=eB) w8).set (p:=⟨eB,2,none⟩) rfl _) (fun g hg e=>?_),gU.o.setCell (p:=⟨eB,2,none⟩) (by dsimp only;have:=xS.o;omega) _⟩;have:=(bO jl.o g (by rw[cE];exact hg)).1;omega;omega
     go_simp;refine aV hK ((aZ.o.trans az.o).alloc _) (fun hHeld=>?_);clear hK K;refine aR 1 (fun K hK=>?_);have gH:∀i,(W0.alloc (.cells h0.d.cells 27)).cell? ⟨eB,i,none⟩=(#[.int .i64 0,.int .i64 0,.slice Ad m cd,.int .i64 0]:Array Value)[i]?:=((lR.o.grow az.o).alloc _).cell;go_simp;clear gH;refine aV hK ((aZ.o.trans az.o).alloc _) (fun hHeld=>?_);clear hK K;refine aR 8 (fun K hK=>?_);refine Il (eB+1) (by rfl) (.tmp 321) (.tmp 327) 24 27 (by rfl) 5 88 _ lF ry rfl (by rfl) ((kr HOW.o az.o).alloc _) (by rfl) (P5 h0.d (aH W0 27 h0.d.cells)) (by omega) (by simp only[maxLen];omega) (a_ ve.o ((az.o.alloc _).size)) ?_;intro A8 c8 w8 cX dz;have gp:=aa (((lR.o.grow az.o).alloc _).own dz (fun k hk=>by have:=(bO HOW.o k hk).1;omega))
     have gU:=aa ((((aZ.o.trans az.o).alloc _)).grown dz (fun k hk=>by have:=(bO HOW.o k hk).1;have:=xS.o;omega));have jl:=aa cX;clear cX dz;refine hK.out _ _ gU.o (fun hHeld=>?_);clear hK K
     try simp only[ak]
     refine aK 9 ?_
     try simp only[ak]
     refine aR 10 (fun K hK=>?_);have gH:∀i,w8.cell? ⟨eB,i,none⟩=(#[.int .i64 0,.int .i64 0,.slice Ad m cd,.int .i64 0]:Array Value)[i]?:=gp.o.cell;have oP:=gp.o.frozen;go_simp;clear gH oP;refine aV hK (gU.o.setCell (p:=⟨eB,2,none⟩) (by dsimp only;have:=xS.o;omega) _) (fun hHeld=>?_);clear hK K;refine cz ?_;clear hHeld;go_wp2_with fail;go_roundg gk';refine⟨m+1,A8,c8,_,by omega,by omega,by go_num,gp.o.bg 2 _,gD jl.o ((eK (S:=fun x=>x=eB) w8).set (p:=⟨eB,2,none⟩) rfl _) (fun g hg e=>?_),gU.o.setCell (p:=⟨eB,2,none⟩) (by dsimp only;have:=xS.o;omega) _⟩;have:=(bO jl.o g (by rw[cE];exact hg)).1;omega;omega
    have gH:∀i,wr.cell? ⟨eB,i,none⟩=(#[.int .i64 0,.int .i64 0,.slice Ad m cd,.int .i64 0]:Array Value)[i]?:=lR.o.cell;have oP:=lR.o.frozen;clear qB;go_upto_region 73 with fail;have gI:=aa (show Blk (wr.setCell ⟨eB,1,none⟩ (.int .i64 m)) eB 31 (dD 0 m Ad m cd 0) from lR.o.bg 1 _);replace HG:=aa (HG.o.setCell (p:=⟨eB,1,none⟩) (by dsimp only;have:=xS.o;have:=aaa.o;omega) (.int .i64 m));replace aC:=aa (aC.o.far (p:=⟨eB,1,none⟩) (fun e=>BI.o.2 e.symm) (.int .i64 m));replace au:=aa (au.o.far (p:=⟨eB,1,none⟩) (fun e=>BI.o.1.1 e.symm) (.int .i64 m));replace ay:=aa (ay.o.far (p:=⟨eB,1,none⟩) (fun e=>BI.o.1.2 e.symm) (.int .i64 m));generalize wr.setCell ⟨eB,1,none⟩ (.int .i64 m)=w8 at gI HG aC au ay ⊢;clear gH oP Lr;go_upto_region 73 with fail
    refine dN ?_;refine dO (S:=fun w'=>w'.cell? ⟨w.heap.size,0,none⟩=some (.slice (some ⟨bk,o,none⟩) st.length cap)∧w'.cell? ⟨eB,0,none⟩=some (.int .i64 0)∧w'.cell? ⟨eB,1,none⟩=some (.int .i64 m)∧w'.cell? ⟨eB,2,none⟩=some (.slice Ad m cd)∧w'.cell? ⟨eB,3,none⟩=some (.int .i64 0)) (by kernel_rfl) (⟨(aC.o.grow (ah _).drew).cell 0,(gI.o.grow (ah _).drew).cell 0,(gI.o.grow (ah _).drew).cell 1,(gI.o.grow (ah _).drew).cell 2,(gI.o.grow (ah _).drew).cell 3⟩) (fun hHeld=>?_);have az:=aa (show Grow w8 w8.drew from (ah _).drew);generalize w8.drew=W0 at az hHeld ⊢;replace HG:=aa (HG.o.trans az.o);replace au:=aa (au.o.grow az.o);replace ay:=aa (ay.o.grow az.o);replace aC:=aa (aC.o.grow az.o)
    replace gI:=aa (gI.o.grow az.o);have hb4:=au.o.cell;have h_:=au.o.frozen;have dt:∀i,W0.cell? ⟨g5,i,none⟩=(#[.int .i64 0,.int .i64 0,.slice none 0 0,.int .i64 0]:Array Value)[i]?:=ay.o.cell;have i6:=ay.o.frozen;have R5:=aa (fun(g:Nat) (T:TypeId) (cs:Array Value) h1 h2 h3=>(GS (A':=(some ⟨bk,o,none⟩)) (l':=st.length) (c':=cap) (e':=0) (n':=(m:Int)) (B':=Ad) (m':=m) (d':=cd) (k':=0) HG.o H4.o H5.o cj.o au.o ay.o).2.2.2.2 (g:=g) (T:=T) (cs:=cs) h1 h2 h3);refine aj 0 (hy:=bj fun w ax=>by obtain⟨s0,-,-,-,-⟩:=ax;go_simp;try rfl) ?_;refine aj 1 (hy:=bj fun w ax=>by obtain⟨-,s1,s2,s3,s4⟩:=ax;go_simp;try rfl) ?_;refine aR 2 (fun K hK=>?_);go_simp
    refine aV hK (⟨(aC.o.far (p:=⟨g4,0,none⟩) jU.o.1 _).cell 0,(gI.o.far (p:=⟨g4,0,none⟩) jv.o.1 _).cell 0,(gI.o.far (p:=⟨g4,0,none⟩) jv.o.1 _).cell 1,(gI.o.far (p:=⟨g4,0,none⟩) jv.o.1 _).cell 2,(gI.o.far (p:=⟨g4,0,none⟩) jv.o.1 _).cell 3⟩) (fun hHeld=>?_);clear hK K;refine aR 3 (fun K hK=>?_);have Ek:=fun i=>((((ay.o.far (p:=⟨g4,0,none⟩) (fun e=>cj.o e.symm) (.slice (some ⟨bk,o,none⟩) (st.length) cap)))).cell i)
    have El:=(ay.o.far (p:=⟨g4,0,none⟩) (fun e=>cj.o e.symm) (.slice (some ⟨bk,o,none⟩) (st.length) cap)).frozen;clear dt i6;go_simp;refine aV hK (⟨(R5.o _ _ _ aC.o jU.o.1 jU.o.2).cell 0,(R5.o _ _ _ gI.o jv.o.1 jv.o.2).cell 0,(R5.o _ _ _ gI.o jv.o.1 jv.o.2).cell 1,(R5.o _ _ _ gI.o jv.o.1 jv.o.2).cell 2,(R5.o _ _ _ gI.o jv.o.1 jv.o.2).cell 3⟩) (fun hHeld=>?_);clear hK K;refine cz ?_;clear hHeld;go_wp2_with fail;exact mW HG.o H4.o H5.o cj.o au.o ay.o (HST.o.grow HG.o) (cJ.o.mono (fg _)) (rfl) rfl rfl rfl
   have gH:∀i,wr.cell? ⟨eB,i,none⟩=(#[.int .i64 0,.int .i64 0,.slice Ad m cd,.int .i64 0]:Array Value)[i]?:=lR.o.cell;have oP:=lR.o.frozen;clear qB;go_upto_region 73 with fail;have gI:=aa (show Blk (wr.setCell ⟨eB,1,none⟩ (.int .i64 m)) eB 31 (dD 0 m Ad m cd 0) from lR.o.bg 1 _);replace HG:=aa (HG.o.setCell (p:=⟨eB,1,none⟩) (by dsimp only;have:=xS.o;have:=aaa.o;omega) (.int .i64 m));replace aC:=aa (aC.o.far (p:=⟨eB,1,none⟩) (fun e=>BI.o.2 e.symm) (.int .i64 m));replace au:=aa (au.o.far (p:=⟨eB,1,none⟩) (fun e=>BI.o.1.1 e.symm) (.int .i64 m));replace ay:=aa (ay.o.far (p:=⟨eB,1,none⟩) (fun e=>BI.o.1.2 e.symm) (.int .i64 m));generalize wr.setCell ⟨eB,1,none⟩ (.int .i64 m)=w8 at gI HG aC au ay ⊢;clear gH oP Lr;go_upto_region 73 with fail
   refine dN ?_;refine dO (S:=fun w'=>w'.cell? ⟨w.heap.size,0,none⟩=some (.slice (some ⟨bk,o,none⟩) st.length cap)∧w'.cell? ⟨eB,0,none⟩=some (.int .i64 0)∧w'.cell? ⟨eB,1,none⟩=some (.int .i64 m)∧w'.cell? ⟨eB,2,none⟩=some (.slice Ad m cd)∧w'.cell? ⟨eB,3,none⟩=some (.int .i64 0)) (by kernel_rfl) (⟨(aC.o.grow (ah _).drew).cell 0,(gI.o.grow (ah _).drew).cell 0,(gI.o.grow (ah _).drew).cell 1,(gI.o.grow (ah _).drew).cell 2,(gI.o.grow (ah _).drew).cell 3⟩) (fun hHeld=>?_);have az:=aa (show Grow w8 w8.drew from (ah _).drew);generalize w8.drew=W0 at az hHeld ⊢;replace HG:=aa (HG.o.trans az.o);replace au:=aa (au.o.grow az.o);replace ay:=aa (ay.o.grow az.o);replace aC:=aa (aC.o.grow az.o)
   replace gI:=aa (gI.o.grow az.o);have hb4:=au.o.cell;have h_:=au.o.frozen;have dt:∀i,W0.cell? ⟨g5,i,none⟩=(#[.int .i64 0,.int .i64 0,.slice none 0 0,.int .i64 0]:Array Value)[i]?:=ay.o.cell;have i6:=ay.o.frozen;have R5:=aa (fun(g:Nat) (T:TypeId) (cs:Array Value) h1 h2 h3=>(GS (A':=(some ⟨bk,o,none⟩)) (l':=st.length) (c':=cap) (e':=0) (n':=(m:Int)) (B':=Ad) (m':=m) (d':=cd) (k':=0) HG.o H4.o H5.o cj.o au.o ay.o).2.2.2.2 (g:=g) (T:=T) (cs:=cs) h1 h2 h3);refine aj 0 (hy:=bj fun w ax=>by obtain⟨s0,-,-,-,-⟩:=ax;go_simp;try rfl) ?_;refine aj 1 (hy:=bj fun w ax=>by obtain⟨-,s1,s2,s3,s4⟩:=ax;go_simp;try rfl) ?_;refine aR 2 (fun K hK=>?_);go_simp
   refine aV hK (⟨(aC.o.far (p:=⟨g4,0,none⟩) jU.o.1 _).cell 0,(gI.o.far (p:=⟨g4,0,none⟩) jv.o.1 _).cell 0,(gI.o.far (p:=⟨g4,0,none⟩) jv.o.1 _).cell 1,(gI.o.far (p:=⟨g4,0,none⟩) jv.o.1 _).cell 2,(gI.o.far (p:=⟨g4,0,none⟩) jv.o.1 _).cell 3⟩) (fun hHeld=>?_);clear hK K;refine aR 3 (fun K hK=>?_);have Ek:=fun i=>((((ay.o.far (p:=⟨g4,0,none⟩) (fun e=>cj.o e.symm) (.slice (some ⟨bk,o,none⟩) (st.length) cap)))).cell i)
   have El:=(ay.o.far (p:=⟨g4,0,none⟩) (fun e=>cj.o e.symm) (.slice (some ⟨bk,o,none⟩) (st.length) cap)).frozen;clear dt i6;go_simp;refine aV hK (⟨(R5.o _ _ _ aC.o jU.o.1 jU.o.2).cell 0,(R5.o _ _ _ gI.o jv.o.1 jv.o.2).cell 0,(R5.o _ _ _ gI.o jv.o.1 jv.o.2).cell 1,(R5.o _ _ _ gI.o jv.o.1 jv.o.2).cell 2,(R5.o _ _ _ gI.o jv.o.1 jv.o.2).cell 3⟩) (fun hHeld=>?_);clear hK K;refine cz ?_;clear hHeld;go_wp2_with fail;exact mW HG.o H4.o H5.o cj.o au.o ay.o (HST.o.grow HG.o) (cJ.o.mono (fg _)) (rfl) rfl rfl rfl
  have q0:_=some (Value.int .i64 10):=aw.o.cell 0;go_upto_region 74 with fail;refine dN ?_;refine dO (S:=fun w'=>w'.cell? ⟨w.heap.size,0,none⟩=some (.slice (some ⟨bk,o,none⟩) st.length cap)∧w'.cell? ⟨gc,1,none⟩=some (.slice dA c.ag.length dc)) (by kernel_rfl) (⟨(aC.o.grow (ah _).drew).cell 0,(aT.o.grow (ah _).drew).cell 1⟩) (fun hHeld=>?_);have az:=aa (show Grow w6 w6.drew from (ah _).drew);clear q0;generalize w6.drew=W0 at az hHeld ⊢;replace HG:=aa (HG.o.trans az.o);replace au:=aa (au.o.grow az.o);replace ay:=aa (ay.o.grow az.o);replace aC:=aa (aC.o.grow az.o);replace aT:=aa (aT.o.grow az.o);have hb4:=au.o.cell;have h_:=au.o.frozen
  have dt:∀i,W0.cell? ⟨g5,i,none⟩=(#[.int .i64 0,.int .i64 0,.slice none 0 0,.int .i64 0]:Array Value)[i]?:=ay.o.cell;have i6:=ay.o.frozen;have R5:=aa (fun(g:Nat) (T:TypeId) (cs:Array Value) h1 h2 h3=>(GS (A':=(some ⟨bk,o,none⟩)) (l':=st.length) (c':=cap) (e':=0) (n':=(c.ag.length:Int)) (B':=none) (m':=0) (d':=0) (k':=0) HG.o H4.o H5.o cj.o au.o ay.o).2.2.2.2 (g:=g) (T:=T) (cs:=cs) h1 h2 h3);refine aj 0 (hy:=bj fun w ax=>by obtain⟨s0,-⟩:=ax;go_simp;try rfl) ?_;refine aK 1 ?_
  try simp only[ak]
  refine aj 2 (hy:=bj fun w ax=>by obtain⟨-,s1⟩:=ax;go_simp;try rfl) ?_;refine aK 3 ?_
  try simp only[ak]
  refine aK 4 ?_
  try simp only[ak]
  refine aR 5 (fun K hK=>?_);go_simp;refine aV hK (⟨(aC.o.far (p:=⟨g4,0,none⟩) jU.o.1 _).cell 0,(aT.o.far (p:=⟨g4,0,none⟩) uy.o.1 _).cell 1⟩) (fun hHeld=>?_);clear hK K;refine aR 6 (fun K hK=>?_);have Ek:=fun i=>((((ay.o.far (p:=⟨g4,0,none⟩) (fun e=>cj.o e.symm) (.slice (some ⟨bk,o,none⟩) (st.length) cap)))).cell i)
  have El:=(ay.o.far (p:=⟨g4,0,none⟩) (fun e=>cj.o e.symm) (.slice (some ⟨bk,o,none⟩) (st.length) cap)).frozen;clear dt i6;go_simp;refine aV hK (⟨(R5.o _ _ _ aC.o jU.o.1 jU.o.2).cell 0,(R5.o _ _ _ aT.o uy.o.1 uy.o.2).cell 1⟩) (fun hHeld=>?_);clear hK K;refine cz ?_;clear hHeld;go_wp2_with fail;exact mW HG.o H4.o H5.o cj.o au.o ay.o (HST.o.grow HG.o) (cJ.o.mono (fg _)) (rfl) rfl rfl rfl
 clear hx0;have hbs:=aC.o.cell;go_wp2_with fail;refine(BC.o x _).mono ?_;rintro e wf ⟨rfl,bQ⟩;clear hbs;replace HG:=aa (HG.o.trans bQ);replace aC:=aa (aC.o.grow bQ);replace aw:=aa (aw.o.grow bQ);replace au:=aa (au.o.grow bQ);replace ay:=aa (ay.o.grow bQ);clear bQ;have hb4:=au.o.cell;have h_:=au.o.frozen;have dt:∀i,wf.cell? ⟨g5,i,none⟩=(#[.int .i64 0,.int .i64 0,.slice none 0 0,.int .i64 0]:Array Value)[i]?:=ay.o.cell;have i6:=ay.o.frozen;have sB:=cj.o;have nk:=fun e=>cj.o (lq e)
 go_wp2_with fail;exact mW HG.o H4.o H5.o cj.o au.o ay.o (HST.o.grow HG.o) (cJ.o.mono (fg _)) (rfl) rfl rfl rfl
end
end Go.Proofs.YtndjopkdbdcmdaaGreatDoor
