/- Part 20 of the proof of pfinds_card. -/
import Derived.Test.YtndjopkdbdcmdaaGreatDoorPfi17
import Derived.Test.YtndjopkdbdcmdaaGreatDoorPfi18
set_option linter.unusedVariables false
set_option linter.unusedSimpArgs false
set_option maxRecDepth 100000
set_option maxHeartbeats 12800000
open Go.Proofs.Tryz
namespace Go.Proofs.YtndjopkdbdcmdaaGreatDoor
section
open Go.RowKit
theorem aif{ops:Array Oper}{rest:List Oper}{Q:Exit→Act→World→Prop}{a:Act}{w:World}(base:Nat)(s x:Operand)(t e:TypeId)(z iG:Nat)(zv:Value)(ht:prog.underlying t=some (.slice e))(hi:(prog.info? e).map (fun i=>(i.zero,i.size,i.bytes))=some (some zv,z,iG))(hzs:zv.cells.size=z){d:Option Tmp}{tt:TypeId}{p:String}{af:Array Edge}
 {v:Value} {n:Nat} {xs:List Value} (hv:a.eval s=v) (hown:w.ownsRow base e z v n xs) {u:Value} {m:Nat} {news:List Value} (hx:a.eval x=u) (hs:Src prog z t u m news w) (hb:(n+m)*iG≤140737488355328) (h63:n+m≤maxLen) (hg0:base≤w.heap.size)
 (h:∀A c w',w'.ownsRow base e z (.slice A (n+m) c) (n+m) (xs++news)→w.grownBy w' v.ownBlock→wpList prog ops Q rest (a.put d (.slice A (n+m) c)) w') :
 wpList prog ops Q (⟨d,.call { callee:=.builtin .append,args:=#[s,x],argTypes:=#[t,t] },tt,p,af,none⟩::rest) a w:=by
 obtain⟨i0,h0,h1,h2,h3⟩:=info_parts hi;exact xg rfl s x t t rfl base e i0 zv z iG ht h0 h1 h2 h3 hzs v n xs hv hown u m news hx hs hb h63 hg0 (fun A c w' k1 k2 k3=>h A c w' k1 k2)
theorem Jc{ops:Array Oper}{o:Oper}{a:Act}{K:Act→World→Prop}{Q:Exit→Act→World→Prop}{E:Prop}{w:World}(base:Nat)(hgd:o.guard=none)(s x:Operand)(t e:TypeId)(ho:o.op=.call { callee:=.builtin .append,args:=#[s,x],argTypes:=#[t,t] })(z iG:Nat)(zv:Value)(ht:prog.underlying t=some (.slice e))(hi:(prog.info? e).map (fun i=>(i.zero,i.size,i.bytes))=some (some zv,z,iG))(hzs:zv.cells.size=z)
 {v:Value} {n:Nat} {xs:List Value} (hv:a.eval s=v) (hown:w.ownsRow base e z v n xs) {u:Value} {m:Nat} {news:List Value} (hx:a.eval x=u) (hs:Src prog z t u m news w) (hb:(n+m)*iG≤140737488355328) (h63:n+m≤maxLen) (hg0:base≤w.heap.size)
 (h:∀A c w',w'.ownsRow base e z (.slice A (n+m) c) (n+m) (xs++news)→w.grownBy w' v.ownBlock→K (a.put o.dst (.slice A (n+m) c)) w') :
 if Region.wanted o (yielded ops a.tmps)=true then Oper.wp prog o a w K Q else E:=by
 obtain⟨i0,h0,h1,h2,h3⟩:=info_parts hi;exact jg hgd s x t t ho base e i0 zv z iG ht h0 h1 h2 h3 hzs v n xs hv hown u m news hx hs hb h63 hg0 (fun A c w' k1 k2 _=>h A c w' k1 k2)
theorem aaj{ops:Array Oper}{o:Oper}{a:Act}{K:Act→World→Prop}{Q:Exit→Act→World→Prop}{E:Prop}{w:World}(base:Nat)(hgd:o.guard=none)(s x:Operand)(t e:TypeId)(ho:o.op=.call { callee:=.builtin .append,args:=#[s,x],argTypes:=#[t,t] })(z iG:Nat)(zv:Value)(ht:prog.underlying t=some (.slice e))(hi:(prog.info? e).map (fun i=>(i.zero,i.size,i.bytes))=some (some zv,z,iG))(hzs:zv.cells.size=z)
 (hv:a.eval s=.slice none 0 0) {u:Value} {m:Nat} {news:List Value} (hx:a.eval x=u) (hs:Src prog z t u m news w) (hb:m*iG≤140737488355328) (h63:m≤maxLen) (hg0:base≤w.heap.size)
 (h:∀A c w',w'.ownsRow base e z (.slice A m c) m news→w.grownBy w' (Value.slice none 0 0).ownBlock→K (a.put o.dst (.slice A m c)) w') :
 if Region.wanted o (yielded ops a.tmps)=true then Oper.wp prog o a w K Q else E:=
 Jc base hgd s x t e ho z iG zv ht hi hzs hv (iY _ _ _ _) hx hs (by rw[dY];exact hb) (by omega) hg0 (fun A c w' k1 k2=>by
  rw[dY,pE] at k1;rw[dY];exact h A c w' k1 k2)
def aak(N:Nat)(w:World)(e:Ending)(w':World):Prop:=∃st A c x n B m k u,e=.returned (.tuple #[.agg #[.slice A st.length c],.agg (cO x n B m k u)])∧dW w' A c st∧dX (N+1) st∧Grow w w'
theorem aal:(prog.info? 33).map (·.size)=some 26:=by kernel_rfl
theorem aam{F:Func}{W:World}{ob rb:Nat}{tmps:Array Value}{u:Value}{e n k:Int}{B:Option Addr}{m d:Nat}(hF:F.results=#[ResultVar.cell 4 44,ResultVar.cell 5 31])(h4:tmps.getD 4 undef=.pointer (some ⟨ob,0,none⟩))(h5:tmps.getD 5 undef=.pointer (some ⟨rb,0,none⟩))(ho:Blk W ob 44 #[u])(hr:Blk W rb 31 (cO e n B m d k)) :
 (results F tmps).run prog W=.ok (.tuple #[.agg #[u],.agg (cO e n B m d k)]) W:=by
 have ru:∀i,W.cell? ⟨ob,i,none⟩=(#[u]:Array Value)[i]?:=ho.cell;have hrc:∀i,W.cell? ⟨rb,i,none⟩=(#[.int .i64 e,.int .i64 n,.slice B m d,.int .i64 k]:Array Value)[i]?:=hr.cell;have h4':tmps[4]?.getD undef=.pointer (some ⟨ob,0,none⟩):=by simpa using h4
 have qE:tmps[5]?.getD undef=.pointer (some ⟨rb,0,none⟩):=by simpa using h5
 simp[results,hF,go_sem,h4',qE,ru,hrc]
theorem nP{N:Nat}{w W:World}{g4 g5:Nat}{A B:Option Addr}{l c m d:Nat}{e n:Int}{st:List Co}{a:Act}(hg:Grow w W)(h4:w.heap.size≤g4)(h5:w.heap.size≤g5)(hne:g4≠g5)(H4:Blk W g4 44 #[.slice none 0 0])(H5:Blk W g5 31 (cO 0 0 none 0 0 0))(hs:dW W A c st)(ho:dX (N+1) st)(hl:l=st.length)
 (hd:a.defers=[]) (t4:a.tmps.getD 4 undef=.pointer (some ⟨g4,0,none⟩)) (t5:a.tmps.getD 5 undef=.pointer (some ⟨g5,0,none⟩)) :
 bodyPost prog f35 (aak N w) .ret a (((((W.setCell ⟨g4,0,none⟩ (.slice A l c)).setCell ⟨g5,0,none⟩ (.int .i64 e)).setCell ⟨g5,1,none⟩ (.int .i64 n)).setCell ⟨g5,2,none⟩ (.slice B m d)).setCell ⟨g5,3,none⟩ (.int .i64 0)):=by
 obtain⟨r1,r2,r3,r4,-⟩:=IX (A':=A) (l':=l) (c':=c) (e':=e) (n':=n) (B':=B) (m':=m) (d':=d) (k':=0) hg h4 h5 hne H4 H5;subst hl;exact iE (aam rfl t4 t5 r2 r3) hd ⟨st,A,c,_,_,_,_,_,_,rfl,r4 hs,ho,r1⟩
theorem aih(e:Int)(A:Option Addr)(l c:Nat)(w:World) :
 Calls prog 68 #[.agg #[.slice A l c],.int .i64 e] w fun e' w'=>e'=.returned (.tuple #[.agg #[.slice A l c],.agg #[.int .i64 e,.int .i64 0,.slice none 0 0,.int .i64 0]])∧Grow w w':=by
 have HG:=aa ((((ah w).alloc (.cells #[.slice A l c] 44)).alloc (.cells #[.slice none 0 0] 44)).alloc (.cells (cO 0 0 none 0 0 0) 31));have aG:=aa (((aD w 44 #[.slice A l c]).alloc (.cells #[.slice none 0 0] 44)).alloc (.cells (cO 0 0 none 0 0 0) 31));have av:=aa ((cX (w:=w.alloc (.cells #[.slice A l c] 44)) (g:=w.heap.size+1) (by simp) 44 #[.slice none 0 0]).alloc (.cells (cO 0 0 none 0 0 0) 31));have ar:=aa (cX (w:=(w.alloc (.cells #[.slice A l c] 44)).alloc (.cells #[.slice none 0 0] 44)) (g:=w.heap.size+1+1) (by simp) 31 (cO 0 0 none 0 0 0));go_enter func68,ntmps68;go_upto_region 1 with fail;generalize ((w.alloc (.cells #[.slice A l c] 44)).alloc (.cells #[.slice none 0 0] 44)).alloc (.cells (cO 0 0 none 0 0 0) 31)=w3 at HG aG av ar ⊢;have hb2:=aG.o.cell;have hb4:=av.o.cell
 have cr:∀i,w3.cell? ⟨w.heap.size+1+1,i,none⟩=(#[.int .i64 0,.int .i64 0,.slice none 0 0,.int .i64 0]:Array Value)[i]?:=ar.o.cell;have iz:=av.o.frozen;have iU:=ar.o.frozen;have hn:w.heap.size+1≠w.heap.size+1+1:=by omega
 go_wp2_with fail;refine iE (aam (ob:=w.heap.size+1) (rb:=w.heap.size+1+1) (u:=.slice A l c) (e:=e) (n:=0) (k:=0) (B:=none) (m:=0) (d:=0) rfl rfl rfl ?_ ?_) rfl ?_
 ·exact((((av.o.bf 0 _).far (p:=⟨w.heap.size+1+1,0,none⟩) hn _).far (p:=⟨w.heap.size+1+1,1,none⟩) hn _).far (p:=⟨w.heap.size+1+1,2,none⟩) hn _).far (p:=⟨w.heap.size+1+1,3,none⟩) hn _
 ·exact((((ar.o.far (p:=⟨w.heap.size+1,0,none⟩) (fun e=>hn e.symm) _).bf 0 _).bf 1 _).bf 2 _).bf 3 _
 refine⟨rfl,?_⟩;exact((((HG.o.setCell (p:=⟨w.heap.size+1,0,none⟩) (fD _) _).setCell (p:=⟨w.heap.size+1+1,0,none⟩) (by dsimp only;omega) _).setCell (p:=⟨w.heap.size+1+1,1,none⟩) (by dsimp only;omega) _).setCell (p:=⟨w.heap.size+1+1,2,none⟩) (by dsimp only;omega) _).setCell (p:=⟨w.heap.size+1+1,3,none⟩) (by dsimp only;omega) _
theorem aii(N cap:Nat)(A:Option Addr)(st:List Co)(d:Int)(co ix pa:ByteArray)(un:Bool)(kv lv hv dv:V)(n:Int)(ck cl ch cx:Cv)(w:World)(hst:dW w A cap st)(hok:dX N st)(hN:N≤1000000)(hR:uU ⟨d,co,ix,pa,un,kv,lv,hv,dv,n⟩)(hB:BS ⟨d,co,ix,pa,un,kv,lv,hv,dv,n⟩)(hk:In w kv ck)(hl:In w lv cl)(hh:In w hv ch)(hx:In w dv cx) :
 Calls prog 35 #[.agg #[.slice A st.length cap],.agg (dm d co ix pa un ck cl ch cx n)] w (aak N w):=by
 have HST:=aa hst;have cP:=aa hok;have HN:=aa hN;have HR:=aa hR;have HB:=aa hB;have HK:=aa hk;have HL:=aa hl;have HH:=aa hh;have HX:=aa hx;have hn:=hok.n;have aan:=aa (fun(W:World) (hg:Grow w W)=>afZ N cap A st ⟨d,co,ix,pa,un,kv,lv,hv,dv,n⟩ ck cl ch cx W (hst.grow hg) hok hR hB (hk.grow hg) (hl.grow hg) (hh.grow hg) (hx.grow hg));have HC:=aa (fun(W:World) (hg:Grow w W)=>Lq st co A cap W (hst.grow hg) hok.nz (by omega));have Cj:=aa (fun(e:Int) (W:World)=>aih e A st.length cap W);have HG:=aa (((((ah w).alloc (.cells #[.slice A st.length cap] 44)).alloc (.cells (dm d co ix pa un ck cl ch cx n) 33)).alloc (.cells #[.slice none 0 0] 44)).alloc (.cells (cO 0 0 none 0 0 0) 31))
 have az:=aa ((((aD w 44 #[.slice A st.length cap]).alloc (.cells (dm d co ix pa un ck cl ch cx n) 33)).alloc (.cells #[.slice none 0 0] 44)).alloc (.cells (cO 0 0 none 0 0 0) 31));have au:=aa (((cX (w:=w.alloc (.cells #[.slice A st.length cap] 44)) (g:=w.heap.size+1) (by simp) 33 (dm d co ix pa un ck cl ch cx n)).alloc (.cells #[.slice none 0 0] 44)).alloc (.cells (cO 0 0 none 0 0 0) 31));have av:=aa ((cX (w:=(w.alloc (.cells #[.slice A st.length cap] 44)).alloc (.cells (dm d co ix pa un ck cl ch cx n) 33)) (g:=w.heap.size+1+1) (by simp) 44 #[.slice none 0 0]).alloc (.cells (cO 0 0 none 0 0 0) 31))
 have ar:=aa (cX (w:=((w.alloc (.cells #[.slice A st.length cap] 44)).alloc (.cells (dm d co ix pa un ck cl ch cx n) 33)).alloc (.cells #[.slice none 0 0] 44)) (g:=w.heap.size+1+1+1) (by simp) 31 (cO 0 0 none 0 0 0));clear hst hok hN hR hB hk hl hh hx;go_enter func35,ntmps35;go_upto_region 1 with fail;generalize (((w.alloc (.cells #[.slice A st.length cap] 44)).alloc (.cells (dm d co ix pa un ck cl ch cx n) 33)).alloc (.cells #[.slice none 0 0] 44)).alloc (.cells (cO 0 0 none 0 0 0) 31)=w3 at HG az au av ar ⊢;obtain⟨g4,hg4⟩:∃g,w.heap.size+1+1=g:=⟨_,rfl⟩;obtain⟨g5,bP⟩:∃g,w.heap.size+1+1+1=g:=⟨_,rfl⟩;have H4:=aa (show w.heap.size≤g4 by omega);have H5:=aa (show w.heap.size≤g5 by omega);have cM:=aa (show g4≠g5 by omega)
 have kA:=aa (show w.heap.size≠g4∧w.heap.size≠g5 by omega);have HNQ:=aa (show w.heap.size+1≠g4∧w.heap.size+1≠g5 by omega);simp only[bP] at ar ⊢;simp only[hg4] at av ⊢;clear hg4 bP;go_wp2_with (first | ((with_reducible refine aah 44 ?_);refine aai (g:=w.heap.size) (n:=1) (cells:=#[.slice A st.length cap]) underlying44 rfl rfl az.o Yj rfl ?_) | ((with_reducible refine aah 33 ?_);refine aai (g:=w.heap.size+1) (n:=26) (cells:=(dm d co ix pa un ck cl ch cx n)) underlying33 rfl rfl au.o aal rfl ?_));refine(aan.o _ HG.o).mono ?_;rintro e w4 ⟨x,rfl,hx0,hg⟩;replace HG:=aa (HG.o.trans hg);replace az:=aa (az.o.grow hg);replace au:=aa (au.o.grow hg);replace av:=aa (av.o.grow hg);replace ar:=aa (ar.o.grow hg);clear hg;by_cases hxz:x=0
 ·subst hxz;have yj:=aa (hx0 rfl);clear hx0 aan;by_cases hd1:d=1
  ·subst hd1;have Ck:=aa (yj.o.make rfl);have hmk:=Ck.o.2.1;dsimp only at hmk;rw[BV hmk] at HC;have hbs:=az.o.cell;have q1:_=some (Value.string co):=au.o.cell 1;clear hmk;go_wp2_with fail;clear hbs q1;refine(HC.o _ HG.o).mono ?_;rintro e w5 ⟨rfl,hg⟩;replace HG:=aa (HG.o.trans hg);replace az:=aa (az.o.grow hg);replace au:=aa (au.o.grow hg);replace av:=aa (av.o.grow hg);replace ar:=aa (ar.o.grow hg);clear hg HC;have hbs:=az.o.cell;have q0:_=some (Value.int .i64 1):=au.o.cell 0;go_upto_region 8 with fail;clear hbs q0;have IQ:=aa (show bV (bh st) co=eV (gG (bh st)) co.data.toList from (G3 _ _).trans (G0 cP.o.nz))
   go_loopg [8,9] (st.length+1) (fun gk n i wr=>∃j:Nat,j≤st.length∧gk+j=st.length+1∧i=.int .i64 j∧n=.int .i64 (eV ((gG (bh st)).take j) co.data.toList:Nat)∧Grow w5 wr);exact⟨0,ba _,rfl,rfl,by simp[eV],ah _⟩;obtain⟨j,hj,kW,rfl,rfl,hgr⟩:=hrel;obtain⟨gk',rfl⟩:=bS gk (by omega);have aH:=aa hgr;obtain⟨M,hM⟩:∃M,eV ((gG (bh st)).take j) co.data.toList=M:=⟨_,rfl⟩;rw[hM];have IV:=aa hM;have LZ:=cP.o.n;replace HG:=aa (HG.o.trans hgr);replace az:=aa (az.o.grow hgr);replace au:=aa (au.o.grow hgr);replace av:=aa (av.o.grow hgr);replace ar:=aa (ar.o.grow hgr);clear hM hgr;have hbs:=az.o.cell;have q1:_=some (Value.string co):=au.o.cell 1;by_cases hlt:j<st.length
   ·obtain⟨bk,o,e,rfl,hbk,aR,hcell⟩:=(HST.o.grow HG.o).sx j hlt;have c0:=hcell 0 _ rfl (by omega);simp only[gf] at c0;have uR:=aa (Q5 cP.o.nz co.data.toList (j:=j) (by rw[dZ,dZ];exact hlt));have h1:=aR.nm;obtain⟨nm,dA,dn,dc,xA,xn,xc⟩:=e;dsimp only at h1;have HNJ:=aa h1.symm;have Ic:(j:Int)<(st.length:Int):=by omega
    have G9:(0:Int)≤(j:Int):=by omega
    clear hcell aR h1;by_cases hls:cQ nm.toList co.toList=true
    ·have hl2:Op.bytesLess nm.toList co.toList=true:=by rw[x_];exact hls
     have fV:=aa hls;clear hls;go_upto_region 10 with fail;go_quiet (fail);go_wp2_with fail;go_roundg gk';refine⟨j+1,by omega,by omega,by go_num,?_,aH.o.trans ((ah _).drewN _)⟩;rw[uR.o];simp only[iZ,HNJ.o];rw[aw (by have:=fV.o;rwa [toList_data,toList_data] at this)];go_num;omega
    have hl2:Op.bytesLess nm.toList co.toList=false:=by rw[x_];simpa using hls
    have fV:=aa hls;clear hls;go_upto_region 10 with fail;go_quiet (fail);go_wp2_with fail;go_roundg gk';refine⟨j+1,by omega,by omega,by go_num,?_,aH.o.trans ((ah _).drewN _)⟩;rw[uR.o];simp only[iZ,HNJ.o];rw[ai (by have:=fV.o;rwa [toList_data,toList_data] at this),IV.o];omega
   have hjl:j=st.length:=by omega
   subst hjl;have Sk:M=bV (bh st) co:=by
    rw[IQ.o,← IV.o,jD (by rw[dZ,dZ];exact ay _)]
   have nJ:=aa (show dX (N+1) (cZ st M ⟨co,[],[]⟩) from Bk (q:=⟨1,co,ix,pa,un,kv,lv,hv,dv,n⟩) (n:=0) (ag:=[]) cP.o HR.o.fit HR.o.doc (by
    show nZ st ⟨1,co,ix,pa,un,kv,lv,hv,dv,n⟩=_;unfold nZ;dsimp only;rw[ai (by rw[Ck.o.1];decide),ai (by rw[Ck.o.2.1];decide),ai Ck.o.2.2,Sk]))
   have hpl:=PJ (bh st) co;rw[dZ,← Sk] at hpl;obtain⟨hcap,es,Cl,Jd⟩:=HST.o;have Sl:=aa Cl;have Cg:=aa Jd;have hel:es.length=st.length:=Cl.1;have oN:=aa hel;have hi0:(0:Int)≤(M:Int):=by omega
   have hi1:(M:Int)≤(st.length:Int):=by omega
   have hi2:(M:Int)≤(cap:Int):=by omega
   clear Cl Jd Sk q1 IQ;go_upto_region 13 with fail;have bI:=aa (aD wr 44 #[.slice none 0 0]);have dh:=aa ((ah wr).alloc (.cells #[.slice none 0 0] 44));have hl4:=av.o.lt;have rE:=ar.o.lt;obtain⟨gx,hgx⟩:∃g,wr.heap.size=g:=⟨_,rfl⟩;have bJ:=aa hgx;have r_:=aa (show gx≠g4∧gx≠g5 by omega);rw[hgx] at bI ⊢;clear hgx hl4 rE;generalize wr.alloc (.cells #[.slice none 0 0] 44)=w7 at bI dh ⊢;refine dN ?_;refine dO (S:=fun w'=>Grow wr w') (by kernel_rfl) (dh.o.trans (ah _).drew) (fun hHeld=>?_);have aC:=aa (show Grow w7 w7.drew from (ah _).drew);generalize w7.drew=W0 at aC hHeld ⊢;refine aJ 0 ?_
   try simp only[ak]
   refine aJ 2 ?_
   try simp only[ak]
   refine aj 3 (hy:=bt fun w ax=>by have b:=(az.o.grow ax).cell;clear ax;go_simp;try rfl) ?_;refine aJ 4 ?_
   try simp only[ak]
   refine mr (i:=5) (v:=.slice A M cap) (by simp only[pJ,pK,pL];rfl) (by kernel_rfl) (by kernel_rfl) (by kernel_rfl) (fun _ _ _ h=>h) (Or.inl ⟨by rfl,fun w _=>ZB (n:=st.length) (by rfl) (by rfl) (by omega) (by omega)⟩) (by assumption) ?_
   try simp only[ak]
   refine aK 1 (fun K hK=>?_);have gM:∀i,W0.cell? ⟨gx,i,none⟩=(#[.slice none 0 0]:Array Value)[i]?:=(bI.o.grow aC.o).cell;go_simp;clear gM;refine aU hK (dh.o.trans aC.o) (fun hHeld=>?_);clear hK K;refine aK 6 (fun K hK=>?_);refine aaj (gx+1) (by rfl) (.tmp 67) (.tmp 71) 42 48 (by rfl) 3 64 _ wO ED rfl (by rfl) (by first | rfl | (rw[add_lit];rfl)) (Zw (eX (fk (HG.o.trans (dh.o.trans aC.o)).below (ay _) (ay _) (HG.o.trans (dh.o.trans aC.o)).size) Cg.o) M cap (by omega)) (by omega) (by simp only[maxLen];omega) (by have:=bI.o.lt;have:=aC.o.size;omega) ?_;intro A8 c8 w8 cN cS;have gH:=aa ((bI.o.grow aC.o).own cS (fun k hk=>by have:=(bO (iY W0 (gx+1) 48 3) k hk).1;omega))
   have ij:=aa ((dh.o.trans aC.o).grown cS (fun k hk=>by have:=(bO (iY W0 (gx+1) 48 3) k hk).1;have:=bJ.o;omega));have jo:=aa cN;clear cN cS;refine hK.out _ _ ij.o (fun hHeld=>?_);clear hK K
   try simp only[ak]
   refine aJ 7 ?_
   try simp only[ak]
   refine aK 8 (fun K hK=>?_);have gM:∀i,w8.cell? ⟨gx,i,none⟩=(#[.slice none 0 0]:Array Value)[i]?:=gH.o.cell;have jN:=gH.o.frozen;go_simp;clear gM jN;refine aU hK (ij.o.setCell (p:=⟨gx,0,none⟩) (by dsimp only;have:=bJ.o;omega) _) (fun hHeld=>?_);clear hK K;refine cz ?_;clear hHeld;have ma:=aa (show Blk (w8.setCell ⟨gx,0,none⟩ (.slice A8 (M) c8)) gx 44 #[.slice A8 (M) c8] from gH.o.bf 0 (.slice A8 (M) c8));have mf:=aa (gF jo.o ((dU (S:=fun x=>x=gx) w8).set (p:=⟨gx,0,none⟩) rfl (.slice A8 (M) c8)) (fun g hg e=>by
    have:=(bO jo.o g (by rw[bH];exact hg)).1;omega))
   have mg:=aa (ij.o.setCell (p:=⟨gx,0,none⟩) (by dsimp only;have:=bJ.o;omega) (.slice A8 (M) c8));clear gH jo ij
   try clear bI
   try clear HOW
   try clear dh
   try clear aC
   generalize w8.setCell ⟨gx,0,none⟩ (.slice A8 (M) c8)=w9 at ma mf mg ⊢;have bI:=ma;have HOW:=mf;have dh:=mg;clear ma mf mg;have fP:=bI.o.cell;have q1:_=some (Value.string co):=(au.o.grow dh.o).cell 1;go_upto_region 15 with (at_builtin;refine aif (gx+1) (.tmp 75) (.tmp 79) 42 48 3 64 _ wO ED rfl rfl (HOW.o.alloc _) rfl (agG ⟨co,none,0,0,none,0,0⟩ (aD w9 48 (Cc.cells ⟨co,none,0,0,none,0,0⟩))) (by omega) (by simp only[maxLen];omega) (bn bI.o.lt ((ah w9).alloc _).size) ?_;intro A9 c9 wp kT l7;have gH:=aa (((bI.o.alloc _).own l7 (fun k hk=>by have:=(bO HOW.o k hk).1;omega)));have fP:=gH.o.cell;have hfx:=gH.o.frozen);have jo:=aa kT
   have ij:=aa ((dh.o.alloc _).grown l7 (fun k hk=>by have:=(bO HOW.o k hk).1;have:=bJ.o;omega));clear kT l7 q1 fP hfx;have ma:=aa (show Blk (wp.setCell ⟨gx,0,none⟩ (.slice A9 (M+1) c9)) gx 44 #[.slice A9 (M+1) c9] from gH.o.bf 0 (.slice A9 (M+1) c9));have mf:=aa (gF jo.o ((dU (S:=fun x=>x=gx) wp).set (p:=⟨gx,0,none⟩) rfl (.slice A9 (M+1) c9)) (fun g hg e=>by
    have:=(bO jo.o g (by rw[bH];exact hg)).1;omega))
   have mg:=aa (ij.o.setCell (p:=⟨gx,0,none⟩) (by dsimp only;have:=bJ.o;omega) (.slice A9 (M+1) c9));clear gH jo ij
   try clear bI
   try clear HOW
   try clear dh
   try clear aC
   generalize wp.setCell ⟨gx,0,none⟩ (.slice A9 (M+1) c9)=nI at ma mf mg ⊢;have bI:=ma;have HOW:=mf;have dh:=mg;clear ma mf mg;obtain⟨AZ,Je⟩:∃AZ,(if cap=M then A else Option.map (fun x:Addr=>x.add (M*3)) A)=AZ:=⟨_,rfl⟩;have Jf:=aa Je;clear Je;refine dN ?_;refine dO (S:=fun w'=>Grow wr w') (by kernel_rfl) (dh.o.trans (ah _).drew) (fun hHeld=>?_);have aC:=aa (show Grow nI nI.drew from (ah _).drew);generalize nI.drew=W0 at aC hHeld ⊢;refine aJ 0 ?_
   try simp only[ak]
   refine aJ 2 ?_
   try simp only[ak]
   refine aj 3 (hy:=bt fun w ax=>by have b:=(az.o.grow ax).cell;clear ax;go_simp;try rfl) ?_;refine aJ 4 ?_
   try simp only[ak]
   refine mr (i:=5) (v:=.slice AZ (st.length-M) (cap-M)) (by simp only[pJ,pK,pL];rfl) (by kernel_rfl) (by kernel_rfl) (by kernel_rfl) (fun _ _ _ h=>h) (Or.inl ⟨by rfl,fun w _=>(ZA (A:=A) (n:=st.length) (cap:=cap) (i:=M) (by rfl) (by rfl) (by omega) (by omega)).trans (by rw[Jf.o])⟩) (by assumption) ?_
   try simp only[ak]
   refine aK 1 (fun K hK=>?_);have gM:∀i,W0.cell? ⟨gx,i,none⟩=(#[.slice A9 (M+1) c9]:Array Value)[i]?:=(bI.o.grow aC.o).cell;go_simp;clear gM;refine aU hK (dh.o.trans aC.o) (fun hHeld=>?_);clear hK K;refine aK 6 (fun K hK=>?_);refine Jc (gx+1) (by rfl) (.tmp 83) (.tmp 87) 42 48 (by rfl) 3 64 _ wO ED rfl (by rfl) (ki HOW.o aC.o) (by first | rfl | (rw[add_lit];rfl)) ((by have h:=Zx (eX (fk (HG.o.trans (dh.o.trans aC.o)).below (ay _) (ay _) (HG.o.trans (dh.o.trans aC.o)).size) Cg.o) M (cap-M) cap (by omega) (by omega);rw[Jf.o] at h;exact h)) (by omega) (by simp only[maxLen];omega) (by have:=bI.o.lt;have:=aC.o.size;omega) ?_;intro ky c10 wq cN cS
   have gH:=aa ((bI.o.grow aC.o).own cS (fun k hk=>by have:=(bO HOW.o k hk).1;omega));have ij:=aa ((dh.o.trans aC.o).grown cS (fun k hk=>by have:=(bO HOW.o k hk).1;have:=bJ.o;omega));have jo:=aa cN;clear cN cS;refine hK.out _ _ ij.o (fun hHeld=>?_);clear hK K
   try simp only[ak]
   refine aJ 7 ?_
   try simp only[ak]
   refine aK 8 (fun K hK=>?_);have gM:∀i,wq.cell? ⟨gx,i,none⟩=(#[.slice A9 (M+1) c9]:Array Value)[i]?:=gH.o.cell;have jN:=gH.o.frozen;go_simp;clear gM jN;refine aU hK (ij.o.setCell (p:=⟨gx,0,none⟩) (by dsimp only;have:=bJ.o;omega) _) (fun hHeld=>?_);clear hK K;refine cz ?_;clear hHeld;have ma:=aa (show Blk (wq.setCell ⟨gx,0,none⟩ (.slice ky ((M+1)+(st.length-M)) c10)) gx 44 #[.slice ky ((M+1)+(st.length-M)) c10] from gH.o.bf 0 (.slice ky ((M+1)+(st.length-M)) c10));have mf:=aa (gF jo.o ((dU (S:=fun x=>x=gx) wq).set (p:=⟨gx,0,none⟩) rfl (.slice ky ((M+1)+(st.length-M)) c10)) (fun g hg e=>by
    have:=(bO jo.o g (by rw[bH];exact hg)).1;omega))
   have mg:=aa (ij.o.setCell (p:=⟨gx,0,none⟩) (by dsimp only;have:=bJ.o;omega) (.slice ky ((M+1)+(st.length-M)) c10));clear gH jo ij
   try clear bI
   try clear HOW
   try clear dh
   try clear aC
   generalize wq.setCell ⟨gx,0,none⟩ (.slice ky ((M+1)+(st.length-M)) c10)=yg at ma mf mg ⊢;have bI:=ma;have HOW:=mf;have dh:=mg;clear ma mf mg;have hlen:(M+1)+(st.length-M)=(cZ st M ⟨co,[],[]⟩).length:=by
    rw[cZ,bG,aT,dS,iM];omega
   have zY:=aa (Zy (es:=(es.take M++(⟨co,none,0,0,none,0,0⟩:Cc)::es.drop M)) (st:=(cZ st M ⟨co,[],[]⟩)) HOW.o (by rw[Zz];simp[dK]) hlen ((Sl.o.grow (HG.o.trans dh.o)).ins M (agI co)));replace HG:=aa (HG.o.trans dh.o);replace av:=aa (av.o.grow dh.o);replace ar:=aa (ar.o.grow dh.o);rw[hlen] at bI;clear HOW dh hlen;have fP:=bI.o.cell;have hb4:=av.o.cell;have iz:=av.o.frozen;have cr:∀i,yg.cell? ⟨g5,i,none⟩=(#[.int .i64 0,.int .i64 0,.slice none 0 0,.int .i64 0]:Array Value)[i]?:=ar.o.cell;have iU:=ar.o.frozen;have yl:=cM.o;have nT:=fun e=>cM.o (lK e)
   go_wp2_with fail;exact nP HG.o H4.o H5.o cM.o av.o ar.o zY.o nJ.o (rfl) rfl rfl rfl
  have hF:=yj.o.co hd1;dsimp only at hF;have bQ:=aa hd1;clear hd1;obtain⟨P,hlt,hget,hP⟩:∃P,∃h:P<st.length,st[P]=bD st co∧bV (bh st) co=P:=⟨_,(Ex hF).1,(Ex hF).2,rfl⟩;obtain⟨c,hc⟩:∃c,bD st co=c:=⟨_,rfl⟩;have hmem:=(lU hF).2.1;rw[hc] at hmem hget;have HF:=aa hF;have wI:=aa hP;have lZ:=aa hlt;have dI:=aa (cP.o.co c hmem);have iJ:=aa hc;rw[yc hF,hP] at HC;have hbs:=az.o.cell;have q1:_=some (Value.string co):=au.o.cell 1;clear hF hP hc hmem;go_wp2_with fail;clear hbs q1;refine(HC.o _ HG.o).mono ?_;rintro e w5 ⟨rfl,hg⟩;replace HG:=aa (HG.o.trans hg);replace az:=aa (az.o.grow hg);replace au:=aa (au.o.grow hg);replace av:=aa (av.o.grow hg);replace ar:=aa (ar.o.grow hg);clear hg
  obtain⟨bk,o,e,rfl,hbk,aR,hcell⟩:=(HST.o.grow HG.o).sx P hlt;rw[hget] at aR;have sK:=aa aR;obtain⟨nm,dA,dn,dc,xA,xn,xc⟩:=e;obtain⟨h1,h2,h3,h4,h5,h6⟩:=aR;dsimp only at h1 h2 h3 h4 h5 h6;subst h1 h2 h3;have c0:=hcell 0 _ rfl (by omega);have c1:=hcell 1 _ rfl (by omega);have c2:=hcell 2 _ rfl (by omega);simp only[gf] at c0;have eY:=aa (show kK w5 xA c.aq from h6);have dD:=aa (show InL w5 dA dc c.ag from h5);have ML:=aa h4;have amq:=eY;have aij:=dD;have hbs:=az.o.cell;have q0:_=some (Value.int .i64 d):=au.o.cell 0;have hd1:(d==1)=false:=by simpa using bQ.o
  have hp0:(0:Int)≤(P:Int):=by omega
  have hp1:(P:Int)<(st.length:Int):=by omega
  clear hcell h4 h5 h6 hget;go_upto_region 18 with fail;clear c0 c1 c2 hbs hd1 q0;have hl4:=av.o.lt;have rE:=ar.o.lt;have aao:=aa az.o.lt;replace HG:=aa (HG.o.trans ((ah w5).alloc (.cells #[.string c.name,.slice dA c.ag.length dc,.slice xA c.aq.length xc] 48)));replace az:=aa (az.o.grow ((ah w5).alloc (.cells #[.string c.name,.slice dA c.ag.length dc,.slice xA c.aq.length xc] 48)));replace au:=aa (au.o.grow ((ah w5).alloc (.cells #[.string c.name,.slice dA c.ag.length dc,.slice xA c.aq.length xc] 48)));replace av:=aa (av.o.grow ((ah w5).alloc (.cells #[.string c.name,.slice dA c.ag.length dc,.slice xA c.aq.length xc] 48)));replace ar:=aa (ar.o.grow ((ah w5).alloc (.cells #[.string c.name,.slice dA c.ag.length dc,.slice xA c.aq.length xc] 48)))
  have aap:=aa ((ah w5).alloc (.cells #[.string c.name,.slice dA c.ag.length dc,.slice xA c.aq.length xc] 48));have aS:=aa (aD w5 48 #[.string c.name,.slice dA c.ag.length dc,.slice xA c.aq.length xc]);replace eY:=aa (eY.o.grow ((ah w5).alloc (.cells #[.string c.name,.slice dA c.ag.length dc,.slice xA c.aq.length xc] 48)));replace dD:=aa (dD.o.grow ((ah w5).alloc (.cells #[.string c.name,.slice dA c.ag.length dc,.slice xA c.aq.length xc] 48)));obtain⟨gc,dQ⟩:∃g,w5.heap.size=g:=⟨_,rfl⟩;have dh:=aa dQ;have uZ:=aa (show gc≠g4∧gc≠g5 by omega);rw[dQ] at aS ⊢;generalize w5.alloc (.cells #[.string c.name,.slice dA c.ag.length dc,.slice xA c.aq.length xc] 48)=w6 at HG az au av ar aS eY dD aap ⊢;clear dQ hl4 rE
  have hcs:d=2∨(d=3∨d=4)∨d=5∨d=6∨d=7∨d=8∨d=9∨d=10:=by
   have:=yj.o.bj;have h1:=bQ.o;dsimp only at this;omega
  obtain rfl | yf | rfl | rfl | rfl | rfl | rfl | rfl:=hcs
  ·have nJ:=aa (show dX (N+1) (gD st P) from Bk (q:=⟨2,co,ix,pa,un,kv,lv,hv,dv,n⟩) (n:=0) (ag:=[]) cP.o HR.o.fit HR.o.doc (by
    show GM st ⟨2,co,ix,pa,un,kv,lv,hv,dv,n⟩=_;unfold GM;dsimp only;rw[ai (by rw[HF.o];decide),wI.o]))
   obtain⟨hcap,es,Cl,Jd⟩:=HST.o;have Sl:=aa Cl;have Cg:=aa Jd;have hel:es.length=st.length:=Cl.1;have hlt:=lZ.o;have LZ:=cP.o.n;obtain⟨q,hq⟩:∃q,P+1=q:=⟨_,rfl⟩;have EB:((P:Int)+1)=(q:Int):=by omega
   have EC:IntKind.i64.wrap (q:Int)=(q:Int):=by rw[lJ];omega
   have hi0:(0:Int)≤(P:Int):=by omega
   have hi1:(P:Int)≤(st.length:Int):=by omega
   have hi2:(P:Int)≤(cap:Int):=by omega
   have hq0:(0:Int)≤(q:Int):=by omega
   have hq1:(q:Int)≤(st.length:Int):=by omega
   have hq2:(q:Int)≤(cap:Int):=by omega
   have HQ:=aa hq;have oN:=aa hel;clear Cl Jd hel;have q0:_=some (Value.int .i64 2):=au.o.cell 0;go_upto_region 21 with fail;clear q0;have bI:=aa (aD w6 44 #[.slice none 0 0]);have dh:=aa ((ah w6).alloc (.cells #[.slice none 0 0] 44));have hl4:=av.o.lt;have rE:=ar.o.lt;obtain⟨gx,hgx⟩:∃g,w6.heap.size=g:=⟨_,rfl⟩;have bJ:=aa hgx;have r_:=aa (show gx≠g4∧gx≠g5 by omega);rw[hgx] at bI ⊢;clear hgx hl4 rE;generalize w6.alloc (.cells #[.slice none 0 0] 44)=w7 at bI dh ⊢;refine dN ?_;refine dO (S:=fun w'=>Grow w6 w') (by kernel_rfl) (dh.o.trans (ah _).drew) (fun hHeld=>?_);have aC:=aa (show Grow w7 w7.drew from (ah _).drew);generalize w7.drew=W0 at aC hHeld ⊢;refine aJ 0 ?_
   try simp only[ak]
   refine aJ 2 ?_
   try simp only[ak]
   refine aj 3 (hy:=bt fun w ax=>by have b:=(az.o.grow ax).cell;clear ax;go_simp;try rfl) ?_;refine aJ 4 ?_
   try simp only[ak]
   refine mr (i:=5) (v:=.slice (some ⟨bk,o,none⟩) P cap) (by simp only[pJ,pK,pL];rfl) (by kernel_rfl) (by kernel_rfl) (by kernel_rfl) (fun _ _ _ h=>h) (Or.inl ⟨by rfl,fun w _=>ZB (n:=st.length) (by rfl) (by rfl) (by omega) (by omega)⟩) (by assumption) ?_
   try simp only[ak]
   refine aK 1 (fun K hK=>?_);have gM:∀i,W0.cell? ⟨gx,i,none⟩=(#[.slice none 0 0]:Array Value)[i]?:=(bI.o.grow aC.o).cell;go_simp;clear gM;refine aU hK (dh.o.trans aC.o) (fun hHeld=>?_);clear hK K;refine aK 6 (fun K hK=>?_);refine aaj (gx+1) (by rfl) (.tmp 102) (.tmp 106) 42 48 (by rfl) 3 64 _ wO ED rfl (by rfl) (by first | rfl | (rw[add_lit];rfl)) (Zw (eX (fk (HG.o.trans (dh.o.trans aC.o)).below (ay _) (ay _) (HG.o.trans (dh.o.trans aC.o)).size) Cg.o) P cap (by omega)) (by omega) (by simp only[maxLen];omega) (by have:=bI.o.lt;have:=aC.o.size;omega) ?_;intro A8 c8 w8 cN cS;have gH:=aa ((bI.o.grow aC.o).own cS (fun k hk=>by have:=(bO (iY W0 (gx+1) 48 3) k hk).1;omega))
   have ij:=aa ((dh.o.trans aC.o).grown cS (fun k hk=>by have:=(bO (iY W0 (gx+1) 48 3) k hk).1;have:=bJ.o;omega));have jo:=aa cN;clear cN cS;refine hK.out _ _ ij.o (fun hHeld=>?_);clear hK K
   try simp only[ak]
   refine aJ 7 ?_
   try simp only[ak]
   refine aK 8 (fun K hK=>?_);have gM:∀i,w8.cell? ⟨gx,i,none⟩=(#[.slice none 0 0]:Array Value)[i]?:=gH.o.cell;have jN:=gH.o.frozen;go_simp;clear gM jN;refine aU hK (ij.o.setCell (p:=⟨gx,0,none⟩) (by dsimp only;have:=bJ.o;omega) _) (fun hHeld=>?_);clear hK K;refine cz ?_;clear hHeld;have ma:=aa (show Blk (w8.setCell ⟨gx,0,none⟩ (.slice A8 (P) c8)) gx 44 #[.slice A8 (P) c8] from gH.o.bf 0 (.slice A8 (P) c8));have mf:=aa (gF jo.o ((dU (S:=fun x=>x=gx) w8).set (p:=⟨gx,0,none⟩) rfl (.slice A8 (P) c8)) (fun g hg e=>by
    have:=(bO jo.o g (by rw[bH];exact hg)).1;omega))
   have mg:=aa (ij.o.setCell (p:=⟨gx,0,none⟩) (by dsimp only;have:=bJ.o;omega) (.slice A8 (P) c8));clear gH jo ij
   try clear bI
   try clear HOW
   try clear dh
   try clear aC
   generalize w8.setCell ⟨gx,0,none⟩ (.slice A8 (P) c8)=w9 at ma mf mg ⊢;have bI:=ma;have HOW:=mf;have dh:=mg;clear ma mf mg;have hel:=oN.o;obtain⟨AZ,Je⟩:∃AZ,(if cap=q then (some ⟨bk,o,none⟩) else Option.map (fun x:Addr=>x.add (q*3)) (some ⟨bk,o,none⟩))=AZ:=⟨_,rfl⟩;have Jf:=aa Je;clear Je;go_upto_region 22 with fail;refine dN ?_;refine dO (S:=fun w'=>Grow w6 w') (by kernel_rfl) (dh.o.trans (ah _).drew) (fun hHeld=>?_);have aC:=aa (show Grow w9 w9.drew from (ah _).drew);generalize w9.drew=W0 at aC hHeld ⊢;refine aJ 0 ?_
   try simp only[ak]
   refine aJ 2 ?_
   try simp only[ak]
   refine aj 3 (hy:=bt fun w ax=>by have b:=(az.o.grow ax).cell;clear ax;go_simp;try rfl) ?_;refine aJ 4 ?_
   try simp only[ak]
   refine aJ 5 ?_
   try simp only[ak]
   refine mr (i:=6) (v:=.slice AZ (st.length-q) (cap-q)) (by simp only[pJ,pK,pL];rfl) (by kernel_rfl) (by kernel_rfl) (by kernel_rfl) (fun _ _ _ h=>h) (Or.inl ⟨by rfl,fun w _=>(ZA (A:=(some ⟨bk,o,none⟩)) (n:=st.length) (cap:=cap) (i:=q) (by rfl) (by rfl) (by omega) (by omega)).trans (by rw[Jf.o])⟩) (by assumption) ?_
   try simp only[ak]
   refine aK 1 (fun K hK=>?_);have gM:∀i,W0.cell? ⟨gx,i,none⟩=(#[.slice A8 P c8]:Array Value)[i]?:=(bI.o.grow aC.o).cell;go_simp;clear gM;refine aU hK (dh.o.trans aC.o) (fun hHeld=>?_);clear hK K;refine aK 7 (fun K hK=>?_);refine Jc (gx+1) (by rfl) (.tmp 110) (.tmp 115) 42 48 (by rfl) 3 64 _ wO ED rfl (by rfl) (ki HOW.o aC.o) (by first | rfl | (rw[add_lit];rfl)) ((by have h:=Zx (eX (fk (HG.o.trans (dh.o.trans aC.o)).below (ay _) (ay _) (HG.o.trans (dh.o.trans aC.o)).size) Cg.o) q (cap-q) cap (by omega) (by omega);rw[Jf.o] at h;exact h)) (by omega) (by simp only[maxLen];omega) (by have:=bI.o.lt;have:=aC.o.size;omega) ?_;intro A9 c9 MM cN cS
   have gH:=aa ((bI.o.grow aC.o).own cS (fun k hk=>by have:=(bO HOW.o k hk).1;omega));have ij:=aa ((dh.o.trans aC.o).grown cS (fun k hk=>by have:=(bO HOW.o k hk).1;have:=bJ.o;omega));have jo:=aa cN;clear cN cS;refine hK.out _ _ ij.o (fun hHeld=>?_);clear hK K
   try simp only[ak]
   refine aJ 8 ?_
   try simp only[ak]
   refine aK 9 (fun K hK=>?_);have gM:∀i,MM.cell? ⟨gx,i,none⟩=(#[.slice A8 P c8]:Array Value)[i]?:=gH.o.cell;have jN:=gH.o.frozen;go_simp;clear gM jN;refine aU hK (ij.o.setCell (p:=⟨gx,0,none⟩) (by dsimp only;have:=bJ.o;omega) _) (fun hHeld=>?_);clear hK K;refine cz ?_;clear hHeld;have ma:=aa (show Blk (MM.setCell ⟨gx,0,none⟩ (.slice A9 (P+(st.length-q)) c9)) gx 44 #[.slice A9 (P+(st.length-q)) c9] from gH.o.bf 0 (.slice A9 (P+(st.length-q)) c9));have mf:=aa (gF jo.o ((dU (S:=fun x=>x=gx) MM).set (p:=⟨gx,0,none⟩) rfl (.slice A9 (P+(st.length-q)) c9)) (fun g hg e=>by
    have:=(bO jo.o g (by rw[bH];exact hg)).1;omega))
   have mg:=aa (ij.o.setCell (p:=⟨gx,0,none⟩) (by dsimp only;have:=bJ.o;omega) (.slice A9 (P+(st.length-q)) c9));clear gH jo ij
   try clear bI
   try clear HOW
   try clear dh
   try clear aC
   generalize MM.setCell ⟨gx,0,none⟩ (.slice A9 (P+(st.length-q)) c9)=yg at ma mf mg ⊢;have bI:=ma;have HOW:=mf;have dh:=mg;clear ma mf mg;have hq:=HQ.o;clear EB EC;have hlen:P+(st.length-q)=(gD st P).length:=by
    rw[gD,bG,dS,iM];omega
   have zY:=aa (Zy (es:=(gD es P)) (st:=(gD st P)) HOW.o (by rw[← Zz,← hq];rfl) hlen ((Sl.o.grow (HG.o.trans dh.o)).del P));replace HG:=aa (HG.o.trans dh.o);replace av:=aa (av.o.grow dh.o);replace ar:=aa (ar.o.grow dh.o);rw[hlen] at bI;clear HOW dh hlen;have fP:=bI.o.cell;have hb4:=av.o.cell;have iz:=av.o.frozen;have cr:∀i,yg.cell? ⟨g5,i,none⟩=(#[.int .i64 0,.int .i64 0,.slice none 0 0,.int .i64 0]:Array Value)[i]?:=ar.o.cell;have iU:=ar.o.frozen;have yl:=cM.o;have nT:=fun e=>cM.o (lK e)
   go_wp2_with fail;exact nP HG.o H4.o H5.o cM.o av.o ar.o zY.o nJ.o (rfl) rfl rfl rfl
  ·have hput:=yj.o.put yf;dsimp only at hput;rw[iJ.o] at hput;have Ca:=aa hput;have Jg:=aa (show fC dv from ⟨hput.1,HR.o.fit,HR.o.doc⟩);have HDB:=aa (fun(_:dv.formed=true)=>HB.o.doc);have HFO:=aa (show dv.formed=true from by obtain⟨i,-,-,-,h,-⟩:=Jg.o.id;exact(lR h).1);have H34:=aa yf;have hd2:(d==2)=false:=by rcases yf with rfl | rfl<;>rfl
   have q0:_=some (Value.int .i64 d):=au.o.cell 0;clear hput;go_upto_if 120 with fail;go_cut [120] from 121 to 123 (fun t wx=>t=.bool true∧w6=wx)
   case first =>
    rcases yf with rfl | rfl
    ·go_wp2_with fail;go_meet;exact⟨rfl,rfl⟩
    go_wp2_with fail;go_meet;exact⟨rfl,rfl⟩
   obtain⟨rfl,rfl⟩:=hcut;clear yf hd2;go_upto_region 26 with fail;clear q0;refine dN ?_;refine dO (S:=fun w'=>Grow w6 w') (by kernel_rfl) ((ah _).drew) (fun hHeld=>?_);have aC:=aa (show Grow w6 w6.drew from (ah _).drew);generalize w6.drew=W0 at aC hHeld ⊢;refine aj 0 (hy:=bt fun w ax=>by have b:=(aS.o.grow ax).cell;clear ax;go_simp;try rfl) ?_;refine aJ 1 ?_
   try simp only[ak]
   refine aj 2 (hy:=bt fun w ax=>by have b:=(au.o.grow ax).cell;have k20:_=some (Value.int .i64 cx.k):=b 20;have k21:_=some (Value.int .u64 cx.n):=b 21;have k22:_=some (Value.slice cx.aB cx.nB cx.cB):=b 22;have k23:_=some (Value.slice cx.aL cx.nL cx.cL):=b 23;have k24:_=some (Value.slice cx.aF cx.nF cx.cF):=b 24;clear ax b;go_simp;try rfl) ?_;refine aK 3 (fun K hK=>?_);have hC:=Es dv cx W0 HR.o.doc HDB.o (HX.o.grow (HG.o.trans aC.o));go_simp;go_at_call 71;refine hC.mono ?_;rintro ee W1 ⟨rfl,hg1⟩;refine hK.out _ _ (aC.o.trans hg1) (fun hHeld=>?_);clear hC;clear hK K
   try simp only[ak]
   refine aK 4 (fun K hK=>?_);have hC:=Ih c.name c.ag dA xA dc c.aq.length xc (bM dv).1 W1 (dD.o.grow (aC.o.trans hg1)) dI.o.ag dI.o.keys (by have:=dI.o.nd;have:=HN.o;omega);go_simp;go_at_call 70;refine hC.mono ?_;rintro ee wA ⟨rfl,hg2⟩;have aZ:=aa (aC.o.trans (hg1.trans hg2));refine hK.out _ _ aZ.o (fun hHeld=>?_);clear hC;clear hK K
   try simp only[ak]
   refine aJ 5 ?_
   try simp only[ak]
   refine aJ 6 ?_
   try simp only[ak]
   refine aJ 7 ?_
   try simp only[ak]
   refine aJ 8 ?_
   try simp only[ak]
   refine aJ 9 ?_
   try simp only[ak]
   refine cz ?_;clear hHeld hg1 hg2;replace HG:=aa (HG.o.trans aZ.o);replace az:=aa (az.o.grow aZ.o);replace au:=aa (au.o.grow aZ.o);replace av:=aa (av.o.grow aZ.o);replace ar:=aa (ar.o.grow aZ.o);replace aS:=aa (aS.o.grow aZ.o);replace dD:=aa (dD.o.grow aZ.o);replace eY:=aa (eY.o.grow aZ.o);obtain⟨FF,gL⟩:∃b,jm c.ag (bM dv).1=b:=⟨_,rfl⟩;have jt:=aa gL;rw[gL];clear gL;have q0:_=some (Value.int .i64 d):=au.o.cell 0;go_upto_region 27 with fail;go_cut [136] from 131 to 136 (fun t wx=>t=.bool (FF&&(d==4))∧wA=wx)
   case first =>
    cases FF
    ·go_wp2_with fail;go_meet;exact⟨rfl,rfl⟩
    go_wp2_with fail;go_meet;exact⟨rfl,rfl⟩
   obtain⟨rfl,rfl⟩:=hcut;obtain⟨BB,rq⟩:∃b,(FF&&(d==4))=b:=⟨_,rfl⟩;rw[rq];have uF:=aa rq;clear rq
   cases BB with
   | true =>
    have hbs:=az.o.cell;go_wp2_with fail;refine(Cj.o 6 _).mono ?_;rintro e wf ⟨rfl,cm⟩;clear hbs q0;replace HG:=aa (HG.o.trans cm);replace az:=aa (az.o.grow cm);replace au:=aa (au.o.grow cm);replace av:=aa (av.o.grow cm);replace ar:=aa (ar.o.grow cm);replace aS:=aa (aS.o.grow cm);clear cm;have hb4:=av.o.cell;have iz:=av.o.frozen;have cr:∀i,wf.cell? ⟨g5,i,none⟩=(#[.int .i64 0,.int .i64 0,.slice none 0 0,.int .i64 0]:Array Value)[i]?:=ar.o.cell;have iU:=ar.o.frozen;have yl:=cM.o;have nT:=fun e=>cM.o (lK e)
    go_wp2_with fail;exact nP HG.o H4.o H5.o cM.o av.o ar.o (HST.o.grow HG.o) (cP.o.mono (fD _)) (rfl) rfl rfl rfl
   | false =>
    go_upto_region 30 with fail;clear q0;go_loopg [15] (c.aq.length+1) (fun gk i wr=>∃j:Nat,j≤c.aq.length∧gk+j=c.aq.length+1∧i=.int .i64 j∧(∀i (hi:i<c.aq.length),i<j→c.aq[i].uniq=true→c.ag.any (jP c.aq[i].path dv)=false)∧Grow wA wr);exact⟨0,ba _,rfl,rfl,fun _ _ h=>absurd h (by omega),ah _⟩;obtain⟨j,hj,kW,rfl,hne,hgr⟩:=hrel;obtain⟨gk',rfl⟩:=bS gk (by omega);have p_:=aa hne;replace HG:=aa (HG.o.trans hgr);replace az:=aa (az.o.grow hgr);replace au:=aa (au.o.grow hgr);replace av:=aa (av.o.grow hgr);replace ar:=aa (ar.o.grow hgr);replace aS:=aa (aS.o.grow hgr);replace dD:=aa (dD.o.grow hgr);replace eY:=aa (eY.o.grow hgr);have aH:=aa hgr;have hbc:=aS.o.cell;have h8:=dI.o.nx;clear hne hgr;by_cases hjl:j<c.aq.length
    ·obtain⟨bx,ox,rfl,fP,x0,x1,x2⟩:=eY.o.sx j hjl;have Sm:=aa (show c.aq[j].path.size<4294967281 from by have:=dI.o.path _ (aW hjl);omega);obtain⟨xj,Sn⟩:∃x,c.aq[j]=x:=⟨_,rfl⟩;rw[Sn] at x0 x1 x2 Sm;have Cb:=aa Sn;obtain⟨EO,Sq,xuu⟩:=xj;dsimp only at x0 x1 x2 Sm;clear Sn
     cases xuu with
     | false =>
      go_upto_region 32 with fail;go_quiet (fail);go_wp2_with fail;go_roundg gk';refine⟨j+1,by omega,by omega,by go_num,fun i hi hij hu=>?_,aH.o.trans ((ah _).drewN _)⟩;by_cases ir:i=j
      ·subst ir;rw[Cb.o] at hu;cases hu
      exact p_.o i hi (by omega) hu;omega
     | true =>
      have MN:=aa (fun(W:World) (hg:Grow wr W)=>show ∀i v,(Ix.cells ⟨EO,Sq,true⟩).toList[i]?=some v→i<3→W.cell? ⟨bx,ox+j*3+i,none⟩=some v from fun i v hv hi=>by
       match i,hv,hi with
       | 0,hv,_=>cases hv;exact(hg.below.cell (p:=⟨bx,ox+j*3,none⟩) fP).trans x0
       | 1,hv,_=>cases hv;exact(hg.below.cell (p:=⟨bx,ox+j*3+1,none⟩) fP).trans x1
       | 2,hv,_=>cases hv;exact(hg.below.cell (p:=⟨bx,ox+j*3+2,none⟩) fP).trans x2
       | i+3,_,hi=>omega)
      go_upto_region 32 with fail;clear hbc x0 x1 x2;refine dN ?_;refine dO (S:=fun w'=>Grow wr w') (by kernel_rfl) ((ah _).drew) (fun hHeld=>?_);have pg:=aa (show Grow wr wr.drew from (ah _).drew);generalize wr.drew=W5 at pg hHeld ⊢;refine aJ 0 ?_
      try simp only[ak]
      refine aj 1 (hy:=bt fun w ax=>by have b:=(aS.o.grow ax).cell;clear ax;go_simp;try rfl) ?_;refine aJ 2 ?_
      try simp only[ak]
      refine aJ 3 ?_
      try simp only[ak]
      refine aJ 4 ?_
      try simp only[ak]
      refine aj 5 (hy:=bt fun w ax=>by have y2:=MN.o _ ax 2 _ rfl (by omega);clear ax;go_simp;try rfl) ?_;refine aJ 6 ?_
      try simp only[ak]
      refine aj 7 (hy:=bt fun w ax=>by have b:=(aS.o.grow ax).cell;clear ax;go_simp;try rfl) ?_;refine aJ 8 ?_
      try simp only[ak]
      refine aj 9 (hy:=bt fun w ax=>by have b:=(aS.o.grow ax).cell;clear ax;go_simp;try rfl) ?_;refine aJ 10 ?_
      try simp only[ak]
      refine aJ 11 ?_
      try simp only[ak]
      refine aj 12 (hy:=bt fun w ax=>by have y0:=MN.o _ ax 0 _ rfl (by omega);rw[gf] at y0;have y1:=MN.o _ ax 1 _ rfl (by omega);have y2:=MN.o _ ax 2 _ rfl (by omega);clear ax;go_simp;try rfl) ?_;refine aJ 13 ?_
      try simp only[ak]
      refine aj 14 (hy:=bt fun w ax=>by have b:=(au.o.grow ax).cell;have k20:_=some (Value.int .i64 cx.k):=b 20;have k21:_=some (Value.int .u64 cx.n):=b 21;have k22:_=some (Value.slice cx.aB cx.nB cx.cB):=b 22;have k23:_=some (Value.slice cx.aL cx.nL cx.cL):=b 23;have k24:_=some (Value.slice cx.aF cx.nF cx.cF):=b 24;clear ax b;go_simp;try rfl) ?_;refine aK 15 (fun K hK=>?_);have hC:=Yy c.name c.ag dA (some ⟨bx,ox,none⟩) dc c.aq.length xc ⟨EO,Sq,true⟩ dv cx W5 (dD.o.grow pg.o) dI.o.ag (by have:=dI.o.nd;have:=HN.o;omega) Sm.o HFO.o HR.o.doc HDB.o (HX.o.grow (HG.o.trans pg.o));dsimp only[Ix.cells] at hC;go_simp;go_at_call 72;refine hC.mono ?_;rintro ee W6 ⟨rfl,cH⟩;have bp:=aa (pg.o.trans cH);refine hK.out _ _ bp.o (fun hHeld=>?_);clear hC;clear hK K
      try simp only[ak]
      refine aJ 16 ?_
      try simp only[ak]
      refine cz ?_;clear hHeld cH;obtain⟨cb,hcb⟩:∃b,c.ag.any (jP Sq dv)=b:=⟨_,rfl⟩;have gp:=aa hcb;rw[hcb];clear hcb;replace HG:=aa (HG.o.trans bp.o);replace az:=aa (az.o.grow bp.o);replace au:=aa (au.o.grow bp.o);replace av:=aa (av.o.grow bp.o);replace ar:=aa (ar.o.grow bp.o);replace aS:=aa (aS.o.grow bp.o)
      cases cb with
      | true =>
       have hbs:=az.o.cell;go_wp2_with fail;refine(Cj.o 13 _).mono ?_;rintro e wf ⟨rfl,cm⟩;clear hbs;replace HG:=aa (HG.o.trans cm);replace az:=aa (az.o.grow cm);replace au:=aa (au.o.grow cm);replace av:=aa (av.o.grow cm);replace ar:=aa (ar.o.grow cm);replace aS:=aa (aS.o.grow cm);clear cm;have hb4:=av.o.cell;have iz:=av.o.frozen;have cr:∀i,wf.cell? ⟨g5,i,none⟩=(#[.int .i64 0,.int .i64 0,.slice none 0 0,.int .i64 0]:Array Value)[i]?:=ar.o.cell;have iU:=ar.o.frozen;have yl:=cM.o;have nT:=fun e=>cM.o (lK e)
       go_wp2_with fail;exact nP HG.o H4.o H5.o cM.o av.o ar.o (HST.o.grow HG.o) (cP.o.mono (fD _)) (rfl) rfl rfl rfl
      | false =>
       go_wp2_with fail;go_roundg gk';refine⟨j+1,by omega,by omega,by go_num,fun i hi hij hu=>?_,aH.o.trans bp.o⟩;by_cases ir:i=j
       ·subst ir;rw[Cb.o];exact gp.o
       exact p_.o i hi (by omega) hu;omega
    have Sr:j=c.aq.length:=by omega
    subst Sr;have nJ:=aa (show dX (N+1) (st.set P ⟨c.name,gm c.ag dv,c.aq⟩) from Bk (q:=⟨d,co,ix,pa,un,kv,lv,hv,dv,n⟩) (n:=if jm c.ag (bM dv).1=true then 1 else 0) (ag:=[]) cP.o HR.o.fit HR.o.doc (by
     rw[show kf st ⟨d,co,ix,pa,un,kv,lv,hv,dv,n⟩=pT st ⟨d,co,ix,pa,un,kv,lv,hv,dv,n⟩ from by rcases H34.o with e | e<;>(unfold kf;dsimp only;rw[e];rfl)];unfold pT;dsimp only;rw[ai (by rw[HF.o];decide),ai (by rw[Ca.o.1];simp),iJ.o,ai (by rw[Ca.o.2];simp),ai (fun h=>h.2 (H34.o.resolve_right (fun e=>by have h5:=uF.o;rw[← jt.o,h.1,e] at h5;exact absurd h5 (by decide)))),ai (by
      rw[agE dI.o Jg.o Ca.o.2 (fun x hx hu=>by
       obtain⟨i,hi,rfl⟩:=lH hx;exact p_.o i hi hi hu)]
      decide),wI.o]))
    have Ss:=aa (show ∀g,(g=g4∨g=g5)→ig wr g from fun g h=>h.elim (fun e=>e ▸ Mk av.o) (fun e=>e ▸ Ml ar.o));go_upto_if 169 with fail;go_cut [16] from 169 to 170 (fun t wx=>t=.int .i64 (if FF=true then 1 else 0)∧wr=wx)
    case first =>
     cases FF
     ·go_wp2_with fail;go_meet;exact⟨rfl,rfl⟩
     go_wp2_with fail;go_meet;exact⟨rfl,rfl⟩
    obtain⟨rfl,rfl⟩:=hcut;obtain⟨NN,hNN⟩:∃z:Int,(if FF=true then 1 else 0)=z:=⟨_,rfl⟩;rw[hNN];clear hNN;go_upto_region 37 with fail;clear hbc;refine dN ?_;refine dO (S:=fun w'=>Kept (fun q=>q=g4∨q=g5) wr w') (by kernel_rfl) (gJ (ah _).drew) (fun hHeld=>?_);have ly:=aa (show Grow wr wr.drew from (ah _).drew);generalize wr.drew=W5 at ly hHeld ⊢;refine aj 0 (hy:=bt fun w ax=>by have b:=(ax.blk az.o (fun e=>e.elim kA.o.1 kA.o.2)).cell;clear ax;go_simp;try rfl) ?_;refine aJ 1 ?_
    try simp only[ak]
    refine aj 2 (hy:=bt fun w ax=>by have b:=(ax.blk aS.o (fun e=>e.elim uZ.o.1 uZ.o.2)).cell;clear ax;go_simp;try rfl) ?_;refine aJ 3 ?_
    try simp only[ak]
    refine aj 4 (hy:=bt fun w ax=>by have b:=(ax.blk au.o (fun e=>e.elim HNQ.o.1 HNQ.o.2)).cell;have k20:_=some (Value.int .i64 cx.k):=b 20;have k21:_=some (Value.int .u64 cx.n):=b 21;have k22:_=some (Value.slice cx.aB cx.nB cx.cB):=b 22;have k23:_=some (Value.slice cx.aL cx.nL cx.cL):=b 23;have k24:_=some (Value.slice cx.aF cx.nF cx.cF):=b 24;clear ax b;go_simp;try rfl) ?_;refine aJ 7 ?_
    try simp only[ak]
    refine aJ 8 ?_
    try simp only[ak]
    refine aK 5 (fun K hK=>?_);have hC:=agi c.name c.ag dA xA dc c.aq.length xc dv cx W5 (dD.o.grow ly.o) dI.o.ag dI.o.keys (by have:=dI.o.nd;have:=HN.o;omega) (HX.o.grow (HG.o.trans ly.o)) Jg.o;go_simp;go_at_call 74;refine hC.mono ?_;rintro ee W6 ⟨A5,c5,rfl,hi5,hg1⟩;refine hK.out _ _ (gJ (ly.o.trans hg1)) (fun hHeld=>?_);clear hC;clear hK K
    try simp only[ak]
    refine aK 6 (fun K hK=>?_);have hC:=Mc st (some ⟨bk,o,none⟩) cap P ⟨c.name,A5,(gm c.ag dv).length,c5,xA,c.aq.length,xc⟩ ⟨c.name,gm c.ag dv,c.aq⟩ W6 (HST.o.grow (HG.o.trans (ly.o.trans hg1))) ⟨rfl,rfl,rfl,ML.o,hi5,eY.o.grow (ly.o.trans hg1)⟩ lZ.o (by have:=cP.o.n;omega);go_simp;go_at_call 73;refine hC.mono ?_;rintro ee W2 ⟨A6,c6,rfl,bl,hg2⟩;have nK:=aa (show Kept (fun q=>q=g4∨q=g5) wr W2 from gJ (ly.o.trans (hg1.trans hg2)));refine hK.out _ _ nK.o (fun hHeld=>?_);clear hC;clear hK K
    try simp only[ak]
    replace HG:=aa (HG.o.trans (ly.o.trans (hg1.trans hg2)));replace av:=aa (av.o.grow (ly.o.trans (hg1.trans hg2)));replace ar:=aa (ar.o.grow (ly.o.trans (hg1.trans hg2)));have Cm:=aa bl;clear hg1 hg2 bl hi5;have hb4:=av.o.cell;have iz:=av.o.frozen;have cr:∀i,W2.cell? ⟨g5,i,none⟩=(#[.int .i64 0,.int .i64 0,.slice none 0 0,.int .i64 0]:Array Value)[i]?:=ar.o.cell;have iU:=ar.o.frozen;refine aK 9 (fun K hK=>?_);go_simp;refine aU hK (nK.o.set (p:=⟨g4,0,none⟩) (.inl rfl) _) (fun hHeld=>?_);clear hK K;refine aK 10 (fun K hK=>?_);have EP:=fun i=>((((ar.o.far (p:=⟨g4,0,none⟩) (fun e=>cM.o e.symm) (.slice A6 (st.length) c6)))).cell i)
    have ER:=(ar.o.far (p:=⟨g4,0,none⟩) (fun e=>cM.o e.symm) (.slice A6 (st.length) c6)).frozen;clear cr iU;go_simp;refine aU hK (((((nK.o.set (p:=⟨g4,0,none⟩) (.inl rfl) _).set (p:=⟨g5,0,none⟩) (.inr rfl) _).set (p:=⟨g5,1,none⟩) (.inr rfl) _).set (p:=⟨g5,2,none⟩) (.inr rfl) _).set (p:=⟨g5,3,none⟩) (.inr rfl) _) (fun hHeld=>?_);clear hK K;refine cz ?_;clear hHeld;go_wp2_with fail;exact nP HG.o H4.o H5.o cM.o av.o ar.o Cm.o nJ.o (by rw[kD]) rfl rfl rfl
  ·have hof:=Ie kv ck w6 (Er HR.o.key) (fun _=>HB.o.key) (HK.o.grow HG.o);have iu:=yj.o.key (by dsimp only;omega);dsimp only at iu;obtain⟨⟨kb,ke⟩,hkk⟩:∃p,cI kv=p:=⟨_,rfl⟩;rw[hkk] at hof iu;have pR:=aa hof;have kZ:=aa iu;have IL:=aa hkk;have q0:_=some (Value.int .i64 5):=au.o.cell 0;have q5:_=some (Value.int .i64 ck.k):=au.o.cell 5;have q6:_=some (Value.int .u64 ck.n):=au.o.cell 6;have q7:_=some (Value.slice ck.aB ck.nB ck.cB):=au.o.cell 7;have q8:_=some (Value.slice ck.aL ck.nL ck.cL):=au.o.cell 8;have q9:_=some (Value.slice ck.aF ck.nF ck.cF):=au.o.cell 9;clear hof iu hkk;go_wp2_with fail;clear q0 q5 q6 q7 q8 q9;refine pR.o.mono ?_;rintro e w7 ⟨aik,A7,c7,rfl,mN,kp,hg⟩;dsimp only at kp ⊢
   have lj:=aa (show bA w7 A7 kb from eX (fun p u hp=>⟨hp.1,ba _,hp.2.2⟩) kp.reads.1);replace HG:=aa (HG.o.trans hg);replace az:=aa (az.o.grow hg);replace au:=aa (au.o.grow hg);replace av:=aa (av.o.grow hg);replace ar:=aa (ar.o.grow hg);replace aS:=aa (aS.o.grow hg);replace dD:=aa (dD.o.grow hg);have Su:=aa (show Grow w6 w7 from hg);clear hg mN kp;have hcs:=qB c7 lj.o;have hbc:=aS.o.cell;go_wp2_with fail;clear hcs hbc;refine(Ih c.name c.ag dA xA dc c.aq.length xc kb w7 dD.o dI.o.ag dI.o.keys (by have:=dI.o.nd;have:=HN.o;omega)).mono ?_;rintro e w8 ⟨rfl,hg⟩;replace HG:=aa (HG.o.trans hg);replace az:=aa (az.o.grow hg);replace au:=aa (au.o.grow hg);replace av:=aa (av.o.grow hg);replace ar:=aa (ar.o.grow hg)
   replace aS:=aa (aS.o.grow hg);replace dD:=aa (dD.o.grow hg);replace lj:=aa (lj.o.grow hg);have eZ:=aa (Su.o.trans hg);clear hg;obtain⟨FD,u6⟩:∃b,jm c.ag kb=b:=⟨_,rfl⟩;have Eb:=aa u6;rw[u6]
   cases FD with
   | false =>
    clear u6;have hbs:=az.o.cell;go_wp2_with fail;refine(Cj.o 17 _).mono ?_;rintro e wf ⟨rfl,cm⟩;clear hbs;replace HG:=aa (HG.o.trans cm);replace az:=aa (az.o.grow cm);replace au:=aa (au.o.grow cm);replace av:=aa (av.o.grow cm);replace ar:=aa (ar.o.grow cm);replace aS:=aa (aS.o.grow cm);clear cm;have hb4:=av.o.cell;have iz:=av.o.frozen;have cr:∀i,wf.cell? ⟨g5,i,none⟩=(#[.int .i64 0,.int .i64 0,.slice none 0 0,.int .i64 0]:Array Value)[i]?:=ar.o.cell;have iU:=ar.o.frozen;have yl:=cM.o;have nT:=fun e=>cM.o (lK e)
    go_wp2_with fail;exact nP HG.o H4.o H5.o cM.o av.o ar.o (HST.o.grow HG.o) (cP.o.mono (fD _)) (rfl) rfl rfl rfl
   | true =>
    have hil:=zx u6;obtain⟨D,hD⟩:∃n,iP c.ag kb=n:=⟨_,rfl⟩;have Ci:=aa hD;rw[hD] at hil ⊢;obtain⟨b2,o2,y,ha,hbk2,e0,e1,e2,e3,e4,hy⟩:=dD.o.fO D hil;dsimp only[kH] at ha;subst ha;have hbc:=aS.o.cell;have hd0:(0:Int)≤(D:Int):=by omega
    have hd1:(D:Int)<(c.ag.length:Int):=by omega
    clear u6 hD;go_upto_region 45 with fail;clear e0 e1 e2 e3 e4 hbc hy;have aZ:=aa (((ah w8).alloc (.cells y.cells 27)).alloc (.cells #[.int .i64 0,.int .i64 0,.slice (some ⟨w8.heap.size,0,none⟩) 1 1,.int .i64 0] 31));have jq:=aa (aD (w8.alloc (.cells y.cells 27)) 31 #[.int .i64 0,.int .i64 0,.slice (some ⟨w8.heap.size,0,none⟩) 1 1,.int .i64 0]);have hl4:=av.o.lt;have rE:=ar.o.lt;have Dq:(w8.alloc (.cells y.cells 27)).heap.size=w8.heap.size+1:=by simp
    obtain⟨g21,ym⟩:∃g,(w8.alloc (.cells y.cells 27)).heap.size=g:=⟨_,rfl⟩;have pk:=aa (show g21≠g4∧g21≠g5 by omega);replace HG:=aa (HG.o.trans aZ.o);replace az:=aa (az.o.grow aZ.o);replace au:=aa (au.o.grow aZ.o);replace av:=aa (av.o.grow aZ.o);replace ar:=aa (ar.o.grow aZ.o);replace aS:=aa (aS.o.grow aZ.o);replace dD:=aa (dD.o.grow aZ.o);replace lj:=aa (lj.o.grow aZ.o);rw[ym] at jq
    try rw[ym]
    try simp only[Dq] at ym
    subst ym;generalize hwz:(w8.alloc (.cells y.cells 27)).alloc (.cells #[.int .i64 0,.int .i64 0,.slice (some ⟨w8.heap.size,0,none⟩) 1 1,.int .i64 0] 31)=w9 at aZ jq HG az au av ar aS dD lj ⊢;have bJ:=aa (eZ.o.trans aZ.o);clear hwz hl4 rE Dq aZ;have q0:_=some (Value.int .i64 5):=au.o.cell 0;have nJ:=aa (show dX (N+1) (st.set P ⟨c.name,gD c.ag D,c.aq⟩) from Bk (q:=⟨5,co,ix,pa,un,kv,lv,hv,dv,n⟩) (n:=0) (ag:=[c.ag.getD D V.zero]) cP.o HR.o.fit HR.o.doc (by
     show GN st ⟨5,co,ix,pa,un,kv,lv,hv,dv,n⟩=_;unfold GN;dsimp only;rw[ai (by rw[HF.o];decide),ai (by rw[IL.o];simpa using kZ.o),iJ.o,wI.o,IL.o];dsimp only;rw[ai (by rw[Eb.o];decide),Ci.o]))
    have Ss:=aa (show ∀g,(g=g4∨g=g5)→ig w9 g from fun g h=>h.elim (fun e=>e ▸ Mk av.o) (fun e=>e ▸ Ml ar.o));replace eY:=aa (eY.o.grow bJ.o);go_upto_region 47 with fail;clear q0;refine dN ?_;refine dO (S:=fun w'=>Kept (fun q=>q=g4∨q=g5) w9 w') (by kernel_rfl) (gJ (ah _).drew) (fun hHeld=>?_);have aC:=aa (show Grow w9 w9.drew from (ah _).drew);generalize w9.drew=W0 at aC hHeld ⊢;refine aj 0 (hy:=bt fun w ax=>by have b:=(ax.blk az.o (fun e=>e.elim kA.o.1 kA.o.2)).cell;clear ax;go_simp;try rfl) ?_;refine aJ 1 ?_
    try simp only[ak]
    refine aj 2 (hy:=bt fun w ax=>by have b:=(ax.blk aS.o (fun e=>e.elim uZ.o.1 uZ.o.2)).cell;clear ax;go_simp;try rfl) ?_;refine aJ 3 ?_
    try simp only[ak]
    refine aj 4 (hy:=bt fun w ax=>by have hcs:=qB c7 (bA.IW ax Ss.o lj.o);clear ax;go_simp;try rfl) ?_;refine aj 7 (hy:=bt fun w ax=>by have b:=(ax.blk jq.o (fun e=>e.elim pk.o.1 pk.o.2)).cell;clear ax;go_simp;try rfl) ?_;refine aK 5 (fun K hK=>?_);have hC:=agl c.name c.ag (some ⟨b2,o2,none⟩) xA dc c.aq.length xc kb W0 (dD.o.grow aC.o) dI.o.ag dI.o.keys (by have:=dI.o.nd;have:=HN.o;omega) Eb.o;rw[Ci.o] at hC;go_simp;go_at_call 75;refine hC.mono ?_;rintro ee W1 ⟨A5,c5,rfl,hi5,hg1⟩;refine hK.out _ _ (gJ (aC.o.trans hg1)) (fun hHeld=>?_);clear hC;clear hK K
    try simp only[ak]
    refine aK 6 (fun K hK=>?_);have hC:=Mc st (some ⟨bk,o,none⟩) cap P ⟨c.name,A5,(gD c.ag D).length,c5,xA,c.aq.length,xc⟩ ⟨c.name,gD c.ag D,c.aq⟩ W1 (HST.o.grow (HG.o.trans (aC.o.trans hg1))) ⟨rfl,rfl,rfl,ML.o,hi5,eY.o.grow (aC.o.trans hg1)⟩ lZ.o (by have:=cP.o.n;omega);go_simp;go_at_call 73;refine hC.mono ?_;rintro ee W2 ⟨A6,c6,rfl,bl,hg2⟩;have nK:=aa (show Kept (fun q=>q=g4∨q=g5) w9 W2 from gJ (aC.o.trans (hg1.trans hg2)));refine hK.out _ _ nK.o (fun hHeld=>?_);clear hC;clear hK K
    try simp only[ak]
    replace HG:=aa (HG.o.trans (aC.o.trans (hg1.trans hg2)));replace av:=aa (av.o.grow (aC.o.trans (hg1.trans hg2)));replace ar:=aa (ar.o.grow (aC.o.trans (hg1.trans hg2)));have Cm:=aa bl;clear hg1 hg2 bl hi5;have hb4:=av.o.cell;have iz:=av.o.frozen;have cr:∀i,W2.cell? ⟨g5,i,none⟩=(#[.int .i64 0,.int .i64 0,.slice none 0 0,.int .i64 0]:Array Value)[i]?:=ar.o.cell;have iU:=ar.o.frozen;refine aK 8 (fun K hK=>?_);go_simp;refine aU hK (nK.o.set (p:=⟨g4,0,none⟩) (.inl rfl) _) (fun hHeld=>?_);clear hK K;refine aK 9 (fun K hK=>?_);have EP:=fun i=>((((ar.o.far (p:=⟨g4,0,none⟩) (fun e=>cM.o e.symm) (.slice A6 (st.length) c6)))).cell i)
    have ER:=(ar.o.far (p:=⟨g4,0,none⟩) (fun e=>cM.o e.symm) (.slice A6 (st.length) c6)).frozen;clear cr iU;go_simp;refine aU hK (((((nK.o.set (p:=⟨g4,0,none⟩) (.inl rfl) _).set (p:=⟨g5,0,none⟩) (.inr rfl) _).set (p:=⟨g5,1,none⟩) (.inr rfl) _).set (p:=⟨g5,2,none⟩) (.inr rfl) _).set (p:=⟨g5,3,none⟩) (.inr rfl) _) (fun hHeld=>?_);clear hK K;refine cz ?_;clear hHeld;go_wp2_with fail;exact nP HG.o H4.o H5.o cM.o av.o ar.o Cm.o nJ.o (by rw[kD]) rfl rfl rfl
  ·have hof:=Ie kv ck w6 (Er HR.o.key) (fun _=>HB.o.key) (HK.o.grow HG.o);have iu:=yj.o.key (by dsimp only;omega);dsimp only at iu;obtain⟨⟨kb,ke⟩,hkk⟩:∃p,cI kv=p:=⟨_,rfl⟩;rw[hkk] at hof iu;have pR:=aa hof;have kZ:=aa iu;have IL:=aa hkk;have q0:_=some (Value.int .i64 6):=au.o.cell 0;have q5:_=some (Value.int .i64 ck.k):=au.o.cell 5;have q6:_=some (Value.int .u64 ck.n):=au.o.cell 6;have q7:_=some (Value.slice ck.aB ck.nB ck.cB):=au.o.cell 7;have q8:_=some (Value.slice ck.aL ck.nL ck.cL):=au.o.cell 8;have q9:_=some (Value.slice ck.aF ck.nF ck.cF):=au.o.cell 9;clear hof iu hkk;go_wp2_with fail;clear q0 q5 q6 q7 q8 q9;refine pR.o.mono ?_;rintro e w7 ⟨aik,A7,c7,rfl,mN,kp,hg⟩;dsimp only at kp ⊢
   have lj:=aa (show bA w7 A7 kb from eX (fun p u hp=>⟨hp.1,ba _,hp.2.2⟩) kp.reads.1);replace HG:=aa (HG.o.trans hg);replace az:=aa (az.o.grow hg);replace au:=aa (au.o.grow hg);replace av:=aa (av.o.grow hg);replace ar:=aa (ar.o.grow hg);replace aS:=aa (aS.o.grow hg);replace dD:=aa (dD.o.grow hg);have Su:=aa (show Grow w6 w7 from hg);clear hg mN kp;have hcs:=qB c7 lj.o;have hbc:=aS.o.cell;go_wp2_with fail;clear hcs hbc;refine(Ih c.name c.ag dA xA dc c.aq.length xc kb w7 dD.o dI.o.ag dI.o.keys (by have:=dI.o.nd;have:=HN.o;omega)).mono ?_;rintro e w8 ⟨rfl,hg⟩;replace HG:=aa (HG.o.trans hg);replace az:=aa (az.o.grow hg);replace au:=aa (au.o.grow hg);replace av:=aa (av.o.grow hg);replace ar:=aa (ar.o.grow hg)
   replace aS:=aa (aS.o.grow hg);replace dD:=aa (dD.o.grow hg);replace lj:=aa (lj.o.grow hg);have eZ:=aa (Su.o.trans hg);clear hg;obtain⟨FD,u6⟩:∃b,jm c.ag kb=b:=⟨_,rfl⟩;have Eb:=aa u6;rw[u6]
   cases FD with
   | false =>
    clear u6;have hbs:=az.o.cell;go_wp2_with fail;refine(Cj.o 17 _).mono ?_;rintro e wf ⟨rfl,cm⟩;clear hbs;replace HG:=aa (HG.o.trans cm);replace az:=aa (az.o.grow cm);replace au:=aa (au.o.grow cm);replace av:=aa (av.o.grow cm);replace ar:=aa (ar.o.grow cm);replace aS:=aa (aS.o.grow cm);clear cm;have hb4:=av.o.cell;have iz:=av.o.frozen;have cr:∀i,wf.cell? ⟨g5,i,none⟩=(#[.int .i64 0,.int .i64 0,.slice none 0 0,.int .i64 0]:Array Value)[i]?:=ar.o.cell;have iU:=ar.o.frozen;have yl:=cM.o;have nT:=fun e=>cM.o (lK e)
    go_wp2_with fail;exact nP HG.o H4.o H5.o cM.o av.o ar.o (HST.o.grow HG.o) (cP.o.mono (fD _)) (rfl) rfl rfl rfl
   | true =>
    have hil:=zx u6;obtain⟨D,hD⟩:∃n,iP c.ag kb=n:=⟨_,rfl⟩;have Ci:=aa hD;rw[hD] at hil ⊢;obtain⟨b2,o2,y,ha,hbk2,e0,e1,e2,e3,e4,hy⟩:=dD.o.fO D hil;dsimp only[kH] at ha;subst ha;have hbc:=aS.o.cell;have hd0:(0:Int)≤(D:Int):=by omega
    have hd1:(D:Int)<(c.ag.length:Int):=by omega
    clear u6 hD;go_upto_region 45 with fail;clear e0 e1 e2 e3 e4 hbc hy;have aZ:=aa (((ah w8).alloc (.cells y.cells 27)).alloc (.cells #[.int .i64 0,.int .i64 0,.slice (some ⟨w8.heap.size,0,none⟩) 1 1,.int .i64 0] 31));have jq:=aa (aD (w8.alloc (.cells y.cells 27)) 31 #[.int .i64 0,.int .i64 0,.slice (some ⟨w8.heap.size,0,none⟩) 1 1,.int .i64 0]);have hl4:=av.o.lt;have rE:=ar.o.lt;have Dq:(w8.alloc (.cells y.cells 27)).heap.size=w8.heap.size+1:=by simp
    obtain⟨g21,ym⟩:∃g,(w8.alloc (.cells y.cells 27)).heap.size=g:=⟨_,rfl⟩;have pk:=aa (show g21≠g4∧g21≠g5 by omega);replace HG:=aa (HG.o.trans aZ.o);replace az:=aa (az.o.grow aZ.o);replace au:=aa (au.o.grow aZ.o);replace av:=aa (av.o.grow aZ.o);replace ar:=aa (ar.o.grow aZ.o);replace aS:=aa (aS.o.grow aZ.o);replace dD:=aa (dD.o.grow aZ.o);replace lj:=aa (lj.o.grow aZ.o);rw[ym] at jq
    try rw[ym]
    try simp only[Dq] at ym
    subst ym;generalize hwz:(w8.alloc (.cells y.cells 27)).alloc (.cells #[.int .i64 0,.int .i64 0,.slice (some ⟨w8.heap.size,0,none⟩) 1 1,.int .i64 0] 31)=w9 at aZ jq HG az au av ar aS dD lj ⊢;have bJ:=aa (eZ.o.trans aZ.o);clear hwz hl4 rE Dq aZ;have q0:_=some (Value.int .i64 6):=au.o.cell 0;go_upto_region 46 with fail;clear q0;refine dN ?_
    refine dO (S:=fun w'=>w'.cell? ⟨w.heap.size,0,none⟩=some (.slice (some ⟨bk,o,none⟩) st.length cap)∧w'.cell? ⟨(w8.heap.size+1),0,none⟩=some (.int .i64 0)∧w'.cell? ⟨(w8.heap.size+1),1,none⟩=some (.int .i64 0)∧w'.cell? ⟨(w8.heap.size+1),2,none⟩=some (.slice (some ⟨w8.heap.size,0,none⟩) 1 1)∧w'.cell? ⟨(w8.heap.size+1),3,none⟩=some (.int .i64 0)) (by kernel_rfl) (⟨(az.o.grow (ah _).drew).cell 0,(jq.o.grow (ah _).drew).cell 0,(jq.o.grow (ah _).drew).cell 1,(jq.o.grow (ah _).drew).cell 2,(jq.o.grow (ah _).drew).cell 3⟩) (fun hHeld=>?_);have aC:=aa (show Grow w9 w9.drew from (ah _).drew);generalize w9.drew=W0 at aC hHeld ⊢;replace HG:=aa (HG.o.trans aC.o);replace av:=aa (av.o.grow aC.o);replace ar:=aa (ar.o.grow aC.o)
    replace az:=aa (az.o.grow aC.o);replace jq:=aa (jq.o.grow aC.o);have hb4:=av.o.cell;have iz:=av.o.frozen;have cr:∀i,W0.cell? ⟨g5,i,none⟩=(#[.int .i64 0,.int .i64 0,.slice none 0 0,.int .i64 0]:Array Value)[i]?:=ar.o.cell;have iU:=ar.o.frozen;have R5:=aa (fun(g:Nat) (T:TypeId) (cs:Array Value) h1 h2 h3=>(IX (A':=(some ⟨bk,o,none⟩)) (l':=st.length) (c':=cap) (e':=0) (n':=0) (B':=(some ⟨w8.heap.size,0,none⟩)) (m':=1) (d':=1) (k':=0) HG.o H4.o H5.o cM.o av.o ar.o).2.2.2.2 (g:=g) (T:=T) (cs:=cs) h1 h2 h3);refine aj 0 (hy:=bt fun w ax=>by obtain⟨s0,-,-,-,-⟩:=ax;go_simp;try rfl) ?_;refine aj 1 (hy:=bt fun w ax=>by obtain⟨-,s1,s2,s3,s4⟩:=ax;go_simp;try rfl) ?_;refine aK 2 (fun K hK=>?_);go_simp
    refine aU hK (⟨(az.o.far (p:=⟨g4,0,none⟩) kA.o.1 _).cell 0,(jq.o.far (p:=⟨g4,0,none⟩) pk.o.1 _).cell 0,(jq.o.far (p:=⟨g4,0,none⟩) pk.o.1 _).cell 1,(jq.o.far (p:=⟨g4,0,none⟩) pk.o.1 _).cell 2,(jq.o.far (p:=⟨g4,0,none⟩) pk.o.1 _).cell 3⟩) (fun hHeld=>?_);clear hK K;refine aK 3 (fun K hK=>?_);have EP:=fun i=>((((ar.o.far (p:=⟨g4,0,none⟩) (fun e=>cM.o e.symm) (.slice (some ⟨bk,o,none⟩) (st.length) cap)))).cell i)
    have ER:=(ar.o.far (p:=⟨g4,0,none⟩) (fun e=>cM.o e.symm) (.slice (some ⟨bk,o,none⟩) (st.length) cap)).frozen;clear cr iU;go_simp;refine aU hK (⟨(R5.o _ _ _ az.o kA.o.1 kA.o.2).cell 0,(R5.o _ _ _ jq.o pk.o.1 pk.o.2).cell 0,(R5.o _ _ _ jq.o pk.o.1 pk.o.2).cell 1,(R5.o _ _ _ jq.o pk.o.1 pk.o.2).cell 2,(R5.o _ _ _ jq.o pk.o.1 pk.o.2).cell 3⟩) (fun hHeld=>?_);clear hK K;refine cz ?_;clear hHeld;go_wp2_with fail;exact nP HG.o H4.o H5.o cM.o av.o ar.o (HST.o.grow HG.o) (cP.o.mono (fD _)) (rfl) rfl rfl rfl
  ·have qa:=yj.o.ix rfl;dsimp only at qa;rw[iJ.o] at qa;have Jh:=aa qa;have q0:_=some (Value.int .i64 7):=au.o.cell 0;have q2:_=some (Value.string ix):=au.o.cell 2;have q3:_=some (Value.string pa):=au.o.cell 3;have q4:_=some (Value.bool un):=au.o.cell 4;clear qa;go_upto_region 50 with fail;clear q0 q2 q3 q4;have rF:=aa (aD w6 64 #[.string ix,.string pa,.bool un]);have u_:=aa ((ah w6).alloc (.cells #[.string ix,.string pa,.bool un] 64));have hl4:=av.o.lt;have rE:=ar.o.lt;obtain⟨g22,aaq⟩:∃g,w6.heap.size=g:=⟨_,rfl⟩;have aar:=aa (show g22≠g4∧g22≠g5 by omega);rw[aaq] at rF ⊢;clear aaq hl4 rE;generalize w6.alloc (.cells #[.string ix,.string pa,.bool un] 64)=w7 at rF u_ ⊢;replace HG:=aa (HG.o.trans u_.o);replace az:=aa (az.o.grow u_.o)
   replace au:=aa (au.o.grow u_.o);replace av:=aa (av.o.grow u_.o);replace ar:=aa (ar.o.grow u_.o);replace aS:=aa (aS.o.grow u_.o);replace dD:=aa (dD.o.grow u_.o);replace eY:=aa (eY.o.grow u_.o);have hbc:=aS.o.cell;have MO:=rF.o.cell;go_wp2_with fail;clear hbc MO;have HPS:=aa (show pa.size<4294967281 from by have:=Jh.o.2.1;omega);refine(agA c.name c.ag dA xA dc c.aq.length xc ⟨ix,pa,un⟩ w7 dD.o HPS.o dI.o.ag (by have:=dI.o.nd;have:=HN.o;omega)).mono ?_;rintro e w8 ⟨hg,hre⟩;replace HG:=aa (HG.o.trans hg);replace az:=aa (az.o.grow hg);replace au:=aa (au.o.grow hg);replace av:=aa (av.o.grow hg);replace ar:=aa (ar.o.grow hg);replace aS:=aa (aS.o.grow hg);replace rF:=aa (rF.o.grow hg)
   replace dD:=aa (dD.o.grow hg);replace eY:=aa (eY.o.grow hg);clear hg;dsimp only at hre;obtain⟨x,hx⟩:∃x,jd pa c.ag=x:=⟨_,rfl⟩;rw[hx] at hre;have wM:=aa hx;clear hx;obtain⟨hxz,rfl⟩ | ⟨rfl,A1,c1,es,rfl,-,-,-⟩:=hre
   ·have hbs:=az.o.cell;go_wp2_with fail;refine(Cj.o x _).mono ?_;rintro e wf ⟨rfl,cm⟩;clear hbs;replace HG:=aa (HG.o.trans cm);replace az:=aa (az.o.grow cm);replace au:=aa (au.o.grow cm);replace av:=aa (av.o.grow cm);replace ar:=aa (ar.o.grow cm);replace aS:=aa (aS.o.grow cm);replace rF:=aa (rF.o.grow cm);clear cm;have hb4:=av.o.cell;have iz:=av.o.frozen;have cr:∀i,wf.cell? ⟨g5,i,none⟩=(#[.int .i64 0,.int .i64 0,.slice none 0 0,.int .i64 0]:Array Value)[i]?:=ar.o.cell;have iU:=ar.o.frozen;have yl:=cM.o;have nT:=fun e=>cM.o (lK e)
    go_wp2_with fail;exact nP HG.o H4.o H5.o cM.o av.o ar.o (HST.o.grow HG.o) (cP.o.mono (fD _)) (rfl) rfl rfl rfl
   go_upto_region 54 with fail;go_loopg [25] (c.ag.length+1) (fun gk i wr=>∃j:Nat,j≤c.ag.length∧gk+j=c.ag.length+1∧i=.int .i64 j∧(un=true→∀i (hi:i<c.ag.length),i<j→c.ag.any (jP pa c.ag[i])=false)∧Grow w8 wr);exact⟨0,ba _,rfl,rfl,fun _ _ _ h=>absurd h (by omega),ah _⟩;obtain⟨j,hj,kW,rfl,hne,hgr⟩:=hrel;obtain⟨gk',rfl⟩:=bS gk (by omega);have p_:=aa hne;replace HG:=aa (HG.o.trans hgr);replace az:=aa (az.o.grow hgr);replace au:=aa (au.o.grow hgr);replace av:=aa (av.o.grow hgr);replace ar:=aa (ar.o.grow hgr);replace aS:=aa (aS.o.grow hgr);replace rF:=aa (rF.o.grow hgr);replace dD:=aa (dD.o.grow hgr);replace eY:=aa (eY.o.grow hgr);have aH:=aa hgr;have hbc:=aS.o.cell;have MO:=rF.o.cell;have h8:=dI.o.nd
   have h9:=HN.o;clear hne hgr;by_cases hjl:j<c.ag.length
   ·obtain⟨b2,o2,y,ha,hbk2,e0,e1,e2,e3,e4,hy⟩:=dD.o.fO j hjl;dsimp only[kH] at ha;subst ha;have jz:=aa (show fC c.ag[j]∧c.ag[j].good=0∧(c.ag[j].formed=true→c.ag[j].bytes.length≤140737488355328) from ⟨dI.o.ag _ (aW hjl),(dI.o.ag _ (aW hjl)).id.elim fun _ h=>h.2.2.2.1,(dI.o.ag _ (aW hjl)).bytes⟩);have HY:=aa hy;obtain⟨dk,jT⟩:∃x,c.ag[j]=x:=⟨_,rfl⟩;rw[jT] at jz HY;have Jg:=aa jT;clear hy jT
    cases un with
    | false =>
     go_upto_region 56 with fail;go_quiet (fail);go_wp2_with fail;go_roundg gk';exact⟨j+1,by omega,by omega,by go_num,fun h=>(by cases h),aH.o.trans ((ah _).drewN _)⟩;omega
    | true =>
     have Ji:=aa (fun(W:World) (hg:Grow wr W)=>show ∀i v,y.cells.toList[i]?=some v→i<5→W.cell? ⟨b2,o2+j*5+i,none⟩=some v from fun i v hv hi=>by
      match i,hv,hi with
      | 0,hv,_=>cases hv;exact(hg.below.cell (p:=⟨b2,o2+j*5,none⟩) hbk2).trans e0
      | 1,hv,_=>cases hv;exact(hg.below.cell (p:=⟨b2,o2+j*5+1,none⟩) hbk2).trans e1
      | 2,hv,_=>cases hv;exact(hg.below.cell (p:=⟨b2,o2+j*5+2,none⟩) hbk2).trans e2
      | 3,hv,_=>cases hv;exact(hg.below.cell (p:=⟨b2,o2+j*5+3,none⟩) hbk2).trans e3
      | 4,hv,_=>cases hv;exact(hg.below.cell (p:=⟨b2,o2+j*5+4,none⟩) hbk2).trans e4
      | i+5,_,hi=>omega)
     go_upto_region 56 with fail;clear hbc MO e0 e1 e2 e3 e4;refine dN ?_;refine dO (S:=fun w'=>Grow wr w') (by kernel_rfl) ((ah _).drew) (fun hHeld=>?_);have pg:=aa (show Grow wr wr.drew from (ah _).drew);generalize wr.drew=W5 at pg hHeld ⊢;refine aJ 0 ?_
     try simp only[ak]
     refine aj 1 (hy:=bt fun w ax=>by have b:=(rF.o.grow ax).cell;clear ax;go_simp;try rfl) ?_;refine aJ 2 ?_
     try simp only[ak]
     refine aj 3 (hy:=bt fun w ax=>by have b:=(aS.o.grow ax).cell;clear ax;go_simp;try rfl) ?_;refine aj 4 (hy:=bt fun w ax=>by have b:=(rF.o.grow ax).cell;clear ax;go_simp;try rfl) ?_;refine aJ 5 ?_
     try simp only[ak]
     refine aj 6 (hy:=bt fun w ax=>by have b:=(aS.o.grow ax).cell;clear ax;go_simp;try rfl) ?_;refine aJ 7 ?_
     try simp only[ak]
     refine aJ 8 ?_
     try simp only[ak]
     refine aj 9 (hy:=bt fun w ax=>by have y0:=Ji.o _ ax 0 _ rfl (by omega);rw[gf] at y0;have y1:=Ji.o _ ax 1 _ rfl (by omega);have y2:=Ji.o _ ax 2 _ rfl (by omega);have y3:=Ji.o _ ax 3 _ rfl (by omega);have y4:=Ji.o _ ax 4 _ rfl (by omega);clear ax;go_simp;try rfl) ?_;refine aK 10 (fun K hK=>?_);have hC:=Yy c.name c.ag (some ⟨b2,o2,none⟩) xA dc c.aq.length xc ⟨ix,pa,true⟩ dk y W5 (dD.o.grow pg.o) dI.o.ag (by have:=dI.o.nd;have:=HN.o;omega) HPS.o (lR jz.o.2.1).1 jz.o.1.count jz.o.2.2 (HY.o.grow pg.o);dsimp only[Ix.cells] at hC;go_simp;go_at_call 72;refine hC.mono ?_;rintro ee W6 ⟨rfl,cH⟩;have bp:=aa (pg.o.trans cH);refine hK.out _ _ bp.o (fun hHeld=>?_);clear hC;clear hK K
     try simp only[ak]
     refine aJ 11 ?_
     try simp only[ak]
     refine cz ?_;clear hHeld cH;obtain⟨cb,hcb⟩:∃b,c.ag.any (jP pa dk)=b:=⟨_,rfl⟩;have gp:=aa hcb;rw[hcb];clear hcb;replace HG:=aa (HG.o.trans bp.o);replace az:=aa (az.o.grow bp.o);replace au:=aa (au.o.grow bp.o);replace av:=aa (av.o.grow bp.o);replace ar:=aa (ar.o.grow bp.o);replace aS:=aa (aS.o.grow bp.o)
     cases cb with
     | true =>
      have hbs:=az.o.cell;go_wp2_with fail;refine(Cj.o 13 _).mono ?_;rintro e wf ⟨rfl,cm⟩;clear hbs;replace HG:=aa (HG.o.trans cm);replace az:=aa (az.o.grow cm);replace au:=aa (au.o.grow cm);replace av:=aa (av.o.grow cm);replace ar:=aa (ar.o.grow cm);replace aS:=aa (aS.o.grow cm);clear cm;have hb4:=av.o.cell;have iz:=av.o.frozen;have cr:∀i,wf.cell? ⟨g5,i,none⟩=(#[.int .i64 0,.int .i64 0,.slice none 0 0,.int .i64 0]:Array Value)[i]?:=ar.o.cell;have iU:=ar.o.frozen;have yl:=cM.o;have nT:=fun e=>cM.o (lK e)
      go_wp2_with fail;exact nP HG.o H4.o H5.o cM.o av.o ar.o (HST.o.grow HG.o) (cP.o.mono (fD _)) (rfl) rfl rfl rfl
     | false =>
      go_wp2_with fail;go_roundg gk';refine⟨j+1,by omega,by omega,by go_num,fun hu i hi hij=>?_,aH.o.trans bp.o⟩;by_cases ir:i=j
      ·subst ir;rw[Jg.o];exact gp.o
      exact p_.o hu i hi (by omega);omega
   have Sr:j=c.ag.length:=by omega
   subst Sr;have nJ:=aa (show dX (N+1) (st.set P ⟨c.name,c.ag,(cZ c.aq (bV (c.aq.map Ix.name) ix) ⟨ix,pa,un⟩)⟩) from Bk (q:=⟨7,co,ix,pa,un,kv,lv,hv,dv,n⟩) (n:=0) (ag:=[]) cP.o HR.o.fit HR.o.doc (by
    show GP st ⟨7,co,ix,pa,un,kv,lv,hv,dv,n⟩=_;unfold GP;dsimp only;rw[ai (by rw[Jh.o.1];decide),ai Jh.o.2.1,ai (by rw[HF.o];decide),iJ.o,ai (by rw[Jh.o.2.2.1];decide),ai Jh.o.2.2.2,ai (by rw[wM.o];simp),ai (fun h=>by
     rw[agF dI.o.ag dI.o.keys wM.o (fun x hx=>by
      obtain⟨i,hi,rfl⟩:=lH hx;exact p_.o h.1 i hi hi)] at h
     cases h.2),wI.o]))
   have Ss:=aa (show ∀g,(g=g4∨g=g5)→ig wr g from fun g h=>h.elim (fun e=>e ▸ Mk av.o) (fun e=>e ▸ Ml ar.o));go_upto_region 58 with fail;clear hbc MO;refine dN ?_;refine dO (S:=fun w'=>Kept (fun q=>q=g4∨q=g5) wr w') (by kernel_rfl) (gJ (ah _).drew) (fun hHeld=>?_);have ly:=aa (show Grow wr wr.drew from (ah _).drew);generalize wr.drew=W5 at ly hHeld ⊢;refine aj 0 (hy:=bt fun w ax=>by have b:=(ax.blk az.o (fun e=>e.elim kA.o.1 kA.o.2)).cell;clear ax;go_simp;try rfl) ?_;refine aJ 1 ?_
   try simp only[ak]
   refine aj 2 (hy:=bt fun w ax=>by have b:=(ax.blk aS.o (fun e=>e.elim uZ.o.1 uZ.o.2)).cell;clear ax;go_simp;try rfl) ?_;refine aj 3 (hy:=bt fun w ax=>by have b:=(ax.blk rF.o (fun e=>e.elim aar.o.1 aar.o.2)).cell;clear ax;go_simp;try rfl) ?_;refine aJ 6 ?_
   try simp only[ak]
   refine aK 4 (fun K hK=>?_);have hC:=agq c.name dA xA c.ag.length dc c.aq xc ⟨ix,pa,un⟩ W5 (eY.o.grow ly.o) ML.o dI.o.aq (by have:=dI.o.nx;omega);dsimp only[Ix.cells] at hC;go_simp;go_at_call 76;refine hC.mono ?_;rintro ee W6 ⟨A5,c5,rfl,hi5,FX,hg1⟩;refine hK.out _ _ (gJ (ly.o.trans hg1)) (fun hHeld=>?_);clear hC;clear hK K
   try simp only[ak]
   refine aK 5 (fun K hK=>?_);have hC:=Mc st (some ⟨bk,o,none⟩) cap P ⟨c.name,dA,c.ag.length,dc,A5,(cZ c.aq (bV (c.aq.map Ix.name) ix) ⟨ix,pa,un⟩).length,c5⟩ ⟨c.name,c.ag,(cZ c.aq (bV (c.aq.map Ix.name) ix) ⟨ix,pa,un⟩)⟩ W6 (HST.o.grow (HG.o.trans (ly.o.trans hg1))) ⟨rfl,rfl,rfl,FX,dD.o.grow (ly.o.trans hg1),hi5⟩ lZ.o (by have:=cP.o.n;omega);go_simp;go_at_call 73;refine hC.mono ?_;rintro ee W2 ⟨A6,c6,rfl,bl,hg2⟩;have nK:=aa (show Kept (fun q=>q=g4∨q=g5) wr W2 from gJ (ly.o.trans (hg1.trans hg2)));refine hK.out _ _ nK.o (fun hHeld=>?_);clear hC;clear hK K
   try simp only[ak]
   replace HG:=aa (HG.o.trans (ly.o.trans (hg1.trans hg2)));replace av:=aa (av.o.grow (ly.o.trans (hg1.trans hg2)));replace ar:=aa (ar.o.grow (ly.o.trans (hg1.trans hg2)));have Cm:=aa bl;clear hg1 hg2 bl hi5 FX;have hb4:=av.o.cell;have iz:=av.o.frozen;have cr:∀i,W2.cell? ⟨g5,i,none⟩=(#[.int .i64 0,.int .i64 0,.slice none 0 0,.int .i64 0]:Array Value)[i]?:=ar.o.cell;have iU:=ar.o.frozen;refine aK 7 (fun K hK=>?_);go_simp;refine aU hK (nK.o.set (p:=⟨g4,0,none⟩) (.inl rfl) _) (fun hHeld=>?_);clear hK K;refine aK 8 (fun K hK=>?_);have EP:=fun i=>((((ar.o.far (p:=⟨g4,0,none⟩) (fun e=>cM.o e.symm) (.slice A6 (st.length) c6)))).cell i)
   have ER:=(ar.o.far (p:=⟨g4,0,none⟩) (fun e=>cM.o e.symm) (.slice A6 (st.length) c6)).frozen;clear cr iU;go_simp;refine aU hK (((((nK.o.set (p:=⟨g4,0,none⟩) (.inl rfl) _).set (p:=⟨g5,0,none⟩) (.inr rfl) _).set (p:=⟨g5,1,none⟩) (.inr rfl) _).set (p:=⟨g5,2,none⟩) (.inr rfl) _).set (p:=⟨g5,3,none⟩) (.inr rfl) _) (fun hHeld=>?_);clear hK K;refine cz ?_;clear hHeld;go_wp2_with fail;exact nP HG.o H4.o H5.o cM.o av.o ar.o Cm.o nJ.o (by rw[kD]) rfl rfl rfl
  ·have hun:=yj.o.un rfl;dsimp only at hun;rw[iJ.o] at hun;have hil:=Lh hun;rw[dZ] at hil;have ES:=G7 c.name dA c.ag.length dc c.aq ix xA xc w6 eY.o dI.o.aq (by have:=dI.o.nx;omega);rw[yc hun] at ES;have nJ:=aa (show dX (N+1) (st.set P ⟨c.name,c.ag,gD c.aq (bV (c.aq.map Ix.name) ix)⟩) from Bk (q:=⟨8,co,ix,pa,un,kv,lv,hv,dv,n⟩) (n:=0) (ag:=[]) cP.o HR.o.fit HR.o.doc (by
    show GQ st ⟨8,co,ix,pa,un,kv,lv,hv,dv,n⟩=_;unfold GQ;dsimp only;rw[ai (by rw[HF.o];decide),iJ.o,ai (by rw[hun];decide),wI.o]))
   obtain⟨I,hI⟩:∃p,bV (c.aq.map Ix.name) ix=p:=⟨_,rfl⟩;rw[hI] at ES hil nJ;have B_:=aa ES;have Sv:=aa hil;have hbc:=aS.o.cell;have q0:_=some (Value.int .i64 8):=au.o.cell 0;have q2:_=some (Value.string ix):=au.o.cell 2;clear hun hI ES hil;go_wp2_with fail;clear q0 q2 hbc;refine B_.o.mono ?_;rintro e w7 ⟨rfl,hg⟩;have oQ:=aa (show w.heap.size≤w5.heap.size from by have:=aao.o;omega);have fV:=aa (show w.heap.size<w5.heap.size from by have:=aao.o;omega);have u_:=aa (show Grow w6 w7 from hg);replace HG:=aa (HG.o.trans hg);replace az:=aa (az.o.grow hg);replace au:=aa (au.o.grow hg);replace av:=aa (av.o.grow hg);replace ar:=aa (ar.o.grow hg);replace aS:=aa (aS.o.grow hg);replace eY:=aa (eY.o.grow hg);clear hg;have hil:=Sv.o;have hnx:=dI.o.nx
   have uX:=ML.o;obtain⟨q,hq⟩:∃q,I+1=q:=⟨_,rfl⟩;have EB:((I:Int)+1)=(q:Int):=by omega
   have EC:IntKind.i64.wrap (q:Int)=(q:Int):=by rw[lJ];omega
   have hi0:(0:Int)≤(I:Int):=by omega
   have hi1:(I:Int)≤(c.aq.length:Int):=by omega
   have hi2:(I:Int)≤(xc:Int):=by omega
   have hq0:(0:Int)≤(q:Int):=by omega
   have hq1:(q:Int)≤(c.aq.length:Int):=by omega
   have hq2:(q:Int)≤(xc:Int):=by omega
   have hbc:=aS.o.cell;have HQ:=aa hq;clear hq;have hsh:=Zl (A:=xA) (i:=I) (by omega) uX;go_upto_region 63 with (at_builtin;refine BM (w0:=w7) (.tmp 279) (.tmp 283) 46 64 3 40 _ zP IP rfl rfl rfl (Zk eY.o I xc (by omega)) (by omega) (by simp only[maxLen];omega) (ah _) ?_;intro A7 c7 w8 fM b_);clear hsh;have pj:=aa fM;have aX:=aa b_;have iy:=aa (eX (fk b_.below (ay _) (ay _) b_.size) eY.o);clear hbc;have hbc:=(aS.o.grow b_).cell;clear fM b_;obtain⟨AZ,hsl,hsrc⟩:=Zm (A:=xA) (n:=c.aq.length) (cap:=xc) (i:=q) (by omega) uX;have jk:=aa hsrc;clear hsrc
   go_upto_region 64 with (at_builtin;refine sS (w0:=w7) (.tmp 285) (.tmp 290) 46 64 3 40 _ zP IP rfl rfl pj.o rfl (jk.o _ _ _ iy.o) (by omega) (by simp only[maxLen];omega) aX.o ?_;intro A8 c8 w9 cN cY;have hbc:=(aS.o.grow cY).cell;have uI:=(aS.o.grow cY).frozen);clear hsl;have hq:=HQ.o;subst hq;have gh:=(dU (S:=fun x=>x=gc) w9).set (p:=⟨gc,2,none⟩) rfl (.slice A8 (I+(c.aq.length-(I+1))) c8);have lq:=aa (show Blk (w9.setCell ⟨gc,2,none⟩ (.slice A8 (I+(c.aq.length-(I+1))) c8)) gc 48 #[.string c.name,.slice dA c.ag.length dc,.slice A8 (I+(c.aq.length-(I+1))) c8] from (aS.o.grow cY).bf 2 (.slice A8 (I+(c.aq.length-(I+1))) c8));have ail:=aS.o.lt;have kT:=gF cN gh (fun g hg e=>by
    have:=(bO cN g (by rw[bH];exact hg)).1;omega)
   have hlen:I+(c.aq.length-(I+1))=(gD c.aq I).length:=by
    rw[gD,bG,dS,iM];omega
   have HX8:=aa (show kK (w9.setCell ⟨gc,2,none⟩ (.slice A8 (I+(c.aq.length-(I+1))) c8)) A8 (gD c.aq I) from by
    unfold kK;rw[← hlen,show fU (gD c.aq I)=fU (c.aq.take I)++fU (c.aq.drop (I+1)) from by simp[gD,fU]];exact eX km (lg (S:=fun _=>False) kT (fun _ _ h=>h)))
   have HC8:=aa (show (gD c.aq I).length≤c8 from by rw[← hlen];exact(nr kT).1);have bP:=((aap.o.trans u_.o).trans cY).setCell (p:=⟨gc,2,none⟩) (by dsimp only;have:=dh.o;omega) (.slice A8 (I+(c.aq.length-(I+1))) c8);have HD8:=aa (aij.o.grow bP);replace HG:=aa ((HG.o.trans cY).setCell (p:=⟨gc,2,none⟩) (by dsimp only;have:=dh.o;have:=oQ.o;omega) (.slice A8 (I+(c.aq.length-(I+1))) c8));replace az:=aa ((az.o.grow cY).far (p:=⟨gc,2,none⟩) (fun e=>by dsimp only at e;have:=dh.o;have:=fV.o;omega) (.slice A8 (I+(c.aq.length-(I+1))) c8));replace av:=aa ((av.o.grow cY).far (p:=⟨gc,2,none⟩) (fun e=>uZ.o.1 e.symm) (.slice A8 (I+(c.aq.length-(I+1))) c8))
   replace ar:=aa ((ar.o.grow cY).far (p:=⟨gc,2,none⟩) (fun e=>uZ.o.2 e.symm) (.slice A8 (I+(c.aq.length-(I+1))) c8));clear gh cN kT ail cY bP hbc uI aS;generalize w9.setCell ⟨gc,2,none⟩ (.slice A8 (I+(c.aq.length-(I+1))) c8)=nI at lq HX8 HD8 HG az av ar ⊢
   try simp only[gf] at hlen lq ⊢
   rw[hlen] at lq ⊢;clear hlen EB EC hq0 hq1 hq2
   try clear amr hcq
   have hbc:=lq.o.cell;have hbs:=az.o.cell;go_wp2_with fail;refine(Mc st (some ⟨bk,o,none⟩) cap P ⟨c.name,dA,c.ag.length,dc,A8,(gD c.aq I).length,c8⟩ ⟨c.name,c.ag,gD c.aq I⟩ nI (HST.o.grow HG.o) ⟨rfl,rfl,rfl,HC8.o,HD8.o,HX8.o⟩ lZ.o (by have:=cP.o.n;omega)).mono ?_;rintro e yg ⟨A6,c6,rfl,bl,hg⟩;replace HG:=aa (HG.o.trans hg);replace av:=aa (av.o.grow hg);replace ar:=aa (ar.o.grow hg);have Cm:=aa bl;clear hg bl hbc hbs;rw[kD];have hb4:=av.o.cell;have iz:=av.o.frozen;have cr:∀i,yg.cell? ⟨g5,i,none⟩=(#[.int .i64 0,.int .i64 0,.slice none 0 0,.int .i64 0]:Array Value)[i]?:=ar.o.cell;have iU:=ar.o.frozen;have yl:=cM.o;have nT:=fun e=>cM.o (lK e)
   go_wp2_with fail;exact nP HG.o H4.o H5.o cM.o av.o ar.o Cm.o nJ.o (by rw[kD]) rfl rfl rfl
  ·have q0:_=some (Value.int .i64 9):=au.o.cell 0;have q2:_=some (Value.string ix):=au.o.cell 2;have zL:_=some (Value.int .i64 cl.k):=au.o.cell 10;have Iy:_=some (Value.int .u64 cl.n):=au.o.cell 11;have Iz:_=some (Value.slice cl.aB cl.nB cl.cB):=au.o.cell 12;have IA:_=some (Value.slice cl.aL cl.nL cl.cL):=au.o.cell 13;have IB:_=some (Value.slice cl.aF cl.nF cl.cF):=au.o.cell 14;have Ey:_=some (Value.int .i64 ch.k):=au.o.cell 15;have IC:_=some (Value.int .u64 ch.n):=au.o.cell 16;have ID:_=some (Value.slice ch.aB ch.nB ch.cB):=au.o.cell 17;have IE:_=some (Value.slice ch.aL ch.nL ch.cL):=au.o.cell 18;have IG:_=some (Value.slice ch.aF ch.nF ch.cF):=au.o.cell 19;have hbc:=aS.o.cell;have hfi:=yj.o.fi rfl;dsimp only at hfi;rw[iJ.o] at hfi
   have HRG:=aa (af8 c.name ix c.ag dA xA dc xc c.aq lv hv cl ch w6 dD.o dI.o.ag (by have:=dI.o.nd;have:=HN.o;omega) eY.o dI.o.aq dI.o.nx dI.o.path hfi.1 (HL.o.grow HG.o) (HH.o.grow HG.o) hfi.2.1 hfi.2.2);clear hfi;go_wp2_with fail;clear q0 q2 zL Iy Iz IA IB Ey IC ID IE IG hbc;refine HRG.o.mono ?_;rintro e w7 ⟨A1,c1,hs,rfl,qQ,hle,hcap,hg⟩;have qR:=aa qQ;have wL:=aa hle;replace HG:=aa (HG.o.trans hg);replace az:=aa (az.o.grow hg);replace au:=aa (au.o.grow hg);replace av:=aa (av.o.grow hg);replace ar:=aa (ar.o.grow hg);replace aS:=aa (aS.o.grow hg);clear qQ hle hg HRG;go_upto_region 69 with fail;have Sw:=aa (aD w7 31 #[.int .i64 0,.int .i64 0,.slice none 0 0,.int .i64 0])
   have aim:=((ah w7).alloc (.cells #[.int .i64 0,.int .i64 0,.slice none 0 0,.int .i64 0] 31)).size;have MP:(w7.alloc (.cells #[.int .i64 0,.int .i64 0,.slice none 0 0,.int .i64 0] 31)).heap.size=w7.heap.size+1:=by simp
   have aas:=aa ((ah w7).alloc (.cells #[.int .i64 0,.int .i64 0,.slice none 0 0,.int .i64 0] 31));obtain⟨eQ,Sy⟩:∃g,w7.heap.size=g:=⟨_,rfl⟩;rw[Sy] at Sw MP ⊢;generalize w7.alloc (.cells #[.int .i64 0,.int .i64 0,.slice none 0 0,.int .i64 0] 31)=wl at Sw aas MP ⊢;have HSZ:=aa MP;have yn:=aa Sy;have hl4:=av.o.lt;have rE:=ar.o.lt;have hls:=az.o.lt;have Cn:=aa (show (eQ≠g4∧eQ≠g5)∧eQ≠w.heap.size by omega);have jB:=aa Cn.o.1;clear aim MP Sy hl4 rE hls;have aat:=aa (show w.heap.size≤eQ from by have:=HG.o.size;have:=yn.o;omega)
   go_loopg [30] (hs.length+1) (fun gk i wr=>∃(m:Nat) (Ad:Option Addr) (cd:Nat) (xs:List Value),m≤hs.length∧gk+m=hs.length+1∧i=.int .i64 m∧Blk wr eQ 31 (cO 0 0 Ad m cd 0)∧wr.ownsRow (eQ+1) 27 5 (.slice Ad m cd) m xs∧Grow w7 wr);exact⟨0,none,0,[],ba _,rfl,rfl,Sw.o,iY _ _ _ _,aas.o⟩;obtain⟨m,Ad,cd,xs,hm,kW,rfl,aau,hown,hgr⟩:=hrel;obtain⟨gk',rfl⟩:=bS gk (by omega);have lY:=aa aau;have HOW:=aa hown;have aX:=aa hgr;have HLEN:=aa (show hs.length≤1000000 from by have:=wL.o;have:=dI.o.nd;have:=HN.o;omega);replace HG:=aa (HG.o.trans hgr);replace az:=aa (az.o.grow hgr);replace au:=aa (au.o.grow hgr);replace av:=aa (av.o.grow hgr);replace ar:=aa (ar.o.grow hgr);replace aS:=aa (aS.o.grow hgr)
   have Ma:_=some (Value.int .i64 n):=au.o.cell 25;have qQ:Reads (bK wr 0 wr.heap.size) 7 A1 hs.length (jR hs):=eX (fk hgr.below (ay _) (ay _) hgr.size) qR.o;have hsl:eQ+1≤wr.heap.size:=by have:=lY.o.lt;omega
   have Df:=aa hsl;clear aau hown hgr hsl;by_cases jn:m<hs.length
   ·by_cases hmn:(m:Int)<n
    ·obtain⟨br,rr,rfl,hbr,hcell⟩:=Hc.at_ qQ jn;obtain⟨h0,hh0⟩:∃h,hs[m]=h:=⟨_,rfl⟩;rw[hh0] at hcell;have jy:=aa (fun(W:World) (hg:Grow w7 W)=>show ∀i v,h0.cells.toList[i]?=some v→i<7→W.cell? ⟨br,rr+m*7+i,none⟩=some v from fun i v hv hi=>by
      obtain⟨b2,r2,e2,-,h2⟩:=Hc.at_ (eX (fk hg.below (ay _) (ay _) hg.size) qR.o) jn;injection e2 with e2;injection e2 with e3 e4;subst e3 e4;exact h2 i v (by rw[hh0];exact hv) hi)
     have hl0:=HLEN.o;clear hcell qQ;go_upto_region 71 with fail;refine dN ?_;refine dO (S:=fun w'=>Grow w7 w') (by kernel_rfl) (aX.o.trans (ah _).drew) (fun hHeld=>?_);have aC:=aa (show Grow wr wr.drew from (ah _).drew);generalize wr.drew=W0 at aC hHeld ⊢;refine aJ 0 ?_
     try simp only[ak]
     refine aJ 2 ?_
     try simp only[ak]
     refine aJ 3 ?_
     try simp only[ak]
     refine aJ 4 ?_
     try simp only[ak]
     refine aJ 5 ?_
     try simp only[ak]
     refine aj 6 (hy:=bt fun w ax=>by have k2:=jy.o _ ax 2 _ rfl (by omega);have k3:=jy.o _ ax 3 _ rfl (by omega);have k4:=jy.o _ ax 4 _ rfl (by omega);have k5:=jy.o _ ax 5 _ rfl (by omega);have k6:=jy.o _ ax 6 _ rfl (by omega);clear ax;go_simp;try rfl) ?_;refine bZ [1,7] ?_;refine eK (fun K hK=>?_) (eK (fun K hK=>?_) bY)
     ·have gM:∀i,W0.cell? ⟨eQ,i,none⟩=(#[.int .i64 0,.int .i64 0,.slice Ad m cd,.int .i64 0]:Array Value)[i]?:=(lY.o.grow aC.o).cell;go_simp;clear gM;refine aU hK (aX.o.trans aC.o) (fun hHeld=>?_);clear hK K;refine aK 7 (fun K hK=>?_);go_simp;refine aU hK ((aX.o.trans aC.o).alloc _) (fun hHeld=>?_);clear hK K;refine aK 8 (fun K hK=>?_);refine Jc (eQ+1) (by rfl) (.tmp 321) (.tmp 327) 24 27 (by rfl) 5 88 _ jv oO rfl (by rfl) ((ki HOW.o aC.o).alloc _) (by rfl) (LV h0.d (aD W0 27 h0.d.cells)) (by omega) (by simp only[maxLen];omega) (bn Df.o ((aC.o.alloc _).size)) ?_;intro A8 c8 w8 cN cS;have gH:=aa (((lY.o.grow aC.o).alloc _).own cS (fun k hk=>by have:=(bO HOW.o k hk).1;omega))
      have ij:=aa ((((aX.o.trans aC.o).alloc _)).grown cS (fun k hk=>by have:=(bO HOW.o k hk).1;have:=yn.o;omega));have jo:=aa cN;clear cN cS;refine hK.out _ _ ij.o (fun hHeld=>?_);clear hK K
      try simp only[ak]
      refine aJ 9 ?_
      try simp only[ak]
      refine aK 10 (fun K hK=>?_);have gM:∀i,w8.cell? ⟨eQ,i,none⟩=(#[.int .i64 0,.int .i64 0,.slice Ad m cd,.int .i64 0]:Array Value)[i]?:=gH.o.cell;have jN:=gH.o.frozen;go_simp;clear gM jN;refine aU hK (ij.o.setCell (p:=⟨eQ,2,none⟩) (by dsimp only;have:=yn.o;omega) _) (fun hHeld=>?_);clear hK K;refine cz ?_;clear hHeld;go_wp2_with fail;go_roundg gk';refine⟨m+1,A8,c8,_,by omega,by omega,by go_num,gH.o.bf 2 _,gF jo.o ((dU (S:=fun x=>x=eQ) w8).set (p:=⟨eQ,2,none⟩) rfl _) (fun g hg e=>?_),ij.o.setCell (p:=⟨eQ,2,none⟩) (by dsimp only;have:=yn.o;omega) _⟩;have:=(bO jo.o g (by rw[bH];exact hg)).1;omega;omega
     go_simp;refine aU hK ((aX.o.trans aC.o).alloc _) (fun hHeld=>?_);clear hK K;refine aK 1 (fun K hK=>?_);have gM:∀i,(W0.alloc (.cells h0.d.cells 27)).cell? ⟨eQ,i,none⟩=(#[.int .i64 0,.int .i64 0,.slice Ad m cd,.int .i64 0]:Array Value)[i]?:=((lY.o.grow aC.o).alloc _).cell;go_simp;clear gM;refine aU hK ((aX.o.trans aC.o).alloc _) (fun hHeld=>?_);clear hK K;refine aK 8 (fun K hK=>?_);refine Jc (eQ+1) (by rfl) (.tmp 321) (.tmp 327) 24 27 (by rfl) 5 88 _ jv oO rfl (by rfl) ((ki HOW.o aC.o).alloc _) (by rfl) (LV h0.d (aD W0 27 h0.d.cells)) (by omega) (by simp only[maxLen];omega) (bn Df.o ((aC.o.alloc _).size)) ?_;intro A8 c8 w8 cN cS;have gH:=aa (((lY.o.grow aC.o).alloc _).own cS (fun k hk=>by have:=(bO HOW.o k hk).1;omega))
     have ij:=aa ((((aX.o.trans aC.o).alloc _)).grown cS (fun k hk=>by have:=(bO HOW.o k hk).1;have:=yn.o;omega));have jo:=aa cN;clear cN cS;refine hK.out _ _ ij.o (fun hHeld=>?_);clear hK K
     try simp only[ak]
     refine aJ 9 ?_
     try simp only[ak]
     refine aK 10 (fun K hK=>?_);have gM:∀i,w8.cell? ⟨eQ,i,none⟩=(#[.int .i64 0,.int .i64 0,.slice Ad m cd,.int .i64 0]:Array Value)[i]?:=gH.o.cell;have jN:=gH.o.frozen;go_simp;clear gM jN;refine aU hK (ij.o.setCell (p:=⟨eQ,2,none⟩) (by dsimp only;have:=yn.o;omega) _) (fun hHeld=>?_);clear hK K;refine cz ?_;clear hHeld;go_wp2_with fail;go_roundg gk';refine⟨m+1,A8,c8,_,by omega,by omega,by go_num,gH.o.bf 2 _,gF jo.o ((dU (S:=fun x=>x=eQ) w8).set (p:=⟨eQ,2,none⟩) rfl _) (fun g hg e=>?_),ij.o.setCell (p:=⟨eQ,2,none⟩) (by dsimp only;have:=yn.o;omega) _⟩;have:=(bO jo.o g (by rw[bH];exact hg)).1;omega;omega
    have gM:∀i,wr.cell? ⟨eQ,i,none⟩=(#[.int .i64 0,.int .i64 0,.slice Ad m cd,.int .i64 0]:Array Value)[i]?:=lY.o.cell;have jN:=lY.o.frozen;clear qQ;go_upto_region 73 with fail;have gN:=aa (show Blk (wr.setCell ⟨eQ,1,none⟩ (.int .i64 m)) eQ 31 (cO 0 m Ad m cd 0) from lY.o.bf 1 _);replace HG:=aa (HG.o.setCell (p:=⟨eQ,1,none⟩) (by dsimp only;have:=yn.o;have:=aat.o;omega) (.int .i64 m));replace az:=aa (az.o.far (p:=⟨eQ,1,none⟩) (fun e=>Cn.o.2 e.symm) (.int .i64 m));replace av:=aa (av.o.far (p:=⟨eQ,1,none⟩) (fun e=>Cn.o.1.1 e.symm) (.int .i64 m));replace ar:=aa (ar.o.far (p:=⟨eQ,1,none⟩) (fun e=>Cn.o.1.2 e.symm) (.int .i64 m));generalize wr.setCell ⟨eQ,1,none⟩ (.int .i64 m)=w8 at gN HG az av ar ⊢;clear gM jN Ma;go_upto_region 73 with fail
    refine dN ?_;refine dO (S:=fun w'=>w'.cell? ⟨w.heap.size,0,none⟩=some (.slice (some ⟨bk,o,none⟩) st.length cap)∧w'.cell? ⟨eQ,0,none⟩=some (.int .i64 0)∧w'.cell? ⟨eQ,1,none⟩=some (.int .i64 m)∧w'.cell? ⟨eQ,2,none⟩=some (.slice Ad m cd)∧w'.cell? ⟨eQ,3,none⟩=some (.int .i64 0)) (by kernel_rfl) (⟨(az.o.grow (ah _).drew).cell 0,(gN.o.grow (ah _).drew).cell 0,(gN.o.grow (ah _).drew).cell 1,(gN.o.grow (ah _).drew).cell 2,(gN.o.grow (ah _).drew).cell 3⟩) (fun hHeld=>?_);have aC:=aa (show Grow w8 w8.drew from (ah _).drew);generalize w8.drew=W0 at aC hHeld ⊢;replace HG:=aa (HG.o.trans aC.o);replace av:=aa (av.o.grow aC.o);replace ar:=aa (ar.o.grow aC.o);replace az:=aa (az.o.grow aC.o)
    replace gN:=aa (gN.o.grow aC.o);have hb4:=av.o.cell;have iz:=av.o.frozen;have cr:∀i,W0.cell? ⟨g5,i,none⟩=(#[.int .i64 0,.int .i64 0,.slice none 0 0,.int .i64 0]:Array Value)[i]?:=ar.o.cell;have iU:=ar.o.frozen;have R5:=aa (fun(g:Nat) (T:TypeId) (cs:Array Value) h1 h2 h3=>(IX (A':=(some ⟨bk,o,none⟩)) (l':=st.length) (c':=cap) (e':=0) (n':=(m:Int)) (B':=Ad) (m':=m) (d':=cd) (k':=0) HG.o H4.o H5.o cM.o av.o ar.o).2.2.2.2 (g:=g) (T:=T) (cs:=cs) h1 h2 h3);refine aj 0 (hy:=bt fun w ax=>by obtain⟨s0,-,-,-,-⟩:=ax;go_simp;try rfl) ?_;refine aj 1 (hy:=bt fun w ax=>by obtain⟨-,s1,s2,s3,s4⟩:=ax;go_simp;try rfl) ?_;refine aK 2 (fun K hK=>?_);go_simp
    refine aU hK (⟨(az.o.far (p:=⟨g4,0,none⟩) kA.o.1 _).cell 0,(gN.o.far (p:=⟨g4,0,none⟩) jB.o.1 _).cell 0,(gN.o.far (p:=⟨g4,0,none⟩) jB.o.1 _).cell 1,(gN.o.far (p:=⟨g4,0,none⟩) jB.o.1 _).cell 2,(gN.o.far (p:=⟨g4,0,none⟩) jB.o.1 _).cell 3⟩) (fun hHeld=>?_);clear hK K;refine aK 3 (fun K hK=>?_);have EP:=fun i=>((((ar.o.far (p:=⟨g4,0,none⟩) (fun e=>cM.o e.symm) (.slice (some ⟨bk,o,none⟩) (st.length) cap)))).cell i)
    have ER:=(ar.o.far (p:=⟨g4,0,none⟩) (fun e=>cM.o e.symm) (.slice (some ⟨bk,o,none⟩) (st.length) cap)).frozen;clear cr iU;go_simp;refine aU hK (⟨(R5.o _ _ _ az.o kA.o.1 kA.o.2).cell 0,(R5.o _ _ _ gN.o jB.o.1 jB.o.2).cell 0,(R5.o _ _ _ gN.o jB.o.1 jB.o.2).cell 1,(R5.o _ _ _ gN.o jB.o.1 jB.o.2).cell 2,(R5.o _ _ _ gN.o jB.o.1 jB.o.2).cell 3⟩) (fun hHeld=>?_);clear hK K;refine cz ?_;clear hHeld;go_wp2_with fail;exact nP HG.o H4.o H5.o cM.o av.o ar.o (HST.o.grow HG.o) (cP.o.mono (fD _)) (rfl) rfl rfl rfl
   have gM:∀i,wr.cell? ⟨eQ,i,none⟩=(#[.int .i64 0,.int .i64 0,.slice Ad m cd,.int .i64 0]:Array Value)[i]?:=lY.o.cell;have jN:=lY.o.frozen;clear qQ;go_upto_region 73 with fail;have gN:=aa (show Blk (wr.setCell ⟨eQ,1,none⟩ (.int .i64 m)) eQ 31 (cO 0 m Ad m cd 0) from lY.o.bf 1 _);replace HG:=aa (HG.o.setCell (p:=⟨eQ,1,none⟩) (by dsimp only;have:=yn.o;have:=aat.o;omega) (.int .i64 m));replace az:=aa (az.o.far (p:=⟨eQ,1,none⟩) (fun e=>Cn.o.2 e.symm) (.int .i64 m));replace av:=aa (av.o.far (p:=⟨eQ,1,none⟩) (fun e=>Cn.o.1.1 e.symm) (.int .i64 m));replace ar:=aa (ar.o.far (p:=⟨eQ,1,none⟩) (fun e=>Cn.o.1.2 e.symm) (.int .i64 m));generalize wr.setCell ⟨eQ,1,none⟩ (.int .i64 m)=w8 at gN HG az av ar ⊢;clear gM jN Ma;go_upto_region 73 with fail
   refine dN ?_;refine dO (S:=fun w'=>w'.cell? ⟨w.heap.size,0,none⟩=some (.slice (some ⟨bk,o,none⟩) st.length cap)∧w'.cell? ⟨eQ,0,none⟩=some (.int .i64 0)∧w'.cell? ⟨eQ,1,none⟩=some (.int .i64 m)∧w'.cell? ⟨eQ,2,none⟩=some (.slice Ad m cd)∧w'.cell? ⟨eQ,3,none⟩=some (.int .i64 0)) (by kernel_rfl) (⟨(az.o.grow (ah _).drew).cell 0,(gN.o.grow (ah _).drew).cell 0,(gN.o.grow (ah _).drew).cell 1,(gN.o.grow (ah _).drew).cell 2,(gN.o.grow (ah _).drew).cell 3⟩) (fun hHeld=>?_);have aC:=aa (show Grow w8 w8.drew from (ah _).drew);generalize w8.drew=W0 at aC hHeld ⊢;replace HG:=aa (HG.o.trans aC.o);replace av:=aa (av.o.grow aC.o);replace ar:=aa (ar.o.grow aC.o);replace az:=aa (az.o.grow aC.o)
   replace gN:=aa (gN.o.grow aC.o);have hb4:=av.o.cell;have iz:=av.o.frozen;have cr:∀i,W0.cell? ⟨g5,i,none⟩=(#[.int .i64 0,.int .i64 0,.slice none 0 0,.int .i64 0]:Array Value)[i]?:=ar.o.cell;have iU:=ar.o.frozen;have R5:=aa (fun(g:Nat) (T:TypeId) (cs:Array Value) h1 h2 h3=>(IX (A':=(some ⟨bk,o,none⟩)) (l':=st.length) (c':=cap) (e':=0) (n':=(m:Int)) (B':=Ad) (m':=m) (d':=cd) (k':=0) HG.o H4.o H5.o cM.o av.o ar.o).2.2.2.2 (g:=g) (T:=T) (cs:=cs) h1 h2 h3);refine aj 0 (hy:=bt fun w ax=>by obtain⟨s0,-,-,-,-⟩:=ax;go_simp;try rfl) ?_;refine aj 1 (hy:=bt fun w ax=>by obtain⟨-,s1,s2,s3,s4⟩:=ax;go_simp;try rfl) ?_;refine aK 2 (fun K hK=>?_);go_simp
   refine aU hK (⟨(az.o.far (p:=⟨g4,0,none⟩) kA.o.1 _).cell 0,(gN.o.far (p:=⟨g4,0,none⟩) jB.o.1 _).cell 0,(gN.o.far (p:=⟨g4,0,none⟩) jB.o.1 _).cell 1,(gN.o.far (p:=⟨g4,0,none⟩) jB.o.1 _).cell 2,(gN.o.far (p:=⟨g4,0,none⟩) jB.o.1 _).cell 3⟩) (fun hHeld=>?_);clear hK K;refine aK 3 (fun K hK=>?_);have EP:=fun i=>((((ar.o.far (p:=⟨g4,0,none⟩) (fun e=>cM.o e.symm) (.slice (some ⟨bk,o,none⟩) (st.length) cap)))).cell i)
   have ER:=(ar.o.far (p:=⟨g4,0,none⟩) (fun e=>cM.o e.symm) (.slice (some ⟨bk,o,none⟩) (st.length) cap)).frozen;clear cr iU;go_simp;refine aU hK (⟨(R5.o _ _ _ az.o kA.o.1 kA.o.2).cell 0,(R5.o _ _ _ gN.o jB.o.1 jB.o.2).cell 0,(R5.o _ _ _ gN.o jB.o.1 jB.o.2).cell 1,(R5.o _ _ _ gN.o jB.o.1 jB.o.2).cell 2,(R5.o _ _ _ gN.o jB.o.1 jB.o.2).cell 3⟩) (fun hHeld=>?_);clear hK K;refine cz ?_;clear hHeld;go_wp2_with fail;exact nP HG.o H4.o H5.o cM.o av.o ar.o (HST.o.grow HG.o) (cP.o.mono (fD _)) (rfl) rfl rfl rfl
  have q0:_=some (Value.int .i64 10):=au.o.cell 0;go_upto_region 74 with fail;refine dN ?_;refine dO (S:=fun w'=>w'.cell? ⟨w.heap.size,0,none⟩=some (.slice (some ⟨bk,o,none⟩) st.length cap)∧w'.cell? ⟨gc,1,none⟩=some (.slice dA c.ag.length dc)) (by kernel_rfl) (⟨(az.o.grow (ah _).drew).cell 0,(aS.o.grow (ah _).drew).cell 1⟩) (fun hHeld=>?_);have aC:=aa (show Grow w6 w6.drew from (ah _).drew);clear q0;generalize w6.drew=W0 at aC hHeld ⊢;replace HG:=aa (HG.o.trans aC.o);replace av:=aa (av.o.grow aC.o);replace ar:=aa (ar.o.grow aC.o);replace az:=aa (az.o.grow aC.o);replace aS:=aa (aS.o.grow aC.o);have hb4:=av.o.cell;have iz:=av.o.frozen
  have cr:∀i,W0.cell? ⟨g5,i,none⟩=(#[.int .i64 0,.int .i64 0,.slice none 0 0,.int .i64 0]:Array Value)[i]?:=ar.o.cell;have iU:=ar.o.frozen;have R5:=aa (fun(g:Nat) (T:TypeId) (cs:Array Value) h1 h2 h3=>(IX (A':=(some ⟨bk,o,none⟩)) (l':=st.length) (c':=cap) (e':=0) (n':=(c.ag.length:Int)) (B':=none) (m':=0) (d':=0) (k':=0) HG.o H4.o H5.o cM.o av.o ar.o).2.2.2.2 (g:=g) (T:=T) (cs:=cs) h1 h2 h3);refine aj 0 (hy:=bt fun w ax=>by obtain⟨s0,-⟩:=ax;go_simp;try rfl) ?_;refine aJ 1 ?_
  try simp only[ak]
  refine aj 2 (hy:=bt fun w ax=>by obtain⟨-,s1⟩:=ax;go_simp;try rfl) ?_;refine aJ 3 ?_
  try simp only[ak]
  refine aJ 4 ?_
  try simp only[ak]
  refine aK 5 (fun K hK=>?_);go_simp;refine aU hK (⟨(az.o.far (p:=⟨g4,0,none⟩) kA.o.1 _).cell 0,(aS.o.far (p:=⟨g4,0,none⟩) uZ.o.1 _).cell 1⟩) (fun hHeld=>?_);clear hK K;refine aK 6 (fun K hK=>?_);have EP:=fun i=>((((ar.o.far (p:=⟨g4,0,none⟩) (fun e=>cM.o e.symm) (.slice (some ⟨bk,o,none⟩) (st.length) cap)))).cell i)
  have ER:=(ar.o.far (p:=⟨g4,0,none⟩) (fun e=>cM.o e.symm) (.slice (some ⟨bk,o,none⟩) (st.length) cap)).frozen;clear cr iU;go_simp;refine aU hK (⟨(R5.o _ _ _ az.o kA.o.1 kA.o.2).cell 0,(R5.o _ _ _ aS.o uZ.o.1 uZ.o.2).cell 1⟩) (fun hHeld=>?_);clear hK K;refine cz ?_;clear hHeld;go_wp2_with fail;exact nP HG.o H4.o H5.o cM.o av.o ar.o (HST.o.grow HG.o) (cP.o.mono (fD _)) (rfl) rfl rfl rfl
 clear hx0;have hbs:=az.o.cell;go_wp2_with fail;refine(Cj.o x _).mono ?_;rintro e wf ⟨rfl,cm⟩;clear hbs;replace HG:=aa (HG.o.trans cm);replace az:=aa (az.o.grow cm);replace au:=aa (au.o.grow cm);replace av:=aa (av.o.grow cm);replace ar:=aa (ar.o.grow cm);clear cm;have hb4:=av.o.cell;have iz:=av.o.frozen;have cr:∀i,wf.cell? ⟨g5,i,none⟩=(#[.int .i64 0,.int .i64 0,.slice none 0 0,.int .i64 0]:Array Value)[i]?:=ar.o.cell;have iU:=ar.o.frozen;have yl:=cM.o;have nT:=fun e=>cM.o (lK e)
 go_wp2_with fail;exact nP HG.o H4.o H5.o cM.o av.o ar.o (HST.o.grow HG.o) (cP.o.mono (fD _)) (rfl) rfl rfl rfl
end
end Go.Proofs.YtndjopkdbdcmdaaGreatDoor
