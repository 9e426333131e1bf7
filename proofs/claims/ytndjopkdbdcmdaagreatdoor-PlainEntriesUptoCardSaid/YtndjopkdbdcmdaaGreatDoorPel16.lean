/- Part 16 of the proof of pentries_card. -/
import Derived.Test.YtndjopkdbdcmdaaGreatDoorPel15
set_option linter.unusedVariables false
set_option linter.unusedSimpArgs false
set_option maxRecDepth 100000
set_option maxHeartbeats 12800000
open Go.Proofs.Tryz
namespace Go.Proofs.YtndjopkdbdcmdaaGreatDoor
section
open Go.RowKit
theorem afw(nm:ByteArray)(ag:List V)(dA xA:Option Addr)(dc xn xc:Nat)(d:V)(cx:Cv)(w:World)(hd:InL w dA dc ag)(hok:∀d∈ag,eu d)(hr:eQ (iZ ag))(hl:ag.length≤1000000)(hx:In w d cx)(kV:eu d) :
 Calls prog 74 #[.agg #[.string nm,.slice dA ag.length dc,.slice xA xn xc],cx.agg] w fun e w'=>∃A c,e=.returned (.agg #[.string nm,.slice A (fN ag d).length c,.slice xA xn xc])∧InL w' A c (fN ag d)∧Grow w w':=by
 obtain⟨cs,hrow,oF⟩:=PZ hd;have iU:=aa hrow;have rP:=aa oF;have HX:=aa hx;have ju:=aa (show ag.length≤dc from by unfold InL In at hd;rw[IsV] at hd;exact hd.2.2.2.2.2.2.2.2.2.2.1);have HG:=aa (((ah w).alloc (.cells #[.string nm,.slice dA ag.length dc,.slice xA xn xc] 48)).alloc (.cells cx.cells 27) |>.alloc (.cells #[.string ⟨#[]⟩,.slice none 0 0,.slice none 0 0] 48));have aG:=aa (((aH w 48 #[.string nm,.slice dA ag.length dc,.slice xA xn xc]).alloc (.cells cx.cells 27)).alloc (.cells #[.string ⟨#[]⟩,.slice none 0 0,.slice none 0 0] 48));have aX:=aa ((df (w:=w.alloc (.cells #[.string nm,.slice dA ag.length dc,.slice xA xn xc] 48)) (g:=w.heap.size+1) (by simp) 27 cx.cells).alloc (.cells #[.string ⟨#[]⟩,.slice none 0 0,.slice none 0 0] 48))
 have au:=aa (df (w:=(w.alloc (.cells #[.string nm,.slice dA ag.length dc,.slice xA xn xc] 48)).alloc (.cells cx.cells 27)) (g:=w.heap.size+1+1) (by simp) 48 #[.string ⟨#[]⟩,.slice none 0 0,.slice none 0 0]);have HKEY:=aa (fun(W:World) (hg:Grow w W)=>DG d cx W kV.count kV.bytes (hx.grow hg));unfold t_ at HKEY;have mS:=aa (fun(W:World) (hg:Grow w W)=>GJ nm ag dA xA dc xn xc (bt d).1 W (hd.grow hg) hok hr hl);obtain⟨kS,qG⟩:∃s,(⟨(bt d).1.toArray⟩:ByteArray)=s:=⟨_,rfl⟩;rw[qG] at HKEY mS;have lS:fN ag d=if jg ag (bt d).1=true then ag.set (iM ag (bt d).1) d else cK ag (iM ag (bt d).1) d:=rfl;have Xk:=VB ag (bt d).1;have Bb:jg ag (bt d).1=true→iM ag (bt d).1<ag.length:=yS
 obtain⟨P,hP⟩:∃p,iM ag (bt d).1=p:=⟨_,rfl⟩;obtain⟨F,hF⟩:∃p,jg ag (bt d).1=p:=⟨_,rfl⟩;rw[hP] at mS lS Xk Bb;rw[hF] at mS lS Bb;have Bc:=aa lS;have HPF:=aa Bb;have ug:=aa Xk;clear hrow oF hd hok hr hx kV qG lS Bb hP hF;go_enter func74,ntmps74;go_upto_region 1 with fail;generalize ((w.alloc (.cells #[.string nm,.slice dA ag.length dc,.slice xA xn xc] 48)).alloc (.cells cx.cells 27)).alloc (.cells #[.string ⟨#[]⟩,.slice none 0 0,.slice none 0 0] 48)=W3 at HG aG aX au ⊢;refine dN ?_
 refine dO (S:=fun w'=>(∀i,w'.cell? ⟨w.heap.size,i,none⟩=(#[.string nm,.slice dA ag.length dc,.slice xA xn xc]:Array Value)[i]?)∧∀i,w'.cell? ⟨w.heap.size+1,i,none⟩=cx.cells[i]?) (by kernel_rfl) (⟨(aG.o.grow (ah _).drew).cell,(aX.o.grow (ah _).drew).cell⟩) (fun hHeld=>?_);have az:=aa (HG.o.trans (ah W3).drew);have fw:=aa (fun(W:World) (hg:Grow W3.drew W)=>show (∀i,W.cell? ⟨w.heap.size,i,none⟩=(#[.string nm,.slice dA ag.length dc,.slice xA xn xc]:Array Value)[i]?)∧∀i,W.cell? ⟨w.heap.size+1,i,none⟩=cx.cells[i]? from ⟨(aG.o.grow ((ah _).drew.trans hg)).cell,(aX.o.grow ((ah _).drew.trans hg)).cell⟩);replace aG:=aa (aG.o.grow (ah _).drew);replace aX:=aa (aX.o.grow (ah _).drew);replace au:=aa (au.o.grow (ah _).drew)
 generalize W3.drew=W0 at az fw hHeld aG aX au ⊢;refine gW 0 ?_;refine gW 1 ?_;refine aR 2 (fun K hK=>?_);have hC:=HKEY.o W0 az.o;go_simp;go_at_call 71;refine hC.mono ?_;rintro ee W4 ⟨rfl,hg4⟩;refine aV hK (fw.o _ hg4) (fun hHeld=>?_);clear hK K;refine aR 3 (fun K hK=>?_);have GU:=mS.o W4 (az.o.trans hg4);go_simp;go_at_call 70;refine GU.mono ?_;rintro ee W5 ⟨rfl,cr⟩;refine aV hK (fw.o _ (hg4.trans cr)) (fun hHeld=>?_);clear hK K;refine aj 4 ?_;refine aj 5 ?_;refine aj 6 ?_;refine aj 7 ?_;refine aj 8 ?_;refine cz ?_;clear hHeld hC GU;have bC:=aa (az.o.trans (hg4.trans cr));replace aG:=aa (aG.o.grow (hg4.trans cr));replace aX:=aa (aX.o.grow (hg4.trans cr));replace au:=aa (au.o.grow (hg4.trans cr))
 have gP:=aa (dW (eO bC.o.below (av _) (av _) bC.o.size) iU.o);have hb2:=aG.o.cell;have hi0:(0:Int)≤(P:Int):=by omega
 have hi1:(P:Int)≤(ag.length:Int):=by omega
 have hi2:(P:Int)≤(dc:Int):=by have:=ju.o;omega
 clear hg4 cr fw HKEY mS;have hsh:=WZ (A:=dA) (i:=P) ug.o ju.o;go_upto_region 4 with (at_builtin;refine A_ (w0:=W5) (.tmp 15) (.tmp 19) 24 27 5 88 _ lF ry rfl rfl rfl (WY gP.o P dc ug.o) (by omega) (by simp only[maxLen];omega) (ah _) ?_;intro A6 c6 w6 kB bU);clear hsh;have GD:=aa (aG.o.grow bU);have afx:=aa (aX.o.grow bU);have GF:=aa (au.o.grow bU);have rU:=aa kB;have bR:=aa bU;have hb3:=afx.o.cell;clear hb2 kB bU;go_upto_region 5 with (at_builtin;refine uf (w0:=W5) (.tmp 21) (.tmp 23) 24 27 5 88 _ lF ry rfl rfl (rU.o.alloc _) rfl (P5 cx (aH w6 27 cx.cells)) (by omega) (by simp only[maxLen];omega) (bR.o.alloc _) ?_;intro A7 c7 w7 fI bW);have oK:=aa fI;have aZ:=aa bW
 have afy:=((ah w6).alloc (.cells cx.cells 27)).size;clear hb3
 cases F with
 | true =>
  have hpl:=HPF.o rfl;obtain⟨q,hq⟩:∃q,P+1=q:=⟨_,rfl⟩;have DM:((P:Int)+1)=(q:Int):=by omega
  have DN:IntKind.i64.wrap (q:Int)=(q:Int):=by rw[cZ];omega
  have hq0:(0:Int)≤(q:Int):=by omega
  have hq1:(q:Int)≤(ag.length:Int):=by omega
  have hq2:(q:Int)≤(dc:Int):=by have:=ju.o;omega
  have GV:q≤ag.length:=by omega
  have hcap:=ju.o;have HQ:=aa hq;have rV:=aa (aG.o.grow aZ.o);have il:=aa (dW (eO aZ.o.below (av _) (av _) aZ.o.size) gP.o);have hb2:=rV.o.cell;clear hq;obtain⟨AZ,hsl,hsrc⟩:=P4 (A:=dA) (i:=q) GV hcap;have gz:=aa hsrc;clear hsrc;go_upto_region 8 with (at_builtin;refine uf (w0:=W5) (.tmp 28) (.tmp 32) 24 27 5 88 _ lF ry rfl rfl oK.o rfl (gz.o _ _ _ il.o) (by omega) (by simp only[maxLen];omega) aZ.o ?_;intro A8 c8 w8 cX cO;have kU:=(aG.o.grow cO).cell;have xG:=(aG.o.grow cO).frozen);clear hsl;have fV:=(eK (S:=fun x=>x=w.heap.size) w8).set (p:=⟨w.heap.size,1,none⟩) rfl (.slice A8 (P+1+(ag.length-q)) c8);have kW:=aa ((aG.o.grow cO).bg 1 (.slice A8 (P+1+(ag.length-q)) c8))
  have jH:=aa (fV.blk (au.o.grow cO) (by omega));have hbase:w.heap.size<W5.heap.size:=aG.o.lt;have kC:=gD cX fV (fun g hg e=>by
   have:=(bO cX g (by rw[cE];exact hg)).1;omega)
  have gG:=aa kC;have eN:=aa ((bC.o.trans cO).setCell (p:=⟨w.heap.size,1,none⟩) (av _) (.slice A8 (P+1+(ag.length-q)) c8));clear fV cX kC cO kU xG hb2
  try simp only[fF] at kW jH gG eN
  generalize w8.setCell ⟨w.heap.size,1,none⟩ _=w9 at kW jH gG eN ⊢;have hbc:=kW.o.cell;have hb4:=jH.o.cell;have h_:=jH.o.frozen;go_wp2_with fail;refine gK (KZ (cs:=#[.string nm,.slice A8 (P+1+(ag.length-q)) c8,.slice xA xn xc]) rfl rfl rfl ?_) rfl ?_
  ·exact((jH.o.bg 0 _).bg 1 _).bg 2 _
  have HK:=(((eK (S:=fun x=>x=w.heap.size+1+1) w9).set (p:=⟨w.heap.size+1+1,0,none⟩) rfl (.string nm)).set (p:=⟨w.heap.size+1+1,1,none⟩) rfl (.slice A8 (P+1+(ag.length-q)) c8)).set (p:=⟨w.heap.size+1+1,2,none⟩) rfl (.slice xA xn xc);have Fz:w.heap.size+1+1<W5.heap.size:=au.o.lt;have hown:=gD gG.o HK (fun g hg e=>by
   have:=(bO gG.o g (by rw[cE];exact hg)).1;omega)
  have bQ:=eN.o.below.trans (HK.below (B:=w.heap.size) eN.o.size (fun q hq=>by omega));have lS:fN ag d=ag.take P++d::ag.drop q:=by
   rw[Bc.o]
   first | rw[ar rfl] | rw[ar trivial]
   rw[M0,ar hpl,← HQ.o]
  have hlen:P+1+(ag.length-q)=(fN ag d).length:=by
   rw[lS,bD,aU,eD,iI];omega
  rw[lS] at hlen ⊢;exact⟨A8,c8,by rw[← hlen],W_ hown rP.o HX.o bQ hlen hl,bQ⟩
 | false =>
  obtain⟨q,hq⟩:∃q,P=q:=⟨_,rfl⟩;have DM:((P:Int))=(q:Int):=by omega
  have DN:IntKind.i64.wrap (q:Int)=(q:Int):=by rw[cZ];omega
  have hq0:(0:Int)≤(q:Int):=by omega
  have hq1:(q:Int)≤(ag.length:Int):=by omega
  have hq2:(q:Int)≤(dc:Int):=by have:=ju.o;omega
  have GV:q≤ag.length:=by omega
  have hcap:=ju.o;have HQ:=aa hq;have rV:=aa (aG.o.grow aZ.o);have il:=aa (dW (eO aZ.o.below (av _) (av _) aZ.o.size) gP.o);have hb2:=rV.o.cell;clear hq;obtain⟨AZ,hsl,hsrc⟩:=P4 (A:=dA) (i:=q) GV hcap;have gz:=aa hsrc;clear hsrc;go_upto_region 8 with (at_builtin;refine uf (w0:=W5) (.tmp 28) (.tmp 32) 24 27 5 88 _ lF ry rfl rfl oK.o rfl (gz.o _ _ _ il.o) (by omega) (by simp only[maxLen];omega) aZ.o ?_;intro A8 c8 w8 cX cO;have kU:=(aG.o.grow cO).cell;have xG:=(aG.o.grow cO).frozen);clear hsl;have fV:=(eK (S:=fun x=>x=w.heap.size) w8).set (p:=⟨w.heap.size,1,none⟩) rfl (.slice A8 (P+1+(ag.length-q)) c8);have kW:=aa ((aG.o.grow cO).bg 1 (.slice A8 (P+1+(ag.length-q)) c8))
  have jH:=aa (fV.blk (au.o.grow cO) (by omega));have hbase:w.heap.size<W5.heap.size:=aG.o.lt;have kC:=gD cX fV (fun g hg e=>by
   have:=(bO cX g (by rw[cE];exact hg)).1;omega)
  have gG:=aa kC;have eN:=aa ((bC.o.trans cO).setCell (p:=⟨w.heap.size,1,none⟩) (av _) (.slice A8 (P+1+(ag.length-q)) c8));clear fV cX kC cO kU xG hb2
  try simp only[fF] at kW jH gG eN
  generalize w8.setCell ⟨w.heap.size,1,none⟩ _=w9 at kW jH gG eN ⊢;have hbc:=kW.o.cell;have hb4:=jH.o.cell;have h_:=jH.o.frozen;go_wp2_with fail;refine gK (KZ (cs:=#[.string nm,.slice A8 (P+1+(ag.length-q)) c8,.slice xA xn xc]) rfl rfl rfl ?_) rfl ?_
  ·exact((jH.o.bg 0 _).bg 1 _).bg 2 _
  have HK:=(((eK (S:=fun x=>x=w.heap.size+1+1) w9).set (p:=⟨w.heap.size+1+1,0,none⟩) rfl (.string nm)).set (p:=⟨w.heap.size+1+1,1,none⟩) rfl (.slice A8 (P+1+(ag.length-q)) c8)).set (p:=⟨w.heap.size+1+1,2,none⟩) rfl (.slice xA xn xc);have Fz:w.heap.size+1+1<W5.heap.size:=au.o.lt;have hown:=gD gG.o HK (fun g hg e=>by
   have:=(bO gG.o g (by rw[cE];exact hg)).1;omega)
  have bQ:=eN.o.below.trans (HK.below (B:=w.heap.size) eN.o.size (fun q hq=>by omega));have lS:fN ag d=ag.take P++d::ag.drop q:=by
   rw[Bc.o]
   first | rw[ai (by decide),← HQ.o] | rw[← HQ.o]
   rfl
  have hlen:P+1+(ag.length-q)=(fN ag d).length:=by
   rw[lS,bD,aU,eD,iI];omega
  rw[lS] at hlen ⊢;exact⟨A8,c8,by rw[← hlen],W_ hown rP.o HX.o bQ hlen hl,bQ⟩
end
section
open Go.RowKit
theorem GW:(prog.info? 64).map (fun i=>(i.zero,i.size,i.bytes))=some (some (.agg #[.string ⟨#[]⟩,.string ⟨#[]⟩,.bool false]),3,40):=by kernel_rfl
theorem ze:prog.underlying 46=some (.slice 64):=by kernel_rfl
section
variable {w:World} {ad:Addr} {A:Option Addr} {n:Nat} {xs:List Ix}
theorem Xl(h:Reads (bE w 0 w.heap.size) 3 A n (gm xs))(i c:Nat)(hi:i≤n):Src prog 3 46 (.slice A i c) i (gm (xs.take i)) w:=by
 have hh:=ej (c:=c) ze (h.GN i hi) (fun u hu=>Dg xs u (yq hu));rwa [show (gm xs).take (i*3)=gm (xs.take i) from yR (fun e:Ix=>e.cells.toList) 3 (fun _=>rfl) xs i] at hh
theorem Xm{cap i:Nat}(h1:i≤n)(h2:n≤cap)(w:World):(Instr.sliceAt 46 (.slice A n cap) none (some (.int .i64 (i:Int))) none).run prog w=.ok (.slice A i cap) w:=by
 have k1:(0:Int)≤(i:Int):=by omega
 have k2:(i:Int)≤(n:Int):=by omega
 have k3:(i:Int)≤(cap:Int):=by omega
 rcases A with _ | a<;>go_simp
theorem Xn{cap i:Nat}(h1:i≤n)(h2:n≤cap):∃B,(∀w,(Instr.sliceAt 46 (.slice A n cap) (some (.int .i64 (i:Int))) none none).run prog w=.ok (.slice B (n-i) (cap-i)) w) ∧
 ∀(w:World) (c:Nat) (xs:List Ix),Reads (bE w 0 w.heap.size) 3 A n (gm xs)→Src prog 3 46 (.slice B (n-i) c) (n-i) (gm (xs.drop i)) w:=by
 have k1:(0:Int)≤(i:Int):=by omega
 have k2:(i:Int)≤(n:Int):=by omega
 have k3:(i:Int)≤(cap:Int):=by omega
 refine⟨if cap=i then A else A.map (·.add (i*3)),fun w=>by rcases A with _ | a<;>go_simp,fun w c xs h=>?_⟩;have hh:=ej (c:=c) ze (h.GP i cap h1 h2) (fun u hu=>Dg xs u (qY hu));rwa [show (gm xs).drop (i*3)=gm (xs.drop i) from tO (fun e:Ix=>e.cells.toList) 3 (fun _=>rfl) xs i] at hh
theorem afz{g:Nat}(c:Ix)(hb:Blk w g 64 c.cells):Src prog 3 46 (.slice (some ⟨g,0,none⟩) 1 1) 1 c.cells.toList w:=
 Src.ofSlice _ ze ⟨g,0,none⟩ 1 1 _ rfl (fun j u hu=>by
  rw[add_lit,dg,hb.cell j,← hu,pg]) (fun u hu=>by
  simp only[iw,wD,wE] at hu;rcases hu with rfl | rfl | rfl<;>rfl)
theorem afA{base c P:Nat}{x:Ix}(h:w.ownsRow base 64 3 (.slice A n c) n (gm (xs.take P)++x.cells.toList++gm (xs.drop P)))(hn:n=(cK xs P x).length):kq w A (cK xs P x)∧n≤c:=by
 refine⟨?_,(nH h).1⟩;have e:gm (cK xs P x)=gm (xs.take P)++x.cells.toList++gm (xs.drop P):=by simp[cK,gm]
 unfold kq;rw[← hn,e];exact dW jW (ku (S:=fun _=>False) h (fun _ _ h=>h))
end
theorem afB(nm:ByteArray)(dA xA:Option Addr)(dn dc:Nat)(xs:List Ix)(xc:Nat)(x:Ix)(w:World)(hx:kq w xA xs)(oh:xs.length≤xc)(hr:eQ (gF (xs.map Ix.name)))(hl:xs.length≤1000000) :
 Calls prog 76 #[.agg #[.string nm,.slice dA dn dc,.slice xA xs.length xc],.agg x.cells] w fun e w'=>∃A c,e=.returned (.agg #[.string nm,.slice dA dn dc,.slice A (cK xs (bX (xs.map Ix.name) x.name) x).length c])∧kq w' A (cK xs (bX (xs.map Ix.name) x.name) x)∧(cK xs (bX (xs.map Ix.name) x.name) x).length≤c∧Grow w w':=by
 have HX:=aa hx;have HR:=aa hr;have ju:=aa oh;have HL:=aa hl;have GX:=aa (show bX (xs.map Ix.name) x.name=eI (gF (xs.map Ix.name)) x.name.data.toList from (Gi _ _).trans (Gh hr));have hpl:=O6 (xs.map Ix.name) x.name;rw[cY] at hpl;obtain⟨P,hP⟩:∃P,bX (xs.map Ix.name) x.name=P:=⟨_,rfl⟩;rw[hP] at GX hpl ⊢;have ug:=aa hpl;have HG:=aa (((ah w).alloc (.cells #[.string nm,.slice dA dn dc,.slice xA xs.length xc] 48)).alloc (.cells x.cells 64) |>.alloc (.cells #[.string ⟨#[]⟩,.slice none 0 0,.slice none 0 0] 48));have aG:=aa (((aH w 48 #[.string nm,.slice dA dn dc,.slice xA xs.length xc]).alloc (.cells x.cells 64)).alloc (.cells #[.string ⟨#[]⟩,.slice none 0 0,.slice none 0 0] 48))
 have aX:=aa ((df (w:=w.alloc (.cells #[.string nm,.slice dA dn dc,.slice xA xs.length xc] 48)) (g:=w.heap.size+1) (by simp) 64 x.cells).alloc (.cells #[.string ⟨#[]⟩,.slice none 0 0,.slice none 0 0] 48));have au:=aa (df (w:=(w.alloc (.cells #[.string nm,.slice dA dn dc,.slice xA xs.length xc] 48)).alloc (.cells x.cells 64)) (g:=w.heap.size+1+1) (by simp) 48 #[.string ⟨#[]⟩,.slice none 0 0,.slice none 0 0]);obtain⟨xn,DR⟩:∃s,x.name=s:=⟨_,rfl⟩;have K4:=aa DR;clear hx hr oh hl hP hpl DR;go_enter func76,ntmps76;go_wp2_with fail;generalize ((w.alloc (.cells #[.string nm,.slice dA dn dc,.slice xA xs.length xc] 48)).alloc (.cells x.cells 64)).alloc (.cells #[.string ⟨#[]⟩,.slice none 0 0,.slice none 0 0] 48)=w3 at HG aG aX au ⊢;have hb2:=aG.o.cell;clear hb2
 go_loopg [5,6] (xs.length+1) (fun gk n i wr=>∃j:Nat,j≤xs.length∧gk+j=xs.length+1∧i=.int .i64 j∧n=.int .i64 (eI ((gF (xs.map Ix.name)).take j) x.name.data.toList:Nat)∧Grow w3 wr);exact⟨0,aS _,rfl,rfl,by simp[eI],ah _⟩;obtain⟨j,hj,hg,rfl,rfl,hgr⟩:=hrel;obtain⟨gk',rfl⟩:=bP gk (by omega);have hl0:=HL.o;have aO:=aa hgr;obtain⟨N,hN⟩:∃N,eI ((gF (xs.map Ix.name)).take j) x.name.data.toList=N:=⟨_,rfl⟩;rw[hN];have kA:=aa hN;have hb2:=(aG.o.grow hgr).cell;have hb3:=(aX.o.grow hgr).cell;clear hN;by_cases hlt:j<xs.length
 ·obtain⟨bk,o,rfl,hbk,h0,-,-⟩:=kq.rS (kq.grow HX.o (HG.o.trans hgr)) j hlt;have ue:=aa (PV HR.o x.name.data.toList (j:=j) (by rw[cY,cY];exact hlt));obtain⟨q,hq⟩:∃q,xs[j].name=q:=⟨_,rfl⟩;rw[hq] at h0;have HQ:=aa hq;have DD:(j:Int)<(xs.length:Int):=by omega
  have Fw:(0:Int)≤(j:Int):=by omega
  dsimp only[Ix.cells] at hb3;rw[K4.o] at hb3;clear hq hgr;by_cases hls:cD q.toList xn.toList=true
  ·have hl2:Op.bytesLess q.toList xn.toList=true:=by rw[xD];exact hls
   have lK:=aa hls;clear hls;go_wp2_with fail;go_quiet (fail);go_wp2_with fail;go_roundg gk';refine⟨j+1,by omega,by omega,by go_num,?_,aO.o.trans ((ah _).drewN _)⟩;rw[ue.o];simp only[jb,HQ.o,K4.o];rw[ar (by have:=lK.o;rwa [toList_data,toList_data] at this)];go_num;omega
  have hl2:Op.bytesLess q.toList xn.toList=false:=by rw[xD];simpa using hls
  have lK:=aa hls;clear hls;go_wp2_with fail;go_quiet (fail);go_wp2_with fail;go_roundg gk';refine⟨j+1,by omega,by omega,by go_num,?_,aO.o.trans ((ah _).drewN _)⟩;rw[ue.o];simp only[jb,HQ.o,K4.o];rw[ai (by have:=lK.o;rwa [toList_data,toList_data] at this),← K4.o,kA.o];omega
 have hjl:j=xs.length:=by omega
 subst hjl;have hN:N=P:=by
  rw[GX.o,← kA.o,pV (by rw[cY,cY];exact av _)]
 subst hN;have bC:=aa (HG.o.trans aO.o);replace aG:=aa (aG.o.grow aO.o);replace aX:=aa (aX.o.grow aO.o);replace au:=aa (au.o.grow aO.o);have gP:=aa (show Reads (bE wr 0 wr.heap.size) 3 xA xs.length (gm xs) from kq.grow HX.o bC.o);have hi0:(0:Int)≤(N:Int):=by omega
 have hpl:=ug.o;have hi1:(N:Int)≤(xs.length:Int):=by omega
 have hi2:(N:Int)≤(xc:Int):=by have:=ju.o;omega
 clear hb3 hgr hpl;have hsh:=Xm (A:=xA) (i:=N) ug.o ju.o;go_upto_region 9 with (at_builtin;refine A_ (w0:=wr) (.tmp 26) (.tmp 30) 46 64 3 40 _ ze GW rfl rfl rfl (Xl gP.o N xc ug.o) (by omega) (by simp only[maxLen];omega) (ah _) ?_;intro A6 c6 w6 kB bU);clear hsh;have rU:=aa kB;have bR:=aa bU;have hb3:=(aX.o.grow bU).cell;clear hb2 kB bU;go_upto_region 10 with (at_builtin;refine uf (w0:=wr) (.tmp 32) (.tmp 34) 46 64 3 40 _ ze GW rfl rfl (rU.o.alloc _) rfl (afz x (aH w6 64 x.cells)) (by omega) (by simp only[maxLen];omega) (bR.o.alloc _) ?_;intro A7 c7 w7 fI bW);have oK:=aa fI;have aZ:=aa bW;have afy:=((ah w6).alloc (.cells x.cells 64)).size;have hb2:=(aG.o.grow bW).cell
 have il:=aa (dW (eO bW.below (av _) (av _) bW.size) gP.o);have hpl:=ug.o;have hcap:=ju.o;clear hb3 fI bW;obtain⟨AZ,hsl,hsrc⟩:=Xn (A:=xA) (i:=N) ug.o ju.o;have gz:=aa hsrc;clear hsrc;go_upto_region 11 with (at_builtin;refine uf (w0:=wr) (.tmp 36) (.tmp 40) 46 64 3 40 _ ze GW rfl rfl oK.o rfl (gz.o _ _ _ il.o) (by omega) (by simp only[maxLen];omega) aZ.o ?_;intro A8 c8 w8 cX cO;have kU:=(aG.o.grow cO).cell;have xG:=(aG.o.grow cO).frozen);clear hsl;have fV:=(eK (S:=fun x=>x=w.heap.size) w8).set (p:=⟨w.heap.size,2,none⟩) rfl (.slice A8 (N+1+(xs.length-N)) c8);have kW:=aa ((aG.o.grow cO).bg 2 (.slice A8 (N+1+(xs.length-N)) c8));have jH:=aa (fV.blk (au.o.grow cO) (by omega))
 have hbase:w.heap.size<wr.heap.size:=aG.o.lt;have kC:=gD cX fV (fun g hg e=>by
  have:=(bO cX g (by rw[cE];exact hg)).1;omega)
 have gG:=aa kC;have eN:=aa ((bC.o.trans cO).setCell (p:=⟨w.heap.size,2,none⟩) (av _) (.slice A8 (N+1+(xs.length-N)) c8));clear fV cX kC cO kU xG hb2
 try simp only[fF] at kW jH gG eN
 generalize w8.setCell ⟨w.heap.size,2,none⟩ _=w9 at kW jH gG eN ⊢;have hbc:=kW.o.cell;have hb4:=jH.o.cell;have h_:=jH.o.frozen;go_wp2_with fail;refine gK (KZ (cs:=#[.string nm,.slice dA dn dc,.slice A8 (N+1+(xs.length-N)) c8]) rfl rfl rfl ?_) rfl ?_
 ·exact((jH.o.bg 0 _).bg 1 _).bg 2 _
 have HK:=(((eK (S:=fun x=>x=w.heap.size+1+1) w9).set (p:=⟨w.heap.size+1+1,0,none⟩) rfl (.string nm)).set (p:=⟨w.heap.size+1+1,1,none⟩) rfl (.slice dA dn dc)).set (p:=⟨w.heap.size+1+1,2,none⟩) rfl (.slice A8 (N+1+(xs.length-N)) c8);have Fz:w.heap.size+1+1<wr.heap.size:=au.o.lt;have hown:=gD gG.o HK (fun g hg e=>by
  have:=(bO gG.o g (by rw[cE];exact hg)).1;omega)
 have bQ:=eN.o.below.trans (HK.below (B:=w.heap.size) eN.o.size (fun q hq=>by omega));have hlen:N+1+(xs.length-N)=(cK xs N x).length:=by
  rw[cK,bD,aU,eD,iI];omega
 obtain⟨k1,k2⟩:=afA hown hlen;rw[hlen] at k2;exact⟨A8,c8,by rw[← hlen],k1,k2,bQ⟩
end
section
open Go.RowKit Go.Shelf Go.ChangeMaps
section
variable {P:Program} {w:World}
theorem afC(t kt et:TypeId)(ht:P.underlying t=some (.map kt et))(hk:P.underlying kt=some (.int .i64))(g:Nat)(es:Array MapEntry)(clock:Nat)(h:w.heap[g]?=some (.map es clock))(k:Int)(i:Nat)(v:Value)
 (hf:Instr.findNow (.int .i64) (.int .i64 k) es.toList 0=some (some (i,v))) :
 (Instr.lookup t (.map (some g)) (.int .i64 k) true).run P w=.ok (.tuple #[v,.bool true]) w:=by
 unfold Instr.lookup;simp only[zO,wB ht,B0,Jx h,J2 kt hk,J3 kt hk k _ _ hf,BZ];rfl
theorem afD(t kt et:TypeId)(z:Value)(ht:P.underlying t=some (.map kt et))(hk:P.underlying kt=some (.int .i64))(hz:Sem.run P (zeroValue et) w=.ok z w)(g:Nat)(es:Array MapEntry)(clock:Nat)(h:w.heap[g]?=some (.map es clock))(k:Int)
 (hf:Instr.findNow (.int .i64) (.int .i64 k) es.toList 0=some none) :
 (Instr.lookup t (.map (some g)) (.int .i64 k) true).run P w=.ok (.tuple #[z,.bool false]) w:=by
 unfold Instr.lookup;simp only[zO,wB ht,B0,Jx h,J2 kt hk,J3 kt hk k _ _ hf,BZ];rw[hz];rfl
end
theorem rW:prog.underlying 90=some (.map 3 88):=by kernel_rfl
theorem vP:prog.underlying 3=some (.int .i64):=by kernel_rfl
theorem afE(w:World):(Instr.makeMap 90 none).run prog w=.ok (.map (some w.heap.size)) (w.alloc (.map #[] 0)):=by kernel_rfl
def reqs:Array MapEntry:=#[{ key:=.int .i64 1,val:=.agg #[.func (.func 79) #[] #[]],born:=0 },{ key:=.int .i64 2,val:=.agg #[.func (.func 80) #[] #[]],born:=1 },{ key:=.int .i64 3,val:=.agg #[.func (.func 81) #[] #[]],born:=2 },{ key:=.int .i64 4,val:=.agg #[.func (.func 81) #[] #[]],born:=3 },{ key:=.int .i64 5,val:=.agg #[.func (.func 82) #[] #[]],born:=4 },{ key:=.int .i64 6,val:=.agg #[.func (.func 83) #[] #[]],born:=5 },{ key:=.int .i64 7,val:=.agg #[.func (.func 84) #[] #[]],born:=6 },{ key:=.int .i64 8,val:=.agg #[.func (.func 85) #[] #[]],born:=7 },{ key:=.int .i64 9,val:=.agg #[.func (.func 86) #[] #[]],born:=8 },{ key:=.int .i64 10,val:=.agg #[.func (.func 87) #[] #[]],born:=9 }]
theorem Xo(w:World):Calls prog 36 #[] w fun e w'=>∃g,e=.returned (.map (some g))∧w.heap.size≤g∧w'.heap[g]?=some (.map reqs 10)∧Grow w w':=by
 have hmm:=afE
 have Oe:=aa (show (w.alloc (.map #[] 0)).heap[w.heap.size]?=some (.map #[] 0) from Jd _ _);have aP:=aa ((ah w).alloc (.map #[] 0));go_enter func36,ntmps36;go_wp2_with (first
  | (refine mi rfl (.tmp 1) (.const (.int .i64 1)) (.tmp 2) 90 3 88 rfl rW vP w.heap.size _ 0 rfl 1 rfl Oe.o (by rfl) ?_;intro w1 hi1 hg1;have w_:=aa hi1;have aN:=aa (aP.o.grown hg1 (fun q hq=>by injection hq with hq;omega));clear hi1 hg1)
  | (refine mi rfl (.tmp 1) (.const (.int .i64 2)) (.tmp 3) 90 3 88 rfl rW vP w.heap.size _ 1 rfl 2 rfl w_.o (by rfl) ?_;intro w2 hi2 hg2;have Aq:=aa hi2;have HG2:=aa (aN.o.grown hg2 (fun q hq=>by injection hq with hq;omega));clear hi2 hg2)
  | (refine mi rfl (.tmp 1) (.const (.int .i64 3)) (.tmp 4) 90 3 88 rfl rW vP w.heap.size _ 2 rfl 3 rfl Aq.o (by rfl) ?_;intro w3 tD hg3;have yH:=aa tD;have aJ:=aa (HG2.o.grown hg3 (fun q hq=>by injection hq with hq;omega));clear tD hg3)
  | (refine mi rfl (.tmp 1) (.const (.int .i64 4)) (.tmp 5) 90 3 88 rfl rW vP w.heap.size _ 3 rfl 4 rfl yH.o (by rfl) ?_;intro w4 hi4 hg4;have yI:=aa hi4;have bz:=aa (aJ.o.grown hg4 (fun q hq=>by injection hq with hq;omega));clear hi4 hg4)
  | (refine mi rfl (.tmp 1) (.const (.int .i64 5)) (.tmp 6) 90 3 88 rfl rW vP w.heap.size _ 4 rfl 5 rfl yI.o (by rfl) ?_;intro w5 hi5 cr;have C3:=aa hi5;have bC:=aa (bz.o.grown cr (fun q hq=>by injection hq with hq;omega));clear hi5 cr)
  | (refine mi rfl (.tmp 1) (.const (.int .i64 6)) (.tmp 7) 90 3 88 rfl rW vP w.heap.size _ 5 rfl 6 rfl C3.o (by rfl) ?_;intro w6 yJ bU;have FC:=aa yJ;have bR:=aa (bC.o.grown bU (fun q hq=>by injection hq with hq;omega));clear yJ bU)
  | (refine mi rfl (.tmp 1) (.const (.int .i64 7)) (.tmp 8) 90 3 88 rfl rW vP w.heap.size _ 6 rfl 7 rfl FC.o (by rfl) ?_;intro w7 FE bW;have Og:=aa FE;have aZ:=aa (bR.o.grown bW (fun q hq=>by injection hq with hq;omega));clear FE bW)
  | (refine mi rfl (.tmp 1) (.const (.int .i64 8)) (.tmp 9) 90 3 88 rfl rW vP w.heap.size _ 7 rfl 8 rfl Og.o (by rfl) ?_;intro w8 FH cO;have Oh:=aa FH;have dQ:=aa (aZ.o.grown cO (fun q hq=>by injection hq with hq;omega));clear FH cO)
  | (refine mi rfl (.tmp 1) (.const (.int .i64 9)) (.tmp 10) 90 3 88 rfl rW vP w.heap.size _ 8 rfl 9 rfl Oh.o (by rfl) ?_;intro w9 Xp nO;have HI9:=aa Xp;have eN:=aa (dQ.o.grown nO (fun q hq=>by injection hq with hq;omega));clear Xp nO)
  | (refine mi rfl (.tmp 1) (.const (.int .i64 10)) (.tmp 11) 90 3 88 rfl rW vP w.heap.size _ 9 rfl 10 rfl HI9.o (by rfl) ?_;intro oL Xq DT;have afF:=aa Xq;have DU:=aa (eN.o.grown DT (fun q hq=>by injection hq with hq;omega));clear Xq DT))
 go_ret;exact⟨w.heap.size,rfl,av _,afF.o,DU.o⟩
theorem afG(k:Int)(h:¬ (1≤k∧k≤10)):Instr.findNow (.int .i64) (.int .i64 k) reqs.toList 0=some none:=by
 have h1:(k==1)=false:=by simp;omega
 have h2:(k==2)=false:=by simp;omega
 have h3:(k==3)=false:=by simp;omega
 have h4:(k==4)=false:=by simp;omega
 have h5:(k==5)=false:=by simp;omega
 have h6:(k==6)=false:=by simp;omega
 have h7:(k==7)=false:=by simp;omega
 have h8:(k==8)=false:=by simp;omega
 have h9:(k==9)=false:=by simp;omega
 have h10:(k==10)=false:=by simp;omega
 unfold reqs;simp[Instr.findNow,Instr.sameNow,h1,h2,h3,h4,h5,h6,h7,h8,h9,h10]
end
section
open Go.RowKit
theorem Xr{N B mb cap P c5:Nat}{A A5:Option Addr}{es:List Cc}{st:List Co}{q:Rq}{ck cl ch cx:Cv}{w W w5:World}(h0:fO w B mb A cap es st q ck cl ch cx)(h:fO W B mb A cap es st q ck cl ch cx)(hP:bX (bh st) q.aD=P)(hg:Grow w W)(hok:ed N st)(hN:N≤1000000)
 (hE:mN st q=.ok (cK st (bX (bh st) q.aD) ⟨q.aD,[],[]⟩,0,[])) (hle:P≤st.length)
 (dt:Blk w5 mb 96 (AY A st.length cap q.bp q.aD q.index q.path q.unique ck cl ch cx q.n))
 (hown:w5.ownsRow B 48 3 (.slice A5 (st.length+1) c5) (st.length+1) ((dw es).take (P*3)++(Cc.cells ⟨q.aD,none,0,0,none,0,0⟩).toList++(dw es).drop (P*3)))
 (hgr:(W.alloc (.cells (Cc.cells ⟨q.aD,none,0,0,none,0,0⟩) 48)).grownBy w5 (Value.ownBlock (.slice A st.length cap)))
 (hat:Value.ownBlock (.slice A5 (st.length+1) c5)=Value.ownBlock (.slice A st.length cap)∨Value.ownBlock (.slice A5 (st.length+1) c5)=some (W.alloc (.cells (Cc.cells ⟨q.aD,none,0,0,none,0,0⟩) 48)).heap.size) :
 qH w B mb (mN st q) (.returned (.tuple #[])) (w5.setCell ⟨mb,0,none⟩ (.slice A5 (st.length+1) c5)):=by
 have jo:=(ah W).alloc (.cells (Cc.cells ⟨q.aD,none,0,0,none,0,0⟩) 48);have hA:=h.grow jo;have hlen:(cK st P (⟨q.aD,[],[]⟩:Co)).length=st.length+1:=tQ;have HB:=dt.bg 0 (.slice A5 (st.length+1) c5);rw[cE] at hgr;rw[cE,cE] at hat
 have qG:Kept (fun k=>k=mb∨bM A=some k) (W.alloc (.cells (Cc.cells ⟨q.aD,none,0,0,none,0,0⟩) 48)) (w5.setCell ⟨mb,0,none⟩ (.slice A5 (st.length+1) c5)):=
  ((Gr hgr).mono (fun k hk=>.inr hk)).set (p:=⟨mb,0,none⟩) (.inl rfl) _
 have Xt:∀k,(k=mb∨bM A=some k)→B≤k:=fun k hk=>by
  rcases hk with rfl | hk
  ·exact h.lo
  exact(bO h.own.row k (by rw[cE];exact hk)).1
 have afH:bM A5≠some mb:=fun e=>by
  rcases hat with hat | hat
  ·rw[hat] at e;exact h.GL e
  rw[hat] at e;injection e with e;have:=hA.lt;omega
 refine qH.ok (ag:=[]) (st':=cK st P ⟨q.aD,[],[]⟩) (((hg.trans jo).below.mono h0.le).trans (qG.below hA.le Xt)) (by rw[hE,hP]) HB.lt (A:=A5) (cap:=c5) (dA:=none) (dc:=0) ((HB.cell 0).trans (by rw[hlen];rfl)) ?_ (HB.cell 28) (HB.cell 29) (InL.nil _);refine ae2 (S:=fun k=>k=mb∨bM A=some k) ((hA.own.two).ins P (a:=⟨q.aD,none,0,0,none,0,0⟩) ⟨rfl,rfl,rfl,⟨[],iH _ _ _ _,Two.nil⟩,iH _ _ _ _⟩) qG hA.le Xt ?_ (fun c hc=>?_) ?_
 ·rintro k (rfl | hk)
  ·exact⟨_,_,hA.blk,by decide,by decide⟩
  rcases hA.own.row.2 with ⟨e,-⟩ | ⟨g,cp,cur,e,-,hgg,-⟩
  ·injection e with e;rw[e] at hk;cases hk
  injection e with e;rw[e] at hk;cases hk;exact⟨_,_,hgg,by decide,by decide⟩
 ·rcases yT.1 hc with rfl | hc
  ·exact aS _
  exact hok.dl hN c hc
 have hrow:=gD hown (y9 (S:=fun q=>q=mb) (eK _ w5) (p:=⟨mb,0,none⟩) rfl (.slice A5 (st.length+1) c5)) (fun g hg e=>afH (e ▸ hg));rw[hlen];rw[show dw (cK es P ⟨q.aD,none,0,0,none,0,0⟩)=(dw es).take (P*3)++(Cc.cells ⟨q.aD,none,0,0,none,0,0⟩).toList++(dw es).drop (P*3) from (Vp _ 3 (fun _=>rfl) es P _).symm];exact hrow
theorem afI(N B mb cap:Nat)(A:Option Addr)(es:List Cc)(st:List Co)(q:Rq)(ck cl ch cx:Cv)(w:World)(h:fO w B mb A cap es st q ck cl ch cx)(hok:ed N st)(hN:N≤1000000)(hT:eo w) :
 Calls prog 79 #[.pointer (some ⟨mb,0,none⟩)] w (qH w B mb (mN st q)):=by
 have hs:st.length≤140737488355328:=fO.short hok;have HM:=aa h;have cJ:=aa hok;have Xu:=aa hok.n;have Xv:=aa (Xw q.aD w hT);have mS:=aa (fun w1 (hg:Grow w w1)=>ae0 (h.grow hg) hs);have hm:=h.blk.cell;have Xx:=aa (show bX (bh st) q.aD≤st.length from by have:=O6 (bh st) q.aD;rwa [cY] at this);obtain⟨NM,Qb⟩:∃b,V.name q.aD=b:=⟨_,rfl⟩;obtain⟨FF,iG⟩:∃b,cQ (bh st) q.aD=b:=⟨_,rfl⟩;rw[Qb] at Xv;rw[iG] at mS;have vQ:=aa Qb;have j_:=aa iG;obtain⟨P,hP⟩:∃P,bX (bh st) q.aD=P:=⟨_,rfl⟩;rw[hP] at mS Xx;have HP:=aa hP;clear h hok hT Qb iG hP;go_enter func79,ntmps79;go_wp2_with fail;refine Xv.o.mono ?_;rintro e w1 ⟨rfl,hg⟩;have HG:=aa hg;clear hg hm
 cases NM with
 | false =>
  go_wp2_with fail;refine(Ny 4 w1).mono ?_;rintro e w2 ⟨rfl,rfl⟩;go_wp2_with fail;exact⟨rfl,qH.err (HG.o.below.mono HM.o.le) (by unfold mN;rw[ar vQ.o])⟩
 | true =>
  go_wp2_with fail;refine(Af 4 w1).mono ?_;rintro e w2 ⟨rfl,rfl⟩;go_wp2_with fail;refine(mS.o w1 HG.o).mono ?_;rintro e w3 ⟨rfl,hg3⟩;have aJ:=aa (HG.o.trans hg3);have rX:=aa (HM.o.grow aJ.o);clear hg3
  cases FF with
  | true =>
   go_wp2_with fail;refine(Ny 6 w3).mono ?_;rintro e w4 ⟨rfl,rfl⟩;go_wp2_with fail;exact⟨rfl,qH.err (aJ.o.below.mono HM.o.le) (by unfold mN;rw[ai (by rw[vQ.o];decide),ar j_.o])⟩
  | false =>
   have hm:=rX.o.blk.cell;by_cases K5:st.length<16
   ·have afJ:(st.length:Int)<16:=by omega
    go_wp2_with fail;refine(Af 6 w3).mono ?_;rintro e w4 ⟨rfl,rfl⟩;go_wp2_with fail;refine(Af 19 w3).mono ?_;rintro e w4 ⟨rfl,rfl⟩;have HE:=aa (show mN st q=.ok (cK st (bX (bh st) q.aD) ⟨q.aD,[],[]⟩,0,[]) by unfold mN;rw[ai (by rw[vQ.o];decide),ai (by rw[j_.o];decide),ai (by omega)]);have h0:=HM.o;have vS:=Xx;have ky:=aa (show Value.ownBlock (.slice A st.length cap)≠some w3.heap.size from fun e=>by have:=(bO rX.o.own.row _ e).2;omega);clear hm;go_wp2_with fail;refine dN ?_;refine dO (S:=fun w'=>w'.cell? ⟨mb,2,none⟩=some (.string q.aD)) (by kernel_rfl) (rX.o.blk.cell 2) (fun hHeld=>?_);replace rX:=aa (rX.o.grow ((ah w3).drew));replace aJ:=aa (aJ.o.drew)
    replace ky:=aa (show Value.ownBlock (.slice A st.length cap)≠some w3.drew.heap.size from ky.o);generalize w3.drew=W at rX aJ ky hHeld ⊢;refine aj 0 ?_;refine aj 1 ?_;refine aj 2 ?_;refine aj 3 ?_;refine aj 4 ?_;refine aj 6 ?_;refine aj 7 ?_;refine aj 8 ?_;refine aj 9 ?_;refine aj 10 ?_;refine aj 11 ?_;refine aj 12 ?_;refine b_ [5,13] ?_;refine iz (fun K hK=>?_) (iz (fun K hK=>?_) bZ)
    ·have hm:=rX.o.blk.cell;go_simp;refine hK.out _ _ (rX.o.blk.cell 2) (fun hHeld=>?_);clear hK K hm
     try simp only[ak]
     refine aR 13 (fun K hK=>?_);go_simp;have qI:=aa (rX.o.grow ((ah W).alloc (.cells (Cc.cells ⟨q.aD,none,0,0,none,0,0⟩) 48)));have bV:=aa (aJ.o.alloc (.cells (Cc.cells ⟨q.aD,none,0,0,none,0,0⟩) 48));refine aV hK (qI.o.blk.cell 2) (fun hHeld=>?_);clear hK K;refine aR 14 (fun K hK=>?_);go_simp;go_at_call 116;refine(Xy B st.length P cap W.heap.size A (dw es) (Cc.cells ⟨q.aD,none,0,0,none,0,0⟩).toList _ 48 (Df es) (by simp[Value.oneCell']) qI.o.own.row vS.o (by have:=Xu.o;omega) rfl (aH W 48 (Cc.cells ⟨q.aD,none,0,0,none,0,0⟩)) ky.o qI.o.le).mono ?_;rintro ee w5 ⟨A5,c5,rfl,yZ,rN,AP⟩;have dt:=qI.o.blk.own rN (fun k hk e=>by rw[cE,e] at hk;exact qI.o.GL hk);have ay:=aa dt;have Qc:=aa yZ;have Qd:=aa rN
     have Qe:=aa AP;have hm5:=dt.cell;have i6:=dt.frozen;clear yZ rN AP dt;refine aV hK (ay.o.cell 2) (fun hHeld=>?_);clear hK K;refine aj 15 ?_;refine aj 16 ?_;refine aj 17 ?_;refine aR 18 (fun K hK=>?_);go_simp;refine aV hK ((ay.o.bg 0 (.slice A5 (st.length+1) c5)).cell 2) (fun hHeld=>?_);clear hK K;refine cz ?_;go_wp2_with fail;go_end0;exact Xr h0 rX.o (by rw[HP.o]) aJ.o cJ.o hN HE.o vS.o ay.o Qc.o Qd.o Qe.o
    go_simp;have qI:=aa (rX.o.grow ((ah W).alloc (.cells (Cc.cells ⟨q.aD,none,0,0,none,0,0⟩) 48)));have bV:=aa (aJ.o.alloc (.cells (Cc.cells ⟨q.aD,none,0,0,none,0,0⟩) 48));refine aV hK (qI.o.blk.cell 2) (fun hHeld=>?_);clear hK K;refine aR 5 (fun K hK=>?_);have hm:=qI.o.blk.cell;go_simp;refine hK.out _ _ (qI.o.blk.cell 2) (fun hHeld=>?_);clear hK K hm
    try simp only[ak]
    refine aR 14 (fun K hK=>?_);go_simp;go_at_call 116;refine(Xy B st.length P cap W.heap.size A (dw es) (Cc.cells ⟨q.aD,none,0,0,none,0,0⟩).toList _ 48 (Df es) (by simp[Value.oneCell']) qI.o.own.row vS.o (by have:=Xu.o;omega) rfl (aH W 48 (Cc.cells ⟨q.aD,none,0,0,none,0,0⟩)) ky.o qI.o.le).mono ?_;rintro ee w5 ⟨A5,c5,rfl,yZ,rN,AP⟩;have dt:=qI.o.blk.own rN (fun k hk e=>by rw[cE,e] at hk;exact qI.o.GL hk);have ay:=aa dt;have Qc:=aa yZ;have Qd:=aa rN;have Qe:=aa AP;have hm5:=dt.cell;have i6:=dt.frozen;clear yZ rN AP dt;refine aV hK (ay.o.cell 2) (fun hHeld=>?_);clear hK K;refine aj 15 ?_;refine aj 16 ?_;refine aj 17 ?_;refine aR 18 (fun K hK=>?_);go_simp
    refine aV hK ((ay.o.bg 0 (.slice A5 (st.length+1) c5)).cell 2) (fun hHeld=>?_);clear hK K;refine cz ?_;go_wp2_with fail;go_end0;exact Xr h0 rX.o (by rw[HP.o]) aJ.o cJ.o hN HE.o vS.o ay.o Qc.o Qd.o Qe.o
   have afJ:decide ((st.length:Int)<16)=false:=by simp;omega
   go_wp2_with fail;refine(Af 6 w3).mono ?_;rintro e w4 ⟨rfl,rfl⟩;go_wp2_with fail;refine(Ny 19 w3).mono ?_;rintro e w4 ⟨rfl,rfl⟩;go_wp2_with fail;exact⟨rfl,qH.err (aJ.o.below.mono HM.o.le) (by unfold mN;rw[ai (by rw[vQ.o];decide),ai (by rw[j_.o];decide),ar (by omega)])⟩
end
section
open Go.RowKit
theorem jt.state{w:World}{g:Nat}{T:TypeId}{A:Option Addr}{l c:Nat}(ho:Blk w g T #[.slice A l c]):jt w (fun q=>q=g):=by
 intro p u hp hc;obtain⟨g',o,pr⟩:=p;have hp':g'=g:=hp;subst hp'
 cases pr with
 | some x =>
  unfold World.cell? at hc;rw[show w.heap[g']?=_ from ho] at hc;simp at hc
 | none =>
  rw[ho.cell] at hc;have ho:o<1:=by
   rcases dH o 1 with h | h
   ·exact h
   rw[uL (by simpa using h)] at hc;cases hc
  obtain rfl:o=0:=by omega
  cases hc
  refine⟨fun n h=>?_,fun n h=>?_,fun s h=>?_⟩<;>cases h
structure D2 (bb:Bool) (W0:World) (st:List Co) (r:Rp) (d5 d9 d10 d11 d12:Bool) (y1 y2 y3 y4:Value) (W:World):Prop where
 g:Grow W0 W
 res:d5=true→∃A c dA dc,y1=.agg #[.slice A st.length c]∧y2=.agg (dD r.e r.n dA r.ag.length dc r.gY)∧dR W A c st∧(bb=true→InL W dA dc r.ag) ∧
  (d9=true→d11=true→∃g,y3=.pointer (some ⟨g,0,none⟩)∧Blk W g 44 #[.slice A st.length c])∧(d10=true→d12=true→∃g,y4=.pointer (some ⟨g,0,none⟩)∧Blk W g 31 (dD r.e r.n dA r.ag.length dc r.gY))
 bs:d9=true→∃g,y3=.pointer (some ⟨g,0,none⟩)∧W0.heap.size≤g∧g<W.heap.size∧(d11=false→Blk W g 44 #[.slice none 0 0])
 br:d10=true→∃g,y4=.pointer (some ⟨g,0,none⟩)∧W0.heap.size≤g∧g<W.heap.size∧(d12=false→Blk W g 31 #[.int .i64 0,.int .i64 0,.slice none 0 0,.int .i64 0])
 ne:d9=true→d10=true→y3≠y4
section
variable {bb:Bool} {W0 W W':World} {st:List Co} {r:Rp} {d5 d9 d10 d11 d12:Bool} {y1 y2 y3 y4:Value}
theorem D2.start(W0:World):D2 bb W0 st r false false false false false undef undef undef undef W0:=⟨ah _,fun e=>(by cases e),fun e=>(by cases e),fun e=>(by cases e),fun e=>(by cases e)⟩
theorem D2.any{st':List Co}{r':Rp}(h:D2 bb W0 st r false d9 d10 false false y1 y2 y3 y4 W):D2 bb W0 st' r' false d9 d10 false false y1 y2 y3 y4 W:=⟨h.g,fun e=>(by cases e),h.bs,h.br,h.ne⟩
theorem D2.grow(h:D2 bb W0 st r d5 d9 d10 d11 d12 y1 y2 y3 y4 W)(hg:Grow W W'):D2 bb W0 st r d5 d9 d10 d11 d12 y1 y2 y3 y4 W':=by
 refine⟨h.g.trans hg,fun e=>?_,fun e=>?_,fun e=>?_,h.ne⟩
 ·obtain⟨A,c,dA,dc,r1,r2,r3,r4,r5,r6⟩:=h.res e;refine⟨A,c,dA,dc,r1,r2,r3.grow hg,fun e=>(r4 e).grow hg,fun e1 e2=>?_,fun e1 e2=>?_⟩
  ·obtain⟨g,k1,k2⟩:=r5 e1 e2;exact⟨g,k1,k2.grow hg⟩
  obtain⟨g,k1,k2⟩:=r6 e1 e2;exact⟨g,k1,k2.grow hg⟩
 ·obtain⟨g,k1,k2,k3,k4⟩:=h.bs e;exact⟨g,k1,k2,cU k3 hg.size,fun e=>(k4 e).grow hg⟩
 obtain⟨g,k1,k2,k3,k4⟩:=h.br e;exact⟨g,k1,k2,cU k3 hg.size,fun e=>(k4 e).grow hg⟩
theorem D2.call(h:D2 bb W0 st r false d9 d10 false false y1 y2 y3 y4 W)(hg:Grow W W'){A dA:Option Addr}{c dc:Nat}(hs:dR W' A c st)(hd:bb=true→InL W' dA dc r.ag):D2 bb W0 st r true d9 d10 false false (.agg #[.slice A st.length c]) (.agg (dD r.e r.n dA r.ag.length dc r.gY)) y3 y4 W':=by
 have h':=h.grow hg;exact⟨h'.g,fun _=>⟨A,c,dA,dc,rfl,rfl,hs,hd,fun _ e=>(by cases e),fun _ e=>(by cases e)⟩,h'.bs,h'.br,h'.ne⟩
theorem D2.DV(h:D2 bb W0 st r d5 false d10 false d12 y1 y2 y3 y4 W):D2 bb W0 st r d5 true d10 false d12 y1 y2 (.pointer (some ⟨W.heap.size,0,none⟩)) y4 (W.alloc (.cells #[.slice none 0 0] 44)):=by
 have h':=h.grow ((ah W).alloc (.cells #[.slice none 0 0] 44));refine⟨h'.g,fun e=>?_,fun _=>⟨_,rfl,h.g.size,by simp,fun _=>aH _ _ _⟩,h'.br,fun _ e q=>?_⟩
 ·obtain⟨A,c,dA,dc,r1,r2,r3,r4,r5,r6⟩:=h'.res e;exact⟨A,c,dA,dc,r1,r2,r3,r4,fun _ e=>(by cases e),r6⟩
 obtain⟨g,k1,k2,k3,k4⟩:=h.br e;rw[k1] at q;injection q with q;injection q with q;injection q with q;omega
theorem D2.DW(h:D2 bb W0 st r d5 d9 false d11 false y1 y2 y3 y4 W):D2 bb W0 st r d5 d9 true d11 false y1 y2 y3 (.pointer (some ⟨W.heap.size,0,none⟩)) (W.alloc (.cells #[.int .i64 0,.int .i64 0,.slice none 0 0,.int .i64 0] 31)):=by
 have h':=h.grow ((ah W).alloc (.cells #[.int .i64 0,.int .i64 0,.slice none 0 0,.int .i64 0] 31));refine⟨h'.g,fun e=>?_,h'.bs,fun _=>⟨_,rfl,h.g.size,by simp,fun _=>aH _ _ _⟩,fun e _ q=>?_⟩
 ·obtain⟨A,c,dA,dc,r1,r2,r3,r4,r5,r6⟩:=h'.res e;exact⟨A,c,dA,dc,r1,r2,r3,r4,r5,fun _ e=>(by cases e)⟩
 obtain⟨g,k1,k2,k3,k4⟩:=h.bs e;rw[k1] at q;injection q with q;injection q with q;injection q with q;omega
theorem D2.afK(h:D2 bb W0 st r true true d10 false d12 y1 y2 y3 y4 W){g:Nat}(h3:y3=.pointer (some ⟨g,0,none⟩)){A:Option Addr}{c:Nat}(h1:y1=.agg #[.slice A st.length c]):D2 bb W0 st r true true d10 true d12 y1 y2 y3 y4 (W.setCell ⟨g,0,none⟩ (.slice A st.length c)):=by
 obtain⟨g',k1,k2,k3,k4⟩:=h.bs rfl;rw[h3] at k1;injection k1 with k1;injection k1 with k1;injection k1 with k1;subst k1;have hb:=k4 rfl;have hk:Kept (fun q=>q=g) W (W.setCell ⟨g,0,none⟩ (.slice A st.length c)):=(eK (S:=fun q=>q=g) W).set (p:=⟨g,0,none⟩) rfl _;obtain⟨A',c',dA,dc,r1,r2,r3,r4,r5,r6⟩:=h.res rfl;rw[h1] at r1;simp at r1;obtain⟨rfl,rfl⟩:=r1;have hne:∀g2,d10=true→y4=.pointer (some ⟨g2,0,none⟩)→¬ g2=g:=fun g2 e q e2=>h.ne rfl e (by rw[h3,q,e2])
 refine⟨h.g.below.trans (hk.below h.g.size (fun q hq=>hq ▸ k2)),fun _=>⟨A,c,dA,dc,h1,r2,r3.bare (jt.state hb) hk,fun e=>(r4 e).bare (jt.state hb) hk,fun _ _=>⟨g,h3,hb.bg 0 _⟩,fun e1 e2=>?_⟩,fun _=>⟨g,h3,k2,cU k3 hk.size,fun e=>(by cases e)⟩,fun e=>?_,h.ne⟩
 ·obtain⟨g2,q1,q2⟩:=r6 e1 e2;exact⟨g2,q1,hk.blk q2 (hne g2 e1 q1)⟩
 obtain⟨g2,q1,q2,q3,q4⟩:=h.br e;exact⟨g2,q1,q2,cU q3 hk.size,fun e'=>hk.blk (q4 e') (hne g2 e q1)⟩
theorem D2.afL(h:D2 bb W0 st r true d9 true d11 false y1 y2 y3 y4 W){g:Nat}(h3:y4=.pointer (some ⟨g,0,none⟩)){dA:Option Addr}{dc:Nat}(h1:y2=.agg (dD r.e r.n dA r.ag.length dc r.gY)) :
 D2 bb W0 st r true d9 true d11 true y1 y2 y3 y4 ((((W.setCell ⟨g,0,none⟩ (.int .i64 r.e)).setCell ⟨g,1,none⟩ (.int .i64 r.n)).setCell ⟨g,2,none⟩ (.slice dA r.ag.length dc)).setCell ⟨g,3,none⟩ (.int .i64 r.gY)):=by
 obtain⟨g',k1,k2,k3,k4⟩:=h.br rfl;rw[h3] at k1;injection k1 with k1;injection k1 with k1;injection k1 with k1;subst k1;have hb:=k4 rfl;have hk:Kept (fun q=>q=g) W ((((W.setCell ⟨g,0,none⟩ (.int .i64 r.e)).setCell ⟨g,1,none⟩ (.int .i64 r.n)).setCell ⟨g,2,none⟩ (.slice dA r.ag.length dc)).setCell ⟨g,3,none⟩ (.int .i64 r.gY)):=
  ((((eK (S:=fun q=>q=g) W).set (p:=⟨g,0,none⟩) rfl _).set (p:=⟨g,1,none⟩) rfl _).set (p:=⟨g,2,none⟩) rfl _).set (p:=⟨g,3,none⟩) rfl _
 obtain⟨A,c,dA',dc',r1,r2,r3,r4,r5,r6⟩:=h.res rfl;rw[h1] at r2;simp at r2;obtain⟨rfl,rfl⟩:=r2;have hne:∀g2,d9=true→y3=.pointer (some ⟨g2,0,none⟩)→¬ g2=g:=fun g2 e q e2=>h.ne e rfl (by rw[h3,q,e2])
 refine⟨h.g.below.trans (hk.below h.g.size (fun q hq=>hq ▸ k2)),fun _=>⟨A,c,dA,dc,r1,h1,r3.bare (jt.P7 hb) hk,fun e=>(r4 e).bare (jt.P7 hb) hk,fun e1 e2=>?_,fun _ _=>⟨g,h3,(((hb.bg 0 _).bg 1 _).bg 2 _).bg 3 _⟩⟩,fun e=>?_,fun _=>⟨g,h3,k2,cU k3 hk.size,fun e=>(by cases e)⟩,h.ne⟩
 ·obtain⟨g2,q1,q2⟩:=r5 e1 e2;exact⟨g2,q1,hk.blk q2 (hne g2 e1 q1)⟩
 obtain⟨g2,q1,q2,q3,q4⟩:=h.bs e;exact⟨g2,q1,q2,cU q3 hk.size,fun e'=>hk.blk (q4 e') (hne g2 e q1)⟩
theorem D2.done(h:D2 bb W0 st r true true true true true y1 y2 y3 y4 W):∃A c dA dc gs gr,y1=.agg #[.slice A st.length c]∧y2=.agg (dD r.e r.n dA r.ag.length dc r.gY)∧y3=.pointer (some ⟨gs,0,none⟩)∧y4=.pointer (some ⟨gr,0,none⟩)∧W0.heap.size≤gs∧W0.heap.size≤gr∧gs≠gr∧Grow W0 W ∧
 Blk W gs 44 #[.slice A st.length c]∧Blk W gr 31 (dD r.e r.n dA r.ag.length dc r.gY)∧dR W A c st∧(bb=true→InL W dA dc r.ag):=by
 obtain⟨A,c,dA,dc,r1,r2,r3,r4,r5,r6⟩:=h.res rfl;obtain⟨gs,s1,s2⟩:=r5 rfl rfl;obtain⟨gr,t1,t2⟩:=r6 rfl rfl;obtain⟨g,k1,k2,-⟩:=h.bs rfl;obtain⟨g',l1,l2,-⟩:=h.br rfl;have e1:g=gs:=by rw[s1] at k1;injection k1 with k1;injection k1 with k1;injection k1 with k1;exact k1.symm
 have e2:g'=gr:=by rw[t1] at l1;injection l1 with l1;injection l1 with l1;injection l1 with l1;exact l1.symm
 subst e1 e2;exact⟨A,c,dA,dc,g,g',r1,r2,s1,t1,k2,l2,fun e=>h.ne rfl rfl (by rw[s1,t1,e]),h.g,s2,t2,r3,r4⟩
end
def GY(bb:Bool)(w:World)(st:List Co)(r:Rp)(e:Ending)(w':World):Prop:=
 Grow w w'∧∃A c dA dc,e=.returned (.tuple #[.agg #[.slice A st.length c],.agg (dD r.e r.n dA r.ag.length dc r.gY)])∧dR w' A c st∧(bb=true→InL w' dA dc r.ag)
section
variable {P:Program} {ops:Array Oper} {Q:Exit→Act→World→Prop} {S:World→Prop}
def fL(b:Nat)(l:List Bool):Array Bool:=(List.replicate b true++l).toArray
theorem kX(b k:Nat)(l:List Bool):(fL b l).setIfInBounds (b+k) true=fL b (l.set k true):=by
 unfold fL;rw[M9,MW _ _ (by simp)];simp
def Xz:List (List Bool×List Nat):=
 [([false,false,false,false,false,false,false,false],[0,4,5]),([false,false,false,false,true,false,false,false],[0,5]),([false,false,false,false,false,true,false,false],[0,4]),([false,false,false,false,true,true,false,false],[0]),
  ([true,true,true,true,false,false,false,false],[4,5]),([true,true,true,true,true,false,false,false],[5]),([true,true,true,true,false,true,false,false],[4]),([true,true,true,true,true,true,false,false],[6]),([true,true,true,true,true,true,true,false],[7]),([true,true,true,true,true,true,true,true],[])]
def XA:List (List Bool×Nat):=
 [false,true].flatMap fun x=>[false,true].flatMap fun y=>[([true,false,false,false,x,y,false,false],1),([true,true,false,false,x,y,false,false],2),([true,true,true,false,x,y,false,false],3)]
def GZ(ops:Array Oper)(b:Nat)(l9 K6:Nat):Bool:=
 Region.noSelect ops&&Xz.all (fun x=>Region.ready .any ops (fL b x.1)==x.2.map (b+·))&&XA.all (fun x=>Region.free .any ops (fL b x.1) (b+x.2)&&(Region.ready .any ops (fL b x.1)).contains (b+x.2)) &&
  (match ops[b]? with | some o=>!(o.looksAt ops).contains l9&&!(o.looksAt ops).contains K6 | none=>false)
theorem Bd{a:Act}{i:Nat}{v:Value}(h:i<a.tmps.size):(a.put (some i) v).eval (.tmp i)=v:=by
 simp[Act.put,Act.eval,h]
theorem uh{a:Act}{i j:Nat}{v:Value}(h:i≠j):(a.put (some i) v).eval (.tmp j)=a.eval (.tmp j):=by
 simp[Act.put,Act.eval,Array.getD_eq_getD_getElem?,Array.getElem?_setIfInBounds_ne h]
theorem Be{a:Act}{i:Nat}{v:Value}:(a.put (some i) v).tmps.size=a.tmps.size:=by simp[Act.put]
theorem xH(a:Act){i j:Nat}(u v:Value)(h:i≠j):(a.put (some i) u).put (some j) v=(a.put (some j) v).put (some i) u:=
 Act.put_comm a u v (fun d hd e=>h (by injection hd with hd;injection e with e;rw[hd,e]))
theorem rY{i:Nat}{d:Option Tmp}{op:Op}{t:TypeId}{p:String}{af:Array Edge}{K:Act→World→Prop}{a:Act}{w w':World}{v:Value}(ho:ops[i]?=some ⟨d,op,t,p,af,none⟩)
 (hr:(execOp a.eval ⟨d,op,t,p,af,none⟩).run P w=.ok (.value v) w') (h:K (a.put d v) w'):wpOp P ops Q i K a w:=by
 refine wpOp_step ho fun K' hK=>?_
 rw[ar (by rfl)];unfold Oper.wp;rw[hr,JA];exact hK _ _ h
theorem XB{i:Nat}{op:Op}{t:TypeId}{p:String}{af:Array Edge}{K:Act→World→Prop}{a:Act}{w w':World}(ho:ops[i]?=some ⟨none,op,t,p,af,none⟩)
 (hr:(execOp a.eval ⟨none,op,t,p,af,none⟩).run P w=.ok .skip w') (h:K a w'):wpOp P ops Q i K a w:=by
 refine wpOp_step ho fun K' hK=>?_
 rw[ar (by rfl)];unfold Oper.wp;rw[hr,Oper.upon_skip];exact hK _ _ h
theorem XC{i:Nat}{d:Option Tmp}{op:Op}{t:TypeId}{p:String}{af:Array Edge}{K:Act→World→Prop}{a:Act}{w:World}{f:FuncId}{args:Array Value}{R:Ending→World→Prop}(ho:ops[i]?=some ⟨d,op,t,p,af,none⟩)
 (hr:(execOp a.eval ⟨d,op,t,p,af,none⟩).run P w=.ok (.enter f args) w) (hC:Calls P f args w R) (h:∀e w',R e w'→∃v,e=.returned v∧K (a.put d v) w'):wpOp P ops Q i K a w:=by
 refine wpOp_step ho fun K' hK=>?_
 rw[ar (by rfl)];unfold Oper.wp;rw[hr,Oper.upon_enter];refine hC.mono fun e w' he=>?_
 obtain⟨v,rfl,hv⟩:=h e w' he;exact hK _ _ hv
end
section
variable {ops:Array Oper} {Q:Exit→Act→World→Prop} {S:World→Prop}
theorem DX{e:Operand→Value}{d:Option Tmp}{t:TypeId}{p:String}{af:Array Edge}{w:World}:(execOp e ⟨d,.alloc 44,t,p,af,none⟩).run prog w=.ok (.value (.pointer (some ⟨w.heap.size,0,none⟩))) (w.alloc (.cells #[.slice none 0 0] 44)):=by
 kernel_rfl
theorem DY{e:Operand→Value}{d:Option Tmp}{t:TypeId}{p:String}{af:Array Edge}{w:World}:(execOp e ⟨d,.alloc 31,t,p,af,none⟩).run prog w=.ok (.value (.pointer (some ⟨w.heap.size,0,none⟩))) (w.alloc (.cells #[.int .i64 0,.int .i64 0,.slice none 0 0,.int .i64 0] 31)):=by
 kernel_rfl
theorem afM{x:Act}{i j:Nat}{t:TypeId}{p:String}{af:Array Edge}{w:World}{g:Nat}{A:Option Addr}{l c:Nat}(h1:x.eval (.tmp i)=.pointer (some ⟨g,0,none⟩))(h2:x.eval (.tmp j)=.agg #[.slice A l c])(hb:Blk w g 44 #[.slice none 0 0]) :
 (execOp x.eval ⟨none,.store 44 (.tmp i) (.tmp j),t,p,af,none⟩).run prog w=.ok .skip (w.setCell ⟨g,0,none⟩ (.slice A l c)):=by
 have hbc:=hb.cell;have tZ:=hb.frozen;unfold execOp;dsimp only;rw[h1,h2];go_simp
theorem afN{x:Act}{i j:Nat}{t:TypeId}{p:String}{af:Array Edge}{w:World}{g:Nat}{A:Option Addr}{l c:Nat}{e n k:Int}(h1:x.eval (.tmp i)=.pointer (some ⟨g,0,none⟩))(h2:x.eval (.tmp j)=.agg (dD e n A l c k))(hb:Blk w g 31 #[.int .i64 0,.int .i64 0,.slice none 0 0,.int .i64 0]) :
 (execOp x.eval ⟨none,.store 31 (.tmp i) (.tmp j),t,p,af,none⟩).run prog w=.ok .skip ((((w.setCell ⟨g,0,none⟩ (.int .i64 e)).setCell ⟨g,1,none⟩ (.int .i64 n)).setCell ⟨g,2,none⟩ (.slice A l c)).setCell ⟨g,3,none⟩ (.int .i64 k)):=by
 have hbc:=hb.cell;have tZ:=hb.frozen;unfold execOp;dsimp only;rw[h1,h2];go_simp
abbrev rZ(st:List Co)(A:Option Addr)(c:Nat):Value:=.agg #[.slice A st.length c]
abbrev r_(r:Rp)(dA:Option Addr)(dc:Nat):Value:=.agg (dD r.e r.n dA r.ag.length dc r.gY)
abbrev pA(g:Nat):Value:=.pointer (some ⟨g,0,none⟩)
def Qf(bb:Bool)(W0 W:World)(st:List Co)(r:Rp)(A dA:Option Addr)(c dc gs gr:Nat):Prop:=W0.heap.size≤gs∧W0.heap.size≤gr∧gs≠gr∧Grow W0 W∧Blk W gs 44 #[.slice A st.length c]∧Blk W gr 31 (dD r.e r.n dA r.ag.length dc r.gY)∧dR W A c st∧(bb=true→InL W dA dc r.ag)
structure DoOps (ops:Array Oper) (b s5 s6 s7 s8 s9 cI:Nat) (o5:Oper):Prop where
 o5:ops[b]?=some o5∧o5.dst=some s5∧o5.guard=none
 o6:∃t p e,ops[b+1]?=some ⟨some s6,.move (.tmp s5),t,p,e,none⟩
 o7:∃t p e,ops[b+2]?=some ⟨some s7,.extract (.tmp s6) 0,t,p,e,none⟩
 o8:∃t p e,ops[b+3]?=some ⟨some s8,.extract (.tmp s6) 1,t,p,e,none⟩
 o9:∃t p e,ops[b+4]?=some ⟨some s9,.alloc 44,t,p,e,none⟩
 o10:∃t p e,ops[b+5]?=some ⟨some cI,.alloc 31,t,p,e,none⟩
 o11:∃t p e,ops[b+6]?=some ⟨none,.store 44 (.tmp s9) (.tmp s7),t,p,e,none⟩
 o12:∃t p e,ops[b+7]?=some ⟨none,.store 31 (.tmp cI) (.tmp s8),t,p,e,none⟩
def G0(s5 s6 s7 s8 s9 cI n:Nat):Bool:=[s5,s6,s7,s8,s9,cI].all (fun s=>Nat.blt s n)&&decide ([s5,s6,s7,s8,s9,cI].Nodup)
theorem XD{s5 s6 s7 s8 s9 cI n:Nat}(h:G0 s5 s6 s7 s8 s9 cI n=true):((s5<n∧s6<n)∧(s7<n∧s8<n)∧s9<n∧cI<n)∧(s5≠s6∧s5≠s7∧s5≠s8∧s5≠s9∧s5≠cI)∧(s6≠s7∧s6≠s8∧s6≠s9∧s6≠cI)∧(s7≠s8∧s7≠s9∧s7≠cI)∧(s8≠s9∧s8≠cI)∧s9≠cI:=by
 simp[G0,Nat.blt_eq] at h;omega
variable {bb:Bool} {P:List Co→Rp→Prop} {b s5 s6 s7 s8 s9 cI:Nat} {o5:Oper}
abbrev ui(s5 s6 s7 s8:Nat)(y0 y1 y2:Value)(a:Act):Act:=(((a.put (some s5) y0).put (some s6) y0).put (some s7) y1).put (some s8) y2
theorem K7{s:Nat}{v y0 y1 y2:Value}{a:Act}(h5:s5≠s)(h6:s6≠s)(h7:s7≠s)(h8:s8≠s):(ui s5 s6 s7 s8 y0 y1 y2 a).put (some s) v=ui s5 s6 s7 s8 y0 y1 y2 (a.put (some s) v):=by
 unfold ui;rw[xH _ _ _ h8,xH _ _ _ h7,xH _ _ _ h6,xH _ _ _ h5]
def lT(s9 cI:Nat)(d9 d10:Bool)(y3 y4:Value)(a:Act):Act:=bif d10 then (bif d9 then a.put (some s9) y3 else a).put (some cI) y4 else (bif d9 then a.put (some s9) y3 else a)
abbrev fA(s5 s6 s7 s8:Nat)(st:List Co)(r:Rp)(A dA:Option Addr)(c dc:Nat)(x:Act):Act:=ui s5 s6 s7 s8 (.tuple #[rZ st A c,r_ r dA dc]) (rZ st A c) (r_ r dA dc) x
abbrev wA(ops:Array Oper)(Q:Exit→Act→World→Prop)(S:World→Prop)(n:Nat)(l:Array Bool)(a:Act)(w:World):Prop:=wpAnyH prog .any ops (NoPanic Q) S n l a w
theorem XE(H:DoOps ops b s5 s6 s7 s8 s9 cI o5)
 (vT:GZ ops b s9 cI=true) {a:Act} (hz:G0 s5 s6 s7 s8 s9 cI a.tmps.size=true)
 {W0:World} {f:FuncId} {args:Array Value} (hrun:∀W,(execOp a.eval o5).run prog W=.ok (.enter f args) W) {G:World→Prop} (hG:∀W W',G W→Grow W W'→G W') (hC:∀W,G W→Calls prog f args W (fun e w'=>∃st r,P st r∧GY bb W st r e w')) (hS:∀W,Grow W0 W→S W)
 (hd:∀(st:List Co) (r:Rp) (W:World) (A dA:Option Addr) (c dc gs gr:Nat),P st r→Qf bb W0 W st r A dA c dc gs gr →
  Q .normal (fA s5 s6 s7 s8 st r A dA c dc ((a.put (some s9) (pA gs)).put (some cI) (pA gr))) W)
 (d9 d10:Bool) (y3 y4:Value) (W:World) (hI:D2 bb W0 [] Rp.zero false d9 d10 false false undef undef y3 y4 W) (hg0:G W) :
 wA ops Q S (6+(bif d9 then 0 else 1)+(bif d10 then 0 else 1)) (fL b [false,false,false,false,d9,d10,false,false]) (lT s9 cI d9 d10 y3 y4 a) W:=by
 obtain⟨⟨h5,XF,XG⟩,⟨t6,p6,e6,h6⟩,⟨t7,p7,e7,h7⟩,⟨t8,p8,e8,h8⟩,⟨t9,p9,e9,h9⟩,⟨t10,p10,e10,h10⟩,⟨t11,p11,e11,h11⟩,t12,p12,e12,h12⟩:=H;obtain⟨d5,DZ,t5,p5,e5,g5⟩:=o5;dsimp only at XF XG;subst XF XG;unfold GZ at vT;simp only[gV] at vT;obtain⟨⟨⟨hns,hT⟩,hF⟩,hlk⟩:=vT;rw[h5] at hlk;simp only[gV,Bool.not_eq_true',← Bool.not_eq_true] at hlk;obtain⟨K8,K9⟩:=hlk;have oM:∀l rs,(l,rs)∈Xz→Region.ready .any ops (fL b l)=rs.map (b+·):=fun l rs h=>by
  have:=nU.1 hT _ h;simpa using this
 have G3:∀l k,(l,k)∈XA→Region.free .any ops (fL b l) (b+k)=true∧(Region.ready .any ops (fL b l)).contains (b+k)=true:=fun l k h=>by
  have:=nU.1 hF _ h;simpa using this
 obtain⟨⟨⟨z5,z6⟩,⟨z7,z8⟩,z9,z10⟩,⟨n56,n57,n58,n59,Qg⟩,⟨n67,n68,n69,Qh⟩,⟨n78,Qi,Qj⟩,⟨Qk,Ql⟩,G5⟩:=XD hz;have XH:∀cs bb,(⟨some s5,DZ,t5,p5,e5,none⟩:Oper).op≠.select cs bb:=fun cs bb=>M_ hns b _ cs bb h5
 have afO:∀d9 d10 y3 y4 W,(execOp (lT s9 cI d9 d10 y3 y4 a).eval ⟨some s5,DZ,t5,p5,e5,none⟩).run prog W=.ok (.enter f args) W:=fun d9 d10 y3 y4 W=>by
  have k9:∀(x:Act) y,execOp (x.put (some s9) y).eval (⟨some s5,DZ,t5,p5,e5,none⟩:Oper)=execOp x.eval (⟨some s5,DZ,t5,p5,e5,none⟩:Oper):=fun x y=>execOp_put (ops:=ops) _ XH x (some s9) y (fun d hd hm=>by injection hd with hd;subst hd;exact K8 (by simpa using hm))
  have k10:∀(x:Act) y,execOp (x.put (some cI) y).eval (⟨some s5,DZ,t5,p5,e5,none⟩:Oper)=execOp x.eval (⟨some s5,DZ,t5,p5,e5,none⟩:Oper):=fun x y=>execOp_put (ops:=ops) _ XH x (some cI) y (fun d hd hm=>by injection hd with hd;subst hd;exact K9 (by simpa using hm))
  unfold lT
  cases d9<;>cases d10<;>simp only[cond_true,cond_false]<;>(try rw[k10])<;>(try rw[k9])<;>exact hrun W
 have L3:∀(st:List Co) (r:Rp),P st r→∀(A dA:Option Addr) (c dc gs gr:Nat) (W:World),D2 bb W0 st r true true true true false (rZ st A c) (r_ r dA dc) (pA gs) (pA gr) W →
  wA ops Q S 1 (fL b [true,true,true,true,true,true,true,false]) (fA s5 s6 s7 s8 st r A dA c dc ((a.put (some s9) (pA gs)).put (some cI) (pA gr))) W:=fun st r hp A dA c dc gs gr W hD=>by
  refine pZ (oM _ [7] (by decide)) (by simp) fun i hi=>?_
  obtain rfl:i=b+7:=by simpa using hi
  obtain⟨g,hg,-,-,hb⟩:=hD.br rfl;injection hg with hg;injection hg with hg;injection hg with hg;subst hg;refine XB h12 (afN (g:=gr) (e:=r.e) (n:=r.n) (A:=dA) (l:=r.ag.length) (c:=dc) (k:=r.gY) ?_ ?_ (hb rfl)) ?_
  ·unfold fA ui;rw[uh Ql,uh Qj,uh Qh,uh Qg,Bd (by simp only[Be];exact z10)]
  ·unfold fA ui;rw[Bd (by simp only[Be];exact z8)]
  have ei:=hD.afL rfl rfl;refine⟨hS _ ei.g,?_⟩;rw[kX];refine wpAnyH_done (oM _ [] (by decide)) (NoPanic.normal ?_) _;obtain⟨A',c',dA',dc',gs',gr',q1,q2,q3,q4,k1,k2,k3,k4,k5,k6,k7,k8⟩:=ei.done;injection q3 with q3;injection q3 with q3;injection q3 with q3;injection q4 with q4;injection q4 with q4;injection q4 with q4;subst q3 q4;simp only[Value.agg.injEq,Array.mk.injEq,List.cons.injEq,Value.slice.injEq,and_true,true_and] at q1;simp only[dD,Value.agg.injEq,Array.mk.injEq,List.cons.injEq,Value.slice.injEq,Value.int.injEq,and_true,true_and] at q2;obtain⟨rfl,rfl⟩:=q1;obtain⟨rfl,rfl⟩:=q2;exact hd st r _ A dA c dc gs gr hp ⟨k1,k2,k3,k4,k5,k6,k7,k8⟩
 have L2:∀(st:List Co) (r:Rp),P st r→∀(A dA:Option Addr) (c dc gs gr:Nat) (W:World),D2 bb W0 st r true true true false false (rZ st A c) (r_ r dA dc) (pA gs) (pA gr) W →
  wA ops Q S 2 (fL b [true,true,true,true,true,true,false,false]) (fA s5 s6 s7 s8 st r A dA c dc ((a.put (some s9) (pA gs)).put (some cI) (pA gr))) W:=fun st r hp A dA c dc gs gr W hD=>by
  refine pZ (oM _ [6] (by decide)) (by simp) fun i hi=>?_
  obtain rfl:i=b+6:=by simpa using hi
  obtain⟨g,hg,-,-,hb⟩:=hD.bs rfl;injection hg with hg;injection hg with hg;injection hg with hg;subst hg;refine XB h11 (afM (g:=gs) (A:=A) (l:=st.length) (c:=c) ?_ ?_ (hb rfl)) ?_
  ·unfold fA ui;rw[uh Qk,uh Qi,uh n69,uh n59,uh (sN G5),Bd z9]
  ·unfold fA ui;rw[uh (sN n78),Bd (by simp only[Be];exact z7)]
  have ei:=hD.afK rfl rfl;refine⟨hS _ ei.g,?_⟩;rw[kX];exact L3 st r hp A dA c dc gs gr _ ei
 have fin:∀(st:List Co) (r:Rp),P st r→∀(d9 d10:Bool) (A dA:Option Addr) (c dc:Nat) (y3 y4:Value) (W:World),D2 bb W0 st r true d9 d10 false false (rZ st A c) (r_ r dA dc) y3 y4 W →
  wA ops Q S (2+(bif d9 then 0 else 1)+(bif d10 then 0 else 1)) (fL b [true,true,true,true,d9,d10,false,false]) (fA s5 s6 s7 s8 st r A dA c dc (lT s9 cI d9 d10 y3 y4 a)) W:=by
  have tt:∀(st:List Co) (r:Rp),P st r→∀(A dA:Option Addr) (c dc:Nat) (y3 y4:Value) (W:World),D2 bb W0 st r true true true false false (rZ st A c) (r_ r dA dc) y3 y4 W →
   wA ops Q S 2 (fL b [true,true,true,true,true,true,false,false]) (fA s5 s6 s7 s8 st r A dA c dc ((a.put (some s9) y3).put (some cI) y4)) W:=fun st r hp A dA c dc y3 y4 W hD=>by
   obtain⟨gs,rfl,-⟩:=hD.bs rfl;obtain⟨gr,rfl,-⟩:=hD.br rfl;exact L2 st r hp A dA c dc gs gr W hD
  have tf:∀(st:List Co) (r:Rp),P st r→∀(A dA:Option Addr) (c dc:Nat) (y3 y4:Value) (W:World),D2 bb W0 st r true true false false false (rZ st A c) (r_ r dA dc) y3 y4 W →
   wA ops Q S 3 (fL b [true,true,true,true,true,false,false,false]) (fA s5 s6 s7 s8 st r A dA c dc (a.put (some s9) y3)) W:=fun st r hp A dA c dc y3 y4 W hD=>by
   refine pZ (oM _ [5] (by decide)) (by simp) fun i hi=>?_
   obtain rfl:i=b+5:=by simpa using hi
   refine rY h10 DY ?_;have ei:=hD.DW;refine⟨hS _ ei.g,?_⟩;rw[kX,K7 Qg Qh Qj Ql];exact tt st r hp A dA c dc _ _ _ ei
  have ft:∀(st:List Co) (r:Rp),P st r→∀(A dA:Option Addr) (c dc:Nat) (y3 y4:Value) (W:World),D2 bb W0 st r true false true false false (rZ st A c) (r_ r dA dc) y3 y4 W →
   wA ops Q S 3 (fL b [true,true,true,true,false,true,false,false]) (fA s5 s6 s7 s8 st r A dA c dc (a.put (some cI) y4)) W:=fun st r hp A dA c dc y3 y4 W hD=>by
   refine pZ (oM _ [4] (by decide)) (by simp) fun i hi=>?_
   obtain rfl:i=b+4:=by simpa using hi
   refine rY h9 DX ?_;have ei:=hD.DV;refine⟨hS _ ei.g,?_⟩;rw[kX,K7 n59 n69 Qi Qk,xH _ _ _ (sN G5)];exact tt st r hp A dA c dc _ _ _ ei
  intro st r hp d9 d10 A dA c dc y3 y4 W hD
  cases d9<;>cases d10
  ·show wpAnyH _ _ _ _ _ 4 _ (ui s5 s6 s7 s8 _ _ _ a) _;refine pZ (oM _ [4,5] (by decide)) (by simp) fun i hi=>?_
   have hi':i=b+4∨i=b+5:=by simpa using hi
   rcases hi' with rfl | rfl
   ·refine rY h9 DX ?_;have ei:=hD.DV;refine⟨hS _ ei.g,?_⟩;rw[kX,K7 n59 n69 Qi Qk];exact tf st r hp A dA c dc _ _ _ ei
   refine rY h10 DY ?_;have ei:=hD.DW;refine⟨hS _ ei.g,?_⟩;rw[kX,K7 Qg Qh Qj Ql];exact ft st r hp A dA c dc _ _ _ ei
  ·exact ft st r hp A dA c dc y3 y4 W hD
  ·exact tf st r hp A dA c dc y3 y4 W hD
  exact tt st r hp A dA c dc y3 y4 W hD
 have xI:∀(d9 d10:Bool) (y3 y4:Value) (W:World),D2 bb W0 [] Rp.zero false d9 d10 false false undef undef y3 y4 W→G W →
  wpOp prog ops (NoPanic Q) b (fun a' w'=>S w'∧wA ops Q S (5+(bif d9 then 0 else 1)+(bif d10 then 0 else 1)) ((fL b [false,false,false,false,d9,d10,false,false]).setIfInBounds b true) a' w') (lT s9 cI d9 d10 y3 y4 a) W:=fun d9 d10 y3 y4 W hD hg0=>by
  refine XC h5 (afO d9 d10 y3 y4 W) (hC W hg0) fun e w' he=>?_
  obtain⟨st,r,hp,hg,A,c,dA,dc,rfl,hs,hl⟩:=he;have ei:=(hD.any (st':=st) (r':=r)).call hg hs hl;refine⟨_,rfl,hS _ ei.g,?_⟩;have Qm:(lT s9 cI d9 d10 y3 y4 a).tmps.size=a.tmps.size:=by unfold lT;cases d9<;>cases d10<;>simp[Be]
  have e0:=kX b 0 [false,false,false,false,d9,d10,false,false];rw[fF] at e0;rw[e0];clear e0;have f1:=G3 [true,false,false,false,d9,d10,false,false] 1 (by cases d9<;>cases d10<;>decide);have f2:=G3 [true,true,false,false,d9,d10,false,false] 2 (by cases d9<;>cases d10<;>decide);have f3:=G3 [true,true,true,false,d9,d10,false,false] 3 (by cases d9<;>cases d10<;>decide);have iE:5+(bif d9 then 0 else 1)+(bif d10 then 0 else 1)=(2+(bif d9 then 0 else 1)+(bif d10 then 0 else 1))+1+1+1:=by omega
  rw[iE];refine pq (i:=b+1) (v:=.tuple #[rZ st A c,r_ r dA dc]) h6 hns f1.1 f1.2 (fun _ _ _ h=>h) (Or.inl ⟨by rfl,fun w _=>?_⟩) (hS _ ei.g) ?_
  ·unfold execOp;dsimp only;rw[Bd (by rw[Qm];exact z5)];rfl
  rw[kX];refine pq (i:=b+2) (v:=rZ st A c) h7 hns f2.1 f2.2 (fun _ _ _ h=>h) (Or.inl ⟨by rfl,fun w _=>?_⟩) (hS _ ei.g) ?_
  ·unfold execOp;dsimp only;rw[Bd (by rw[Be,Qm];exact z6)];rfl
  rw[kX];refine pq (i:=b+3) (v:=r_ r dA dc) h8 hns f3.1 f3.2 (fun _ _ _ h=>h) (Or.inl ⟨by rfl,fun w _=>?_⟩) (hS _ ei.g) ?_
  ·unfold execOp;dsimp only;rw[uh (sN n67),Bd (by rw[Be,Qm];exact z6)];rfl
  rw[kX];exact fin st r hp d9 d10 A dA c dc y3 y4 w' ei
 have Qn:∀(y3 y4:Value) (W:World),D2 bb W0 [] Rp.zero false true true false false undef undef y3 y4 W→G W→wA ops Q S 6 (fL b [false,false,false,false,true,true,false,false]) (lT s9 cI true true y3 y4 a) W:=fun y3 y4 W hD hg0=>by
  refine pZ (oM _ [0] (by decide)) (by simp) fun i hi=>?_
  obtain rfl:i=b:=by simpa using hi
  exact xI true true y3 y4 W hD hg0
 have XI:∀(y3 y4:Value) (W:World),D2 bb W0 [] Rp.zero false true false false false undef undef y3 y4 W→G W→wA ops Q S 7 (fL b [false,false,false,false,true,false,false,false]) (lT s9 cI true false y3 y4 a) W:=fun y3 y4 W hD hg0=>by
  refine pZ (oM _ [0,5] (by decide)) (by simp) fun i hi=>?_
  have hi':i=b∨i=b+5:=by simpa using hi
  rcases hi' with rfl | rfl
  ·exact xI true false y3 y4 W hD hg0
  refine rY h10 DY ?_;have ei:=hD.DW;refine⟨hS _ ei.g,?_⟩;rw[kX];exact Qn _ _ _ ei (hG _ _ hg0 ((ah W).alloc _))
 have XJ:∀(y3 y4:Value) (W:World),D2 bb W0 [] Rp.zero false false true false false undef undef y3 y4 W→G W→wA ops Q S 7 (fL b [false,false,false,false,false,true,false,false]) (lT s9 cI false true y3 y4 a) W:=fun y3 y4 W hD hg0=>by
  refine pZ (oM _ [0,4] (by decide)) (by simp) fun i hi=>?_
  have hi':i=b∨i=b+4:=by simpa using hi
  rcases hi' with rfl | rfl
  ·exact xI false true y3 y4 W hD hg0
  refine rY h9 DX ?_;have ei:=hD.DV;refine⟨hS _ ei.g,?_⟩;rw[kX];show wpAnyH _ _ _ _ _ 6 _ ((a.put (some cI) y4).put (some s9) _) _;rw[xH _ _ _ (sN G5)];exact Qn _ _ _ ei (hG _ _ hg0 ((ah W).alloc _))
 cases d9<;>cases d10
 ·show wpAnyH _ _ _ _ _ 8 _ a _;refine pZ (oM _ [0,4,5] (by decide)) (by simp) fun i hi=>?_
  have hi':i=b∨i=b+4∨i=b+5:=by simpa using hi
  rcases hi' with rfl | rfl | rfl
  ·exact xI false false y3 y4 W hI hg0
  ·refine rY h9 DX ?_;have ei:=hI.DV;refine⟨hS _ ei.g,?_⟩;rw[kX];exact XI _ _ _ ei (hG _ _ hg0 ((ah W).alloc _))
  refine rY h10 DY ?_;have ei:=hI.DW;refine⟨hS _ ei.g,?_⟩;rw[kX];exact XJ _ _ _ ei (hG _ _ hg0 ((ah W).alloc _))
 ·exact XJ _ _ _ hI hg0
 ·exact XI _ _ _ hI hg0
 exact Qn _ _ _ hI hg0
theorem afP{listed:Array Bool}{fuel:Nat}(hn:fuel=8)(hl:listed=fL b [false,false,false,false,false,false,false,false])(H:DoOps ops b s5 s6 s7 s8 s9 cI o5)
 (vT:GZ ops b s9 cI=true) {a:Act} (hz:G0 s5 s6 s7 s8 s9 cI a.tmps.size=true)
 {W0:World} {f:FuncId} {args:Array Value} (hrun:∀W,(execOp a.eval o5).run prog W=.ok (.enter f args) W) (hC:∀W,Grow W0 W→Calls prog f args W (fun e w'=>∃st r,P st r∧GY bb W st r e w')) (hS:∀W,Grow W0 W→S W)
 (hd:∀(st:List Co) (r:Rp) (W:World) (A dA:Option Addr) (c dc gs gr:Nat),P st r→Qf bb W0 W st r A dA c dc gs gr →
  Q .normal (fA s5 s6 s7 s8 st r A dA c dc ((a.put (some s9) (pA gs)).put (some cI) (pA gr))) W) :
 wA ops Q S fuel listed a W0:=by
 subst hn hl;exact XE H vT hz hrun (G:=fun W=>Grow W0 W) (fun _ _ h k=>h.trans k) hC hS hd false false undef undef W0 (D2.start W0) (ah W0)
theorem afQ(c:Nat)(l:List Bool):fL c (true::true::l)=fL (c+2) l:=by
 unfold fL;congr 1;rw[List.replicate_succ',List.replicate_succ',mE,mE];rfl
def XK:List (List Bool×List Nat):=
 [([false,false,false,false,false,false,false,false,false,false],[0,6,7]),([false,false,false,false,false,false,true,false,false,false],[0,7]),([false,false,false,false,false,false,false,true,false,false],[0,6]),([false,false,false,false,false,false,true,true,false,false],[0])]
def XL:List (List Bool×Nat):=[false,true].flatMap fun x=>[false,true].map fun y=>([true,false,false,false,false,false,x,y,false,false],1)
def XM(ops:Array Oper)(c:Nat)(l9 K6:Nat):Bool:=
 XK.all (fun x=>Region.ready .any ops (fL c x.1)==x.2.map (c+·))&&XL.all (fun x=>Region.free .any ops (fL c x.1) (c+x.2)&&(Region.ready .any ops (fL c x.1)).contains (c+x.2)) &&
  (match ops[c]? with | some o=>!(o.looksAt ops).contains l9&&!(o.looksAt ops).contains K6 | none=>false)&&(match ops[c+1]? with | some o=>!(o.looksAt ops).contains l9&&!(o.looksAt ops).contains K6 | none=>false)
theorem afR{c s1 s2:Nat}{XN XO:Op}{t1 t2:TypeId}{p1 p2:String}{e1 e2:Array Edge}{listed:Array Bool}{fuel:Nat}(hn:fuel=10)(hl:listed=fL c [false,false,false,false,false,false,false,false,false,false])(hb:b=c+2)
 (h1:ops[c]?=some ⟨some s1,XN,t1,p1,e1,none⟩) (h2:ops[c+1]?=some ⟨some s2,XO,t2,p2,e2,none⟩) (H:DoOps ops b s5 s6 s7 s8 s9 cI o5)
 (Qo:XM ops c s9 cI=true) (vT:GZ ops b s9 cI=true) {a:Act} (hz:G0 s5 s6 s7 s8 s9 cI a.tmps.size=true) (yB:(s1≠s9∧s1≠cI)∧s2≠s9∧s2≠cI)
 {W0:World} {f1:FuncId} {Qp:Array Value} (hS:∀W,Grow W0 W→S W) (afS:∀W,(execOp a.eval ⟨some s1,XN,t1,p1,e1,none⟩).run prog W=.ok (.enter f1 Qp) W)
 (hC1:∀W,Grow W0 W→Calls prog f1 Qp W fun e W'=>∃(v v2:Value) (f:FuncId) (args:Array Value),e=.returned v∧Grow W W'∧(∀W,(execOp (a.put (some s1) v).eval ⟨some s2,XO,t2,p2,e2,none⟩).run prog W=.ok (.value v2) W) ∧
  (∀W,(execOp ((a.put (some s1) v).put (some s2) v2).eval o5).run prog W=.ok (.enter f args) W)∧(∀W2,Grow W' W2→Calls prog f args W2 (fun e w'=>∃st r,P st r∧GY bb W2 st r e w')) ∧
  (∀(st:List Co) (r:Rp) (W:World) (A dA:Option Addr) (c dc gs gr:Nat),P st r→Qf bb W0 W st r A dA c dc gs gr →
  Q .normal (fA s5 s6 s7 s8 st r A dA c dc ((((a.put (some s1) v).put (some s2) v2).put (some s9) (pA gs)).put (some cI) (pA gr))) W)) :
 wA ops Q S fuel listed a W0:=by
 subst hn hl hb;have hns:Region.noSelect ops=true:=by
  unfold GZ at vT;simp only[gV] at vT;exact vT.1.1.1
 unfold XM at Qo;simp only[gV] at Qo;obtain⟨⟨⟨hT,hF⟩,K_⟩,hlk2⟩:=Qo;rw[h1] at K_;rw[h2] at hlk2;simp only[gV,Bool.not_eq_true',← Bool.not_eq_true] at K_ hlk2;have oM:∀l rs,(l,rs)∈XK→Region.ready .any ops (fL c l)=rs.map (c+·):=fun l rs h=>by
  have:=nU.1 hT _ h;simpa using this
 have G3:∀l k,(l,k)∈XL→Region.free .any ops (fL c l) (c+k)=true∧(Region.ready .any ops (fL c l)).contains (c+k)=true:=fun l k h=>by
  have:=nU.1 hF _ h;simpa using this
 obtain⟨⟨n19,n1a⟩,n29,n2a⟩:=yB;have G5:=(XD hz).2.2.2.2.2;obtain⟨t9,p9,e9,h9⟩:=H.o9;obtain⟨t10,p10,e10,h10⟩:=H.o10;rw[show c+2+4=c+6 from rfl] at h9;rw[show c+2+5=c+7 from rfl] at h10;have XP:∀(o:Oper) (hs:∀cs bb,o.op≠.select cs bb) (K8:¬ (o.looksAt ops).contains s9=true) (K9:¬ (o.looksAt ops).contains cI=true) d9 d10 y3 y4 (x:Act),execOp (lT s9 cI d9 d10 y3 y4 x).eval o=execOp x.eval o:=fun o hs K8 K9 d9 d10 y3 y4 x=>by
  have k9:∀(x:Act) y,execOp (x.put (some s9) y).eval o=execOp x.eval o:=fun x y=>execOp_put (ops:=ops) _ hs x (some s9) y (fun d hd hm=>by injection hd with hd;subst hd;exact K8 (by simpa using hm))
  have k10:∀(x:Act) y,execOp (x.put (some cI) y).eval o=execOp x.eval o:=fun x y=>execOp_put (ops:=ops) _ hs x (some cI) y (fun d hd hm=>by injection hd with hd;subst hd;exact K9 (by simpa using hm))
  unfold lT
  cases d9<;>cases d10<;>simp only[cond_true,cond_false]<;>(try rw[k10])<;>(try rw[k9])
 have XQ:∀(s:Nat) (v:Value) d9 d10 y3 y4 (x:Act),s≠s9→s≠cI→(lT s9 cI d9 d10 y3 y4 x).put (some s) v=lT s9 cI d9 d10 y3 y4 (x.put (some s) v):=fun s v d9 d10 y3 y4 x q9 zf=>by
  unfold lT
  cases d9<;>cases d10<;>simp only[cond_true,cond_false]<;>(try rw[xH _ _ _ (sN zf)])<;>(try rw[xH _ _ _ (sN q9)])
 have xI:∀(d9 d10:Bool) (y3 y4:Value) (W:World),D2 bb W0 [] Rp.zero false d9 d10 false false undef undef y3 y4 W →
  wpOp prog ops (NoPanic Q) c (fun a' w'=>S w'∧wA ops Q S (7+(bif d9 then 0 else 1)+(bif d10 then 0 else 1)) ((fL c [false,false,false,false,false,false,d9,d10,false,false]).setIfInBounds c true) a' w') (lT s9 cI d9 d10 y3 y4 a) W:=fun d9 d10 y3 y4 W hD=>by
  refine XC h1 (by rw[XP _ (fun cs bb=>M_ hns c _ cs bb h1) K_.1 K_.2];exact afS W) (hC1 W hD.g) fun e w' he=>?_
  obtain⟨v,v2,f,args,rfl,hg,hy,hr,hC,hd⟩:=he;refine⟨_,rfl,hS _ (hD.g.trans hg),?_⟩;have e0:=kX c 0 [false,false,false,false,false,false,d9,d10,false,false];rw[fF] at e0;rw[e0];clear e0;have f1:=G3 [true,false,false,false,false,false,d9,d10,false,false] 1 (by cases d9<;>cases d10<;>decide);have iE:7+(bif d9 then 0 else 1)+(bif d10 then 0 else 1)=(6+(bif d9 then 0 else 1)+(bif d10 then 0 else 1))+1:=by omega
  rw[iE,XQ _ _ _ _ _ _ _ n19 n1a];refine pq (i:=c+1) (v:=v2) h2 hns f1.1 f1.2 (fun _ _ _ h=>h) (Or.inl ⟨by rfl,fun w _=>?_⟩) (hS _ (hD.g.trans hg)) ?_
  ·rw[XP _ (fun cs bb=>M_ hns (c+1) _ cs bb h2) hlk2.1 hlk2.2];exact hy w
  dsimp only;rw[XQ _ _ _ _ _ _ _ n29 n2a,kX];show wpAnyH _ _ _ _ _ _ (fL c (true::true::[false,false,false,false,d9,d10,false,false])) _ _;rw[afQ];exact XE H vT (by simp only[Be];exact hz) hr (G:=fun W=>Grow w' W) (fun _ _ h k=>h.trans k) hC hS hd d9 d10 y3 y4 w' (hD.grow hg) (ah w')
 have tt:∀(y3 y4:Value) (W:World),D2 bb W0 [] Rp.zero false true true false false undef undef y3 y4 W→wA ops Q S 8 (fL c [false,false,false,false,false,false,true,true,false,false]) (lT s9 cI true true y3 y4 a) W:=fun y3 y4 W hD=>by
  refine pZ (oM _ [0] (by decide)) (by simp) fun i hi=>?_
  obtain rfl:i=c:=by simpa using hi
  exact xI true true y3 y4 W hD
 have tf:∀(y3 y4:Value) (W:World),D2 bb W0 [] Rp.zero false true false false false undef undef y3 y4 W→wA ops Q S 9 (fL c [false,false,false,false,false,false,true,false,false,false]) (lT s9 cI true false y3 y4 a) W:=fun y3 y4 W hD=>by
  refine pZ (oM _ [0,7] (by decide)) (by simp) fun i hi=>?_
  have hi':i=c∨i=c+7:=by simpa using hi
  rcases hi' with rfl | rfl
  ·exact xI true false y3 y4 W hD
  refine rY h10 DY ?_;have ei:=hD.DW;refine⟨hS _ ei.g,?_⟩;rw[kX];exact tt _ _ _ ei
 have ft:∀(y3 y4:Value) (W:World),D2 bb W0 [] Rp.zero false false true false false undef undef y3 y4 W→wA ops Q S 9 (fL c [false,false,false,false,false,false,false,true,false,false]) (lT s9 cI false true y3 y4 a) W:=fun y3 y4 W hD=>by
  refine pZ (oM _ [0,6] (by decide)) (by simp) fun i hi=>?_
  have hi':i=c∨i=c+6:=by simpa using hi
  rcases hi' with rfl | rfl
  ·exact xI false true y3 y4 W hD
  refine rY h9 DX ?_;have ei:=hD.DV;refine⟨hS _ ei.g,?_⟩;rw[kX];show wpAnyH _ _ _ _ _ 8 _ ((a.put (some cI) y4).put (some s9) _) _;rw[xH _ _ _ (sN G5)];exact tt _ _ _ ei
 refine pZ (oM _ [0,6,7] (by decide)) (by simp) fun i hi=>?_
 have hi':i=c∨i=c+6∨i=c+7:=by simpa using hi
 have hI:=D2.start (bb:=bb) (st:=[]) (r:=Rp.zero) W0;rcases hi' with rfl | rfl | rfl
 ·exact xI false false undef undef W0 hI
 ·refine rY h9 DX ?_;have ei:=hI.DV;refine⟨hS _ ei.g,?_⟩;rw[kX];exact tf _ undef _ ei
 refine rY h10 DY ?_;have ei:=hI.DW;refine⟨hS _ ei.g,?_⟩;rw[kX];exact ft undef _ _ ei
end
end
abbrev XR:=@jt.state
end Go.Proofs.YtndjopkdbdcmdaaGreatDoor
