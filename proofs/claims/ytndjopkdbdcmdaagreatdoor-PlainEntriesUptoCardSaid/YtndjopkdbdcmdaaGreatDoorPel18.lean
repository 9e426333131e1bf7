/- Part 18 of the proof of pentries_card. -/
import Derived.Test.YtndjopkdbdcmdaaGreatDoorPel15
set_option linter.unusedVariables false
set_option linter.unusedSimpArgs false
set_option maxRecDepth 100000
set_option maxHeartbeats 12800000
open Go.Proofs.Tryz
namespace Go.Proofs.YtndjopkdbdcmdaaGreatDoor
section
open Go.RowKit
theorem afT(nm:ByteArray)(ag:List V)(dA xA:Option Addr)(dc xn xc:Nat)(k:List UInt8)(w:World)(hd:InL w dA dc ag)(hok:∀d∈ag,eu d)(hr:eQ (iZ ag))(hl:ag.length≤1000000)(hf:jg ag k=true) :
 Calls prog 75 #[.agg #[.string nm,.slice dA ag.length dc,.slice xA xn xc],.string ⟨k.toArray⟩] w fun e w'=>∃A c,e=.returned (.agg #[.string nm,.slice A (gj ag (iM ag k)).length c,.slice xA xn xc])∧InL w' A c (gj ag (iM ag k))∧Grow w w':=by
 obtain⟨cs,hrow,oF⟩:=PZ hd;have iU:=aa hrow;have rP:=aa oF;have ju:=aa (show ag.length≤dc from by unfold InL In at hd;rw[IsV] at hd;exact hd.2.2.2.2.2.2.2.2.2.2.1);have HG:=aa (((ah w).alloc (.cells #[.string nm,.slice dA ag.length dc,.slice xA xn xc] 48)).alloc (.cells #[.string ⟨#[]⟩,.slice none 0 0,.slice none 0 0] 48));have aG:=aa ((aH w 48 #[.string nm,.slice dA ag.length dc,.slice xA xn xc]).alloc (.cells #[.string ⟨#[]⟩,.slice none 0 0,.slice none 0 0] 48));have au:=aa (df (w:=w.alloc (.cells #[.string nm,.slice dA ag.length dc,.slice xA xn xc] 48)) (g:=w.heap.size+1) (by simp) 48 #[.string ⟨#[]⟩,.slice none 0 0,.slice none 0 0]);have mS:=aa (fun(W:World) (hg:Grow w W)=>GJ nm ag dA xA dc xn xc k W (hd.grow hg) hok hr hl)
 obtain⟨kS,qG⟩:∃s,(⟨k.toArray⟩:ByteArray)=s:=⟨_,rfl⟩;have hpl:=yS hf;obtain⟨P,hP⟩:∃p,iM ag k=p:=⟨_,rfl⟩;rw[qG,hP,hf] at mS;rw[qG];rw[hP] at hpl ⊢;have ug:=aa (pk hpl);clear hrow oF hd hok hr qG hP hf;go_enter func75,ntmps75;go_upto_region 1 with fail;generalize (w.alloc (.cells #[.string nm,.slice dA ag.length dc,.slice xA xn xc] 48)).alloc (.cells #[.string ⟨#[]⟩,.slice none 0 0,.slice none 0 0] 48)=W3 at HG aG au ⊢;have hb2:=aG.o.cell;go_wp2_with fail;refine(mS.o W3 HG.o).mono ?_;rintro e W5 ⟨rfl,cr⟩;have bC:=aa (HG.o.trans cr);replace aG:=aa (aG.o.grow cr);replace au:=aa (au.o.grow cr);have gP:=aa (dW (eO bC.o.below (av _) (av _) bC.o.size) iU.o);clear hb2 cr;have hb2:=aG.o.cell
 have hi0:(0:Int)≤(P:Int):=by omega
 have hi1:(P:Int)≤(ag.length:Int):=by omega
 have hi2:(P:Int)≤(dc:Int):=by have:=ju.o;omega
 clear mS;have hsh:=WZ (A:=dA) (i:=P) ug.o ju.o;go_upto_region 6 with (at_builtin;refine A_ (w0:=W5) (.tmp 17) (.tmp 21) 24 27 5 88 _ lF ry rfl rfl rfl (WY gP.o P dc ug.o) (by omega) (by simp only[maxLen];omega) (ah _) ?_;intro A6 c6 w6 kB bU);clear hsh;have rU:=aa kB;have bR:=aa bU;clear hb2 kB bU;obtain⟨q,hq⟩:∃q,P+1=q:=⟨_,rfl⟩;have DM:(P:Int)+1=(q:Int):=by omega
 have DN:IntKind.i64.wrap (q:Int)=(q:Int):=by rw[cZ];omega
 have hq0:(0:Int)≤(q:Int):=by omega
 have hq1:(q:Int)≤(ag.length:Int):=by omega
 have hq2:(q:Int)≤(dc:Int):=by have:=ju.o;omega
 have GV:q≤ag.length:=by omega
 have hcap:=ju.o;have HQ:=aa hq;have rV:=aa (aG.o.grow bR.o);have il:=aa (dW (eO bR.o.below (av _) (av _) bR.o.size) gP.o);have hb2:=rV.o.cell;clear hq;obtain⟨AZ,hsl,hsrc⟩:=P4 (A:=dA) (i:=q) GV hcap;have gz:=aa hsrc;clear hsrc;go_upto_region 7 with (at_builtin;refine uf (w0:=W5) (.tmp 23) (.tmp 28) 24 27 5 88 _ lF ry rfl rfl rU.o rfl (gz.o _ _ _ il.o) (by omega) (by simp only[maxLen];omega) bR.o ?_;intro A8 c8 w8 cX cO;have kU:=(aG.o.grow cO).cell;have xG:=(aG.o.grow cO).frozen);clear hsl;have fV:=(eK (S:=fun x=>x=w.heap.size) w8).set (p:=⟨w.heap.size,1,none⟩) rfl (.slice A8 (P+(ag.length-q)) c8);have kW:=aa ((aG.o.grow cO).bg 1 (.slice A8 (P+(ag.length-q)) c8))
 have jH:=aa (fV.blk (au.o.grow cO) (by omega));have hbase:w.heap.size<W5.heap.size:=aG.o.lt;have kC:=gD cX fV (fun g hg e=>by
  have:=(bO cX g (by rw[cE];exact hg)).1;omega)
 have gG:=aa kC;have eN:=aa ((bC.o.trans cO).setCell (p:=⟨w.heap.size,1,none⟩) (av _) (.slice A8 (P+(ag.length-q)) c8));clear fV cX kC cO kU xG hb2
 try simp only[fF] at kW jH gG eN
 generalize w8.setCell ⟨w.heap.size,1,none⟩ _=w9 at kW jH gG eN ⊢;have hbc:=kW.o.cell;have hb4:=jH.o.cell;have h_:=jH.o.frozen;go_wp2_with fail;refine gK (KZ (cs:=#[.string nm,.slice A8 (P+(ag.length-q)) c8,.slice xA xn xc]) rfl rfl rfl ?_) rfl ?_
 ·exact((jH.o.bg 0 _).bg 1 _).bg 2 _
 have HK:=(((eK (S:=fun x=>x=w.heap.size+1) w9).set (p:=⟨w.heap.size+1,0,none⟩) rfl (.string nm)).set (p:=⟨w.heap.size+1,1,none⟩) rfl (.slice A8 (P+(ag.length-q)) c8)).set (p:=⟨w.heap.size+1,2,none⟩) rfl (.slice xA xn xc);have Fz:w.heap.size+1<W5.heap.size:=au.o.lt;have hown:=gD gG.o HK (fun g hg e=>by
  have:=(bO gG.o g (by rw[cE];exact hg)).1;omega)
 have bQ:=eN.o.below.trans (HK.below (B:=w.heap.size) eN.o.size (fun q hq=>by omega));have lS:gj ag P=ag.take P++ag.drop q:=by rw[← HQ.o];rfl
 have hlen:P+(ag.length-q)=(ag.take P++ag.drop q).length:=by
  rw[bD,eD,iI];omega
 rw[lS];exact⟨A8,c8,by rw[← hlen],afb hown rP.o bQ hlen hl,bQ⟩
theorem vU:prog.underlying 42=some (.slice 48):=by kernel_rfl
theorem D4:(prog.info? 48).map (fun i=>(i.zero,i.size,i.bytes))=some (some (.agg #[.string ⟨#[]⟩,.slice none 0 0,.slice none 0 0]),3,64):=by kernel_rfl
theorem La(st:List Co)(A:Option Addr)(cap i:Nat)(e:Cc)(c:Co)(w:World)(hst:dR w A cap st)(hc:rK w e c)(hi:i<st.length)(hl:st.length≤1000000) :
 Calls prog 73 #[.agg #[.slice A st.length cap],.int .i64 i,.agg e.cells] w fun e' w'=>∃A' c',e'=.returned (.agg #[.slice A' (st.set i c).length c'])∧dR w' A' c' (st.set i c)∧Grow w w':=by
 obtain⟨hcap,es,oF,hrow⟩:=hst;have rP:=aa oF;have iU:=aa hrow;have HC:=aa hc;have hel:es.length=st.length:=oF.1;have lN:=aa hel;have HG:=aa (((((ah w).alloc (.cells #[.slice A st.length cap] 44)).alloc (.cells e.cells 48)).alloc (.cells #[.slice none 0 0] 44)).alloc (.cells #[.slice none 0 0] 44));have aX:=aa ((((aH w 44 #[.slice A st.length cap]).alloc (.cells e.cells 48)).alloc (.cells #[.slice none 0 0] 44)).alloc (.cells #[.slice none 0 0] 44));have ay:=aa (((df (w:=w.alloc (.cells #[.slice A st.length cap] 44)) (g:=w.heap.size+1) (by simp) 48 e.cells).alloc (.cells #[.slice none 0 0] 44)).alloc (.cells #[.slice none 0 0] 44))
 have ma:=aa ((df (w:=(w.alloc (.cells #[.slice A st.length cap] 44)).alloc (.cells e.cells 48)) (g:=w.heap.size+1+1) (by simp) 44 #[.slice none 0 0]).alloc (.cells #[.slice none 0 0] 44));have jf:=aa (df (w:=((w.alloc (.cells #[.slice A st.length cap] 44)).alloc (.cells e.cells 48)).alloc (.cells #[.slice none 0 0] 44)) (g:=w.heap.size+1+1+1) (by simp) 44 #[.slice none 0 0]);clear hrow oF hc hel hcap;go_enter func73,ntmps73;go_upto_region 2 with fail;generalize (((w.alloc (.cells #[.slice A st.length cap] 44)).alloc (.cells e.cells 48)).alloc (.cells #[.slice none 0 0] 44)).alloc (.cells #[.slice none 0 0] 44)=W4 at HG aX ay ma jf ⊢;have cN:=aa (dW (eO HG.o.below (av _) (av _) HG.o.size) iU.o);have hb3:=aX.o.cell;have mr:=jf.o.cell
 go_upto_region 3 with (at_builtin;refine A_ (w0:=W4) (.tmp 9) (.tmp 11) 42 48 3 64 _ vU D4 rfl rfl rfl (ej (c:=cap) vU cN.o (Df es)) (by omega) (by simp only[maxLen];omega) (ah _) ?_;intro A6 c6 w6 kB bU;have kU:=(jf.o.grow bU).cell;have xG:=(jf.o.grow bU).frozen);obtain⟨g6,afU,D5,al2,Lb,Qq,G6,nP,-,-⟩:=mP kB (by omega);subst D5;have al3:w.heap.size+1+1+1<W4.heap.size:=jf.o.lt;have HT:=(eK (S:=fun x=>x=w.heap.size+1+1+1) w6).set (p:=⟨w.heap.size+1+1+1,0,none⟩) rfl (.slice (some ⟨g6,0,none⟩) st.length c6);have Qr:=aa ((jf.o.grow bU).bg 0 (.slice (some ⟨g6,0,none⟩) st.length c6));have XS:=aa (HT.blk (ay.o.grow bU) (by omega));have XT:=aa (HT.blk (ma.o.grow bU) (by omega))
 have fI:=gD kB HT (fun g hg e=>by
  have hg2:g6=g:=pd hg;omega)
 have oK:=aa fI;have aZ:=aa ((HG.o.trans bU).setCell (p:=⟨w.heap.size+1+1+1,0,none⟩) (by simp;omega) (.slice (some ⟨g6,0,none⟩) st.length c6));clear HT kB fI bU kU xG hb3 mr Lb Qq G6 nP;generalize w6.setCell ⟨w.heap.size+1+1+1,0,none⟩ _=w7 at Qr XS XT oK aZ ⊢;obtain⟨g6',afU,D5,-,Lb,Qq,G6,nP,-,-⟩:=mP oK.o (by omega);have XU:w7.there g6 (i*3) 3:=fun k hk=>by
  have e6:g6=g6':=by injection D5 with D5;injection D5
  rw[e6];exact mn Lb (i*3+k) (by rw[nP];have:(i+1)*3≤c6*3:=iu 3 (by omega);omega)
 have D6:=aa XU;have mr:=Qr.o.cell;have dt:=XS.o.cell;have hi0:(0:Int)≤(i:Int):=by omega
 have hi1:(i:Int)<(st.length:Int):=by omega
 clear XU Lb Qq G6 nP D5;go_upto_region 4 with ((with_reducible refine afV 48 ?_);refine wpList_store_mid rfl 48 (.tmp 18) (.tmp 17) rfl g6 (i*3) e.cells rfl rfl D6.o (by kernel_rfl) (by simp[Value.oneCell']) ?_);have hput:=ae8 (D:=i) (vs:=e.cells.toList) oK.o hi rfl;rw[show (dw es).take (i*3)++e.cells.toList++(dw es).drop ((i+1)*3)=dw (es.set i e) from Vq (fun e:Cc=>e.cells.toList) 3 (fun _=>rfl) es i e (by rw[lN.o];exact hi)] at hput;have HK:=(Gr (mH g6 (some g6) rfl e.cells.toList w7 (i*3))).mono (S':=fun q=>q=g6) (fun q hq=>by injection hq with hq;exact hq.symm);have al4:=(bO oK.o g6 (by rw[cE];rfl)).1;have XV:=aa (HK.blk Qr.o (by omega));have Lc:=aa (HK.blk XT.o (by omega));have xJ:=aa hput
 have dQ:=aa (aZ.o.below.trans (HK.below (B:=w.heap.size) aZ.o.size (fun q hq=>by have:=HG.o.size;omega)));clear hput HK mr dt;generalize w7.setCells g6 (i*3) e.cells.toList=w8 at XV Lc xJ dQ ⊢;have mr:=XV.o.cell;have Bf:=Lc.o.cell;have hf6:=Lc.o.frozen;go_wp2_with fail;refine gK (Xb (cs:=#[.slice (some ⟨g6,0,none⟩) st.length c6]) rfl rfl rfl ?_) rfl ?_
 ·exact Lc.o.bg 0 _
 have HK:=(eK (S:=fun x=>x=w.heap.size+1+1) w8).set (p:=⟨w.heap.size+1+1,0,none⟩) rfl (.slice (some ⟨g6,0,none⟩) st.length c6);have hown:=gD xJ.o HK (fun g hg e=>by
  have hg2:g6=g:=pd hg;omega)
 have bQ:=dQ.o.trans (HK.below (B:=w.heap.size) dQ.o.size (fun q hq=>by omega));refine⟨some ⟨g6,0,none⟩,c6,by rw[j5],⟨by rw[j5];exact(nH hown).1,es.set i e,(rP.o.mono fun a b k=>k.mono (eO bQ (av _) (av _) (Below.size bQ))).set i (HC.o.mono (eO bQ (av _) (av _) (Below.size bQ))),?_⟩,bQ⟩;rw[j5];exact dW jW (ku (S:=fun _=>False) hown (fun _ _ h=>h))
end

section
open Go.RowKit
theorem afW{d:V}{aq:List Ix}(h:∀i (hi:i<aq.length),(cH aq[i].path d).2.2=0):tN d aq=0:=
 Dq.2 fun x hx=>by obtain⟨i,hi,rfl⟩:=kH hx;exact h i hi
theorem afX{w:World}{B:Nat}{e:Cc}{c:Co}(aW:iY w B e c)(hB:B≤w.heap.size)(hl:c.ag.length≤1000000000) :
 Calls prog 39 #[.slice e.dA c.ag.length e.dc] w fun r w'=>∃A' c' cs,r=.returned (.slice A' c.ag.length c')∧w'.ownsRow w.heap.size 27 5 (.slice A' c.ag.length c') c.ag.length (fD cs)∧Two (fun v c=>eG w' B v c) c.ag cs∧Grow w w':=by
 obtain⟨cs,h1,h2⟩:=aW.ag;refine(XW c.ag.length e.dA e.dc (fD cs) w ((ku (S:=fun _=>False) h1 (fun _ _ h=>h)).mono jW) (Dh cs) (by omega)).mono ?_;rintro r w' ⟨A',c',rfl,hown,hg⟩;exact⟨A',c',cs,rfl,hown,h2.mono fun v c hv=>hv.below hg.below hB (av _),hg⟩
abbrev Sp(mb gb k:Nat):Prop:=k=mb∨k=gb
theorem afY{w7 w8 w9:World}{B:Nat}{ag:List V}{cs:List Cv}{d:V}{cv:Cv}{mb gb:Nat}{A7 A9:Option Addr}(hold:Two (fun v c=>eG w7 B v c) ag cs)(hin:pF w8 w7.heap.size w8.heap.size d cv)(hB:B≤w7.heap.size)(hg:Grow w7 w8)(hk:Kept (fun k=>bM A7=some k) w8 w9)
 (h7:∀g,bM A7=some g→B≤g∧g<w7.heap.size) (h9:∀g,bM A9=some g→(bM A7=some g∨w8.heap.size≤g)) (hmb:B≤mb) (hgb:B≤gb) (ig:mb<w7.heap.size) (hgl:gb<w7.heap.size) :
 Two (fun v c=>IsV (fp w9 (fun q=>bM A9=some q∨Sp mb gb q)) v c) ag cs∧IsV (fp w9 (fun q=>bM A9=some q∨Sp mb gb q)) d cv:=by
 have hz:B≤w8.heap.size:=a_ hB hg.size;have hS:∀q,(bM A9=some q∨Sp mb gb q)→B≤q:=fun q hq=>by
  rcases hq with hq | rfl | rfl
  ·rcases h9 q hq with h | h
   ·exact(h7 q h).1
   omega
  ·exact hmb
  exact hgb
 refine⟨hold.mono fun v c hv=>?_,?_⟩
 ·exact(((hv.below hg.below hB (av _)).keep hk hz (fun q hq=>(h7 q hq).1))).Vs (a_ hz hk.size) hS
 have h1:IsV (fp w8 (fun q=>bM A7=some q∨(bM A9=some q∨Sp mb gb q))) d cv:=iL (fp.OT (av _) fun q hq=>by
  rcases hq with hq | hq | rfl | rfl
  ·exact .inl (h7 q hq).2
  ·rcases h9 q hq with h | h
   ·exact .inl (h7 q h).2
   exact .inr h
  ·exact .inl ig
  exact .inl hgl) _ _ hin.CY
 exact iL (fp.sub fun q hq=>.inr hq) _ _ (iL (xg hk fun q hq=>.inl hq) _ _ h1)
theorem afZ{B mb cap P gb nd c9 lo:Nat}{A A9:Option Addr}{es:List Cc}{st:List Co}{q:Rq}{ck cl ch cx:Cv}{W w6:World}{e:Cc}{c:Co}{cs':List Cv}{D7:List V}(h:fO W B mb A cap es st q ck cl ch cx)(hA:A=some ⟨gb,0,none⟩)(he:es[P]?=some e)(aW:iY W B e c)(hP:P<st.length)(hne:gb≠mb)
 (hl:∀c∈st,c.ag.length≤140737488355328) (dE:D7.length≤140737488355328) (hV:VR (Sp mb gb) W lo A9 c9 cs' D7) (hlen:D7.length=nd) (Fq:Kept (fun k=>k=mb) (W.setCell ⟨gb,P*3+1,none⟩ (.slice A9 nd c9)) w6) :
 Kept (Sx mb gb none) W w6∧dR w6 A cap (st.set P ⟨c.name,D7,c.aq⟩):=by
 obtain⟨cur,Bg,xe⟩:=h.GM hA (by omega);have Ui:=ae7 (w:=W) (mb:=mb) (R:=none) (gb:=gb) (k:=P*3+1) (v:=.slice A9 nd c9) (eK _ W) rfl;have hk:Kept (Sx mb gb none) W w6:=Ui.trans (Fq.mono fun q hq=>.inl hq);refine⟨hk,?_⟩;have hrow:=ae6 (e':=⟨e.nm,A9,nd,c9,e.xA,e.xn,e.xc⟩) (k:=1) (v:=.slice A9 nd c9) h hA he aW hP (R:=none) (.inl rfl) (eK _ W) (by omega) rfl;refine ae5 (e':=⟨e.nm,A9,nd,c9,e.xA,e.xn,e.xc⟩) h hA he aW hP (R:=none) (.inl rfl) hk hl ?_ (gD hrow Fq (fun g hg hs=>?_))
 ·have hS:∀q,Sx mb gb none q→Sp mb gb q:=fun q hq=>by
   rcases hq with hq | hq | hq
   ·exact .inl hq
   ·exact .inr hq
   cases hq
  have hA9:∀g,bM A9=some g→¬ Sp mb gb g:=fun g hg hs=>by
   rcases hs with rfl | rfl
   ·exact fH hV.row h.blk (by decide) hg
   exact fH hV.row Bg (by decide) hg
  refine⟨aW.nm,hlen.symm,aW.xn,by rw[← aW.xn];exact(aW.xn ▸ (nH aW.aq).1),?_,?_⟩
  ·rw[← hlen] at *;exact((hV.list hA9 dE).mono (xg hk hS)).mono jW
  refine(ku (S:=fun _=>False) (gD aW.aq hk (fun g hg hs=>?_)) (fun _ _ h=>h)).mono jW;rcases hs with rfl | rfl | hs
  ·exact fH aW.aq h.blk (by decide) hg
  ·exact fH aW.aq Bg (by decide) hg
  cases hs
 subst hs;exact h.GL hg
end
section
open Go.RowKit
structure Sb where
 A:Option Addr
 c:Nat
 b:List UInt8
abbrev Sb.cells(e:Sb):Array Value:=#[.slice e.A e.b.length e.c]
def im(es:List Sb):List Value:=(es.map fun e=>e.cells.toList).flatten
theorem XX(es:List Sb):∀v∈im es,v.oneCell'=true:=by
 intro v hv;simp only[im,EX,jx] at hv;obtain⟨_,⟨e,_,rfl⟩,h⟩:=hv;simp at h;rcases h with rfl;rfl
theorem G7:(prog.info? 23).map (fun i=>(i.zero,i.size,i.bytes))=some (some (.slice none 0 0),1,24):=by kernel_rfl
theorem zg:prog.underlying 72=some (.slice 23):=by kernel_rfl
section
variable {w:World} {ad:Addr} {A:Option Addr} {n:Nat} {xs:List Sb}
theorem af0(h:Reads (bE w 0 w.heap.size) 1 A n (im xs))(i c:Nat)(hi:i≤n):Src prog 1 72 (.slice A i c) i (im (xs.take i)) w:=by
 have hh:=ej (c:=c) zg (h.GN i hi) (fun u hu=>XX xs u (yq hu));rwa [show (im xs).take (i*1)=im (xs.take i) from yR (fun e:Sb=>e.cells.toList) 1 (fun _=>rfl) xs i] at hh
theorem af1{cap i:Nat}(h1:i≤n)(h2:n≤cap)(w:World):(Instr.sliceAt 72 (.slice A n cap) none (some (.int .i64 (i:Int))) none).run prog w=.ok (.slice A i cap) w:=by
 have k1:(0:Int)≤(i:Int):=by omega
 have k2:(i:Int)≤(n:Int):=by omega
 have k3:(i:Int)≤(cap:Int):=by omega
 rcases A with _ | a<;>go_simp
theorem af2{cap i:Nat}(h1:i≤n)(h2:n≤cap):∃B,(∀w,(Instr.sliceAt 72 (.slice A n cap) (some (.int .i64 (i:Int))) none none).run prog w=.ok (.slice B (n-i) (cap-i)) w) ∧
 ∀(w:World) (c:Nat) (xs:List Sb),Reads (bE w 0 w.heap.size) 1 A n (im xs)→Src prog 1 72 (.slice B (n-i) c) (n-i) (im (xs.drop i)) w:=by
 have k1:(0:Int)≤(i:Int):=by omega
 have k2:(i:Int)≤(n:Int):=by omega
 have k3:(i:Int)≤(cap:Int):=by omega
 refine⟨if cap=i then A else A.map (·.add (i*1)),fun w=>by rcases A with _ | a<;>go_simp,fun w c xs h=>?_⟩;have hh:=ej (c:=c) zg (h.GP i cap h1 h2) (fun u hu=>XX xs u (qY hu));rwa [show (im xs).drop (i*1)=im (xs.drop i) from tO (fun e:Sb=>e.cells.toList) 1 (fun _=>rfl) xs i] at hh
theorem XY{g:Nat}(e:Sb)(hb:Blk w g 23 e.cells):Src prog 1 72 (.slice (some ⟨g,0,none⟩) 1 1) 1 e.cells.toList w:=
 Src.ofSlice _ zg ⟨g,0,none⟩ 1 1 _ rfl (fun j u hu=>by
  rw[add_lit,dg,hb.cell j,← hu,pg]) (fun u hu=>by
  simp only[iw,wD,wE] at hu;rcases hu with rfl;rfl)
end
def Qs(keys:List (List UInt8)):Prop:=keys.Pairwise fun a b=>cD b a=false
theorem XZ{a b k:List UInt8}(h:cD b a=false)(hb:cD b k=true):cD a k=true:=by
 rcases uU (cD a k) with h1 | h1
 ·exact h1
 rcases uU (cD k a) with h2 | h2
 ·rw[vD _ _ _ hb h2] at h;cases h
 obtain rfl:=Dl _ _ h1 h2;rw[hb] at h;cases h
theorem af3{keys:List (List UInt8)}(h:Qs keys)(k:List UInt8){j:Nat}(hj:j<keys.length):eI (keys.take (j+1)) k=if cD keys[j] k=true then j+1 else eI (keys.take j) k:=by
 have e:keys.take (j+1)=keys.take j++[keys[j]]:=by rw[Cm,bN hj];rfl
 split
 ·rename_i hl;unfold eI;have hall:∀x∈keys.take (j+1),cD x k=true:=fun x hx=>by
   obtain⟨i,hi,rfl⟩:=kH hx;rw[eD] at hi;rw[Cb];rcases dH i j with hij | hij
   ·exact XZ (Cq.1 h i j (by omega) hj hij) hl
   have:i=j:=by omega
   subst this;exact hl
  rw[List.countP_eq_length.2 hall,eD];omega
 rename_i hl;unfold eI;rw[e,List.countP_append];simp[hl]
theorem X0(x:EN):∀{l:List EN},rL l→(tM x l).map Prod.fst=cK (l.map Prod.fst) (eI (l.map Prod.fst) x.1) x.1
 | [],_=>rfl
 | y::r,h=>by
  obtain⟨h1,h2⟩:=jz.1 h;rw[tM];split
  ·rename_i hl;rw[eW,X0 x h2,eW,show eI (y.1::r.map Prod.fst) x.1=eI (r.map Prod.fst) x.1+1 from by unfold eI;rw[List.countP_cons_of_pos (by simpa using hl)]];rfl
  rename_i hl;have h0:eI ((y::r).map Prod.fst) x.1=0:=by
   unfold eI;rw[List.countP_eq_zero];intro z hz;rw[eW] at hz;rcases iw.1 hz with rfl | hz
   ·exact hl
   obtain⟨e,he,rfl⟩:=jx.1 hz;exact fun k=>hl (XZ (h1 e he) k)
  rw[h0];rfl
theorem af4{l:List EN}(h:rL l):Qs (l.map Prod.fst):=List.pairwise_map.2 h
theorem Sb.at_{w:World}{A:Option Addr}{es:List Sb}(h:Reads (bE w 0 w.heap.size) 1 A es.length (im es)){k:Nat}(hk:k<es.length):∃bk o,A=some ⟨bk,o,none⟩∧bk<w.heap.size∧w.cell? ⟨bk,o+k,none⟩=some (.slice es[k].A es[k].b.length es[k].c):=by
 obtain⟨bk,o,hA,hc⟩:=h.2 (by omega);have:=hc (k*1+0) _ (ow (fun e:Sb=>e.cells.toList) 1 (fun _=>rfl) es k 0 (by omega) es[k] (bN hk));rw[qT,fF] at this;exact⟨bk,o,hA,this.2.2,this.1⟩
theorem af5{w:World}{base n c P:Nat}{A:Option Addr}{xs:List Sb}{x:Sb}(h:w.ownsRow base 23 1 (.slice A n c) n (im (xs.take P)++x.cells.toList++im (xs.drop P)))(hn:n=(cK xs P x).length):w.ownsRow base 23 1 (.slice A (cK xs P x).length c) (cK xs P x).length (im (cK xs P x)):=by
 have e:im (cK xs P x)=im (xs.take P)++x.cells.toList++im (xs.drop P):=by simp[cK,im]
 rw[← hn,e];exact h
theorem af6(l:List EN)(x:EN):xf (l++[x])=tM x (xf l):=by unfold xf;rw[List.foldl_append];rfl
def X3(w:World)(path:ByteArray)(ag:List V)(e:Ending)(w':World):Prop:=
 Grow w w'∧((fW path ag≠0∧e=.returned (.tuple #[.slice none 0 0,.int .i64 (fW path ag)])) ∨
  (fW path ag=0∧∃A c es,e=.returned (.tuple #[.slice A es.length c,.int .i64 0])∧Reads (bE w' 0 w'.heap.size) 1 A es.length (im es)∧(∀e∈es,ba w' e.A e.b)∧es.map Sb.b=(jr path ag).map Prod.fst))
theorem Qt(nm:ByteArray)(ag:List V)(dA xA:Option Addr)(dc xn xc:Nat)(x:Ix)(w:World)(hd:InL w dA dc ag)(hx:x.path.size<4294967281)(hok:∀d∈ag,eu d)(hl:ag.length≤1000000) :
 Calls prog 31 #[.agg #[.string nm,.slice dA ag.length dc,.slice xA xn xc],.agg x.cells] w (X3 w x.path ag):=by
 have HD:=aa hd;have cJ:=aa hok;have HL:=aa hl;have HG:=aa (((ah w).alloc (.cells #[.string nm,.slice dA ag.length dc,.slice xA xn xc] 48)).alloc (.cells x.cells 64));have aX:=aa ((aH w 48 #[.string nm,.slice dA ag.length dc,.slice xA xn xc]).alloc (.cells x.cells 64));have au:=aa (df (w:=w.alloc (.cells #[.string nm,.slice dA ag.length dc,.slice xA xn xc] 48)) (g:=w.heap.size+1) (by simp) 64 x.cells);have nQ:=aa (fun(d:V) (c:Cv) (W:World) (hd:eu d) (hi:In W d c)=>KV x d c W hx hd.count hd.fit hd.bytes hi);obtain⟨Ld,xp,xu⟩:=x;dsimp only[Ix.cells] at HG aX au nQ ⊢;clear hd hok hl hx;go_enter func31,ntmps31;go_wp2_with fail
 generalize (w.alloc (.cells #[.string nm,.slice dA ag.length dc,.slice xA xn xc] 48)).alloc (.cells #[.string Ld,.string xp,.bool xu] 64)=w3 at HG aX au ⊢;go_loopg [6,7] (ag.length+1) (fun gk sl i wr=>∃(j B:Nat) (Ao:Option Addr) (co:Nat) (es:List Sb),j≤ag.length∧gk+j=ag.length+1∧i=.int .i64 j∧sl=.slice Ao es.length co∧wr.ownsRow B 23 1 (.slice Ao es.length co) es.length (im es)∧(∀e∈es,ba wr e.A e.b)∧es.map Sb.b=(xf (jV xp (ag.take j))).map Prod.fst∧(∀i (hi:i<ag.length),i<j→(cH xp ag[i]).2.2=0)∧Grow w3 wr);exact⟨0,0,none,0,[],aS _,rfl,rfl,rfl,iH _ _ _ _,fun e he=>by simp at he,rfl,fun _ _ h=>absurd h (by omega),ah _⟩;obtain⟨j,B,Ao,co,es,hj,hg,rfl,rfl,hown,hes,Qu,hne,hgr⟩:=hrel;obtain⟨gk',rfl⟩:=bP gk (by omega)
 have hl0:=HL.o;have HN:=aa hne;have aO:=aa hgr;have HOWN:=aa hown;have qb:=aa hes;have Bh:=aa Qu;have cm:=aa (HG.o.trans hgr);replace aX:=aa (aX.o.grow hgr);replace au:=aa (au.o.grow hgr);have hel:es.length≤j:=by
  have:=cT List.length Qu;rw[cY,cY,(xk _).length_eq] at this;have h2:=Wj (path:=xp) ag j;omega
 have lN:=aa hel;have hb3:=aX.o.cell;clear hne hown hes Qu hel;by_cases hlt:j<ag.length
 ·obtain⟨bk,o,y,ha,hbk,e0,e1,e2,e3,e4,hy⟩:=(HD.o.grow cm.o).fJ j hlt;dsimp only[kf] at ha;subst ha;have oI:=cJ.o ag[j] (aY hlt);have HE:=aa (fun(W:World) (hg:Grow wr W)=>nQ.o ag[j] y W oI (hy.grow hg));have CV:=aa (OO (path:=xp) hlt);have Bi:=aa (fun h=>Kk (path:=xp) hlt HN.o h);have G8:=aa (show nG xp ag[j]=if (cH xp ag[j]).2.1 then some ((cH xp ag[j]).1,((cH xp ag[j]).1.length:Int)-((bK ((jq ag[j]).getD V.zero)).1.length:Int),ag[j]) else none from rfl);have se:=aa (show (cH xp ag[j]).2.2=0→∀i (hi:i<ag.length),i<j+1→(cH xp ag[i]).2.2=0 from fun h i hi hij=>by
   by_cases ie:i=j
   ·subst ie;exact h
   exact HN.o i hi (by omega))
  obtain⟨⟨b1,ok,er⟩,hp⟩:∃p,cH xp ag[j]=p:=⟨_,rfl⟩;rw[hp] at HE Bi G8 se;dsimp only at Bi G8 se;clear oI hy hgr hp;go_upto_region 5 with fail;have uk:=aa (fun(W:World) (hg:Grow wr W)=>show (∀i,W.cell? ⟨w.heap.size+1,i,none⟩=(#[.string Ld,.string xp,.bool xu]:Array Value)[i]?)∧W.cell? ⟨w.heap.size,1,none⟩=some (.slice (some ⟨bk,o,none⟩) ag.length dc)∧W.cell? ⟨bk,o+j*5,none⟩=some (.int .i64 y.k)∧W.cell? ⟨bk,o+j*5+1,none⟩=some (.int .u64 y.n)∧W.cell? ⟨bk,o+j*5+2,none⟩=some (.slice y.aB y.nB y.cB)∧W.cell? ⟨bk,o+j*5+3,none⟩=some (.slice y.aL y.nL y.cL)∧W.cell? ⟨bk,o+j*5+4,none⟩=some (.slice y.aF y.nF y.cF) from
   ⟨(au.o.grow hg).cell,(aX.o.grow hg).cell 1,(hg.below.cell (p:=⟨bk,o+j*5,none⟩) hbk).trans e0,(hg.below.cell (p:=⟨bk,o+j*5+1,none⟩) hbk).trans e1,(hg.below.cell (p:=⟨bk,o+j*5+2,none⟩) hbk).trans e2,(hg.below.cell (p:=⟨bk,o+j*5+3,none⟩) hbk).trans e3,(hg.below.cell (p:=⟨bk,o+j*5+4,none⟩) hbk).trans e4⟩)
  clear e0 e1 e2 e3 e4 hb3;refine dN ?_;refine dO (S:=fun w'=>(∀i,w'.cell? ⟨w.heap.size+1,i,none⟩=(#[.string Ld,.string xp,.bool xu]:Array Value)[i]?)∧w'.cell? ⟨w.heap.size,1,none⟩=some (.slice (some ⟨bk,o,none⟩) ag.length dc)∧w'.cell? ⟨bk,o+j*5,none⟩=some (.int .i64 y.k)∧w'.cell? ⟨bk,o+j*5+1,none⟩=some (.int .u64 y.n)∧w'.cell? ⟨bk,o+j*5+2,none⟩=some (.slice y.aB y.nB y.cB)∧w'.cell? ⟨bk,o+j*5+3,none⟩=some (.slice y.aL y.nL y.cL)∧w'.cell? ⟨bk,o+j*5+4,none⟩=some (.slice y.aF y.nF y.cF)) (by kernel_rfl) (uk.o _ (ah _).drew) (fun hHeld=>?_);have iW:=aa (show Grow wr wr.drew from (ah _).drew);generalize wr.drew=W0 at iW hHeld ⊢;refine aj 0 (hy:=bj fun w ax=>by obtain⟨b4,-,-,-,-,-,-⟩:=ax;go_simp;try rfl) ?_;refine aK 1 ?_
  try simp only[ak]
  refine aj 2 (hy:=bj fun w ax=>by obtain⟨-,gg,-,-,-,-,-⟩:=ax;go_simp;try rfl) ?_;refine aK 3 ?_
  try simp only[ak]
  refine aK 4 ?_
  try simp only[ak]
  refine aj 5 (hy:=bj fun w ax=>by obtain⟨-,-,k0,k1,k2,k3,k4⟩:=ax;go_simp;try rfl) ?_;refine aR 6 (fun K hK=>?_);have hC:=HE.o W0 iW.o;go_simp;go_at_call 29;refine hC.mono ?_;rintro ee W1 ⟨X4,A1,c1,rfl,hb1,hr1,hg1⟩;refine aV hK (uk.o _ (iW.o.trans hg1)) (fun hHeld=>?_);clear hK K;refine aK 7 ?_
  try simp only[ak]
  refine aK 8 ?_
  try simp only[ak]
  refine aK 9 ?_
  try simp only[ak]
  refine aK 10 ?_
  try simp only[ak]
  refine aK 11 ?_
  try simp only[ak]
  refine aK 12 ?_
  try simp only[ak]
  refine aK 13 ?_
  try simp only[ak]
  refine cz ?_;clear hHeld hC;dsimp only at hr1;have aQ:=aa (show ba W1 A1 b1 from dW (fun p u hp=>⟨hp.1,aS _,hp.2.2⟩) hr1.reads.1);have kg:=aa (iW.o.trans hg1);clear hr1 hg1 hb1;by_cases mo:er=0
  ·subst mo
   cases ok with
   | false =>
    go_wp2_with fail;go_roundg gk';refine⟨j+1,B,Ao,co,es,by omega,by omega,by go_num,rfl,kr HOWN.o kg.o,fun e he=>(qb.o e he).grow kg.o,?_,se.o trivial,aO.o.trans kg.o⟩;rw[CV.o,G8.o,ai (by decide),Option.toList_none,mD];exact Bh.o;omega
   | true =>
    rw[ar rfl] at G8;have X5:=aa (kr HOWN.o kg.o);have X6:=aa (show ∀e∈es,ba W1 e.A e.b from fun e he=>(qb.o e he).grow kg.o);have qC:=aa (show Reads (bE W1 0 W1.heap.size) 1 Ao es.length (im es) from dW jW (ku (S:=fun _=>False) X5.o (fun _ _ h=>h)));have Bj:=aa (show Qs (es.map Sb.b) from Bh.o ▸ af4 (Kr _));replace aX:=aa (aX.o.grow kg.o);replace au:=aa (au.o.grow kg.o);have aJ:=aa (aO.o.trans kg.o);clear HOWN qb aO cm kg iW HE Bi uk;go_upto_region 11 with fail;go_loopg [11,12] (es.length+1) (fun gk n i wk=>∃k:Nat,k≤es.length∧gk+k=es.length+1∧i=.int .i64 k∧n=.int .i64 (eI ((es.map Sb.b).take k) b1:Nat)∧Grow W1 wk);exact⟨0,aS _,rfl,rfl,by simp[eI],ah _⟩
    obtain⟨k,hk,iB,rfl,rfl,i7⟩:=hrel;obtain⟨tv,rfl⟩:∃g,gk=g+1:=⟨gk-1,by omega⟩;have hel:=lN.o;obtain⟨M,hM⟩:∃M,eI ((es.map Sb.b).take k) b1=M:=⟨_,rfl⟩;rw[hM];have G9:=aa hM;have X7:=aa i7;clear hM;by_cases hkl:k<es.length
    ·obtain⟨bo,oo,rfl,qy,o0⟩:=Sb.at_ (dW (eO i7.below (av _) (av _) i7.size) qC.o) hkl;have Le:=aa ((X6.o _ (aY hkl)).grow i7);have Lf:=aa (aQ.o.grow i7);have ue:=aa (af3 Bj.o b1 (j:=k) (by rw[cY];exact hkl));have Lg:=aa (show (es.map Sb.b)[k]'(by rw[cY];exact hkl)=es[k].b from by rw[jb]);obtain⟨e1,X8⟩:∃e,es[k]=e:=⟨_,rfl⟩;rw[X8] at o0 Le Lg;obtain⟨eA,ec,eb⟩:=e1;dsimp only at o0 Le Lg;clear i7 X8;by_cases hls:cD eb b1=true
     ·have hl2:Op.bytesLess eb b1=true:=by rw[xD];exact hls
      have lK:=aa hls;clear hls;go_upto_region 13 with fail;have fw:=aa (fun(W:World) (hg:Grow wr W)=>show W.cell? ⟨bo,oo+k,none⟩=some (.slice eA eb.length ec)∧ba W eA eb∧ba W A1 b1 from
       ⟨(hg.below.cell (p:=⟨bo,oo+k,none⟩) qy).trans o0,Le.o.grow hg,Lf.o.grow hg⟩)
      refine dN ?_;refine dO (S:=fun w'=>w'.cell? ⟨bo,oo+k,none⟩=some (.slice eA eb.length ec)∧ba w' eA eb∧ba w' A1 b1) (by kernel_rfl) (fw.o _ (ah _).drew) (fun hHeld=>?_);have qF:=aa (show Grow wr wr.drew from (ah _).drew);generalize wr.drew=W0 at qF hHeld ⊢;refine aK 0 ?_
      try simp only[ak]
      refine aK 1 ?_
      try simp only[ak]
      refine aK 2 ?_
      try simp only[ak]
      refine aj 3 (hy:=bj fun w ax=>by obtain⟨gg,-,-⟩:=ax;go_simp;try rfl) ?_;refine aj 4 (hy:=bj fun w ax=>by obtain⟨-,gg,-⟩:=ax;have hcs:=ly ec gg;go_simp;try rfl) ?_;refine aK 5 ?_
      try simp only[ak]
      refine aj 6 (hy:=bj fun w ax=>by obtain⟨-,-,gg⟩:=ax;have hcs:=ly c1 gg;go_simp;try rfl) ?_;refine aK 7 ?_
      try simp only[ak]
      refine cz ?_;clear hHeld;go_wp2_with fail;go_roundg tv;refine⟨k+1,by omega,by omega,by go_num,?_,X7.o.trans qF.o⟩;rw[ue.o,Lg.o,ar lK.o];go_num;omega
     have hl2:Op.bytesLess eb b1=false:=by rw[xD];simpa using hls
     have lK:=aa hls;clear hls;go_upto_region 13 with fail;have fw:=aa (fun(W:World) (hg:Grow wr W)=>show W.cell? ⟨bo,oo+k,none⟩=some (.slice eA eb.length ec)∧ba W eA eb∧ba W A1 b1 from
      ⟨(hg.below.cell (p:=⟨bo,oo+k,none⟩) qy).trans o0,Le.o.grow hg,Lf.o.grow hg⟩)
     refine dN ?_;refine dO (S:=fun w'=>w'.cell? ⟨bo,oo+k,none⟩=some (.slice eA eb.length ec)∧ba w' eA eb∧ba w' A1 b1) (by kernel_rfl) (fw.o _ (ah _).drew) (fun hHeld=>?_);have qF:=aa (show Grow wr wr.drew from (ah _).drew);generalize wr.drew=W0 at qF hHeld ⊢;refine aK 0 ?_
     try simp only[ak]
     refine aK 1 ?_
     try simp only[ak]
     refine aK 2 ?_
     try simp only[ak]
     refine aj 3 (hy:=bj fun w ax=>by obtain⟨gg,-,-⟩:=ax;go_simp;try rfl) ?_;refine aj 4 (hy:=bj fun w ax=>by obtain⟨-,gg,-⟩:=ax;have hcs:=ly ec gg;go_simp;try rfl) ?_;refine aK 5 ?_
     try simp only[ak]
     refine aj 6 (hy:=bj fun w ax=>by obtain⟨-,-,gg⟩:=ax;have hcs:=ly c1 gg;go_simp;try rfl) ?_;refine aK 7 ?_
     try simp only[ak]
     refine cz ?_;clear hHeld;go_wp2_with fail;go_roundg tv;refine⟨k+1,by omega,by omega,by go_num,?_,X7.o.trans qF.o⟩;rw[ue.o,Lg.o,ai lK.o,G9.o];omega
    have FI:k=es.length:=by omega
    subst FI;have Qv:M=eI (es.map Sb.b) b1:=by rw[← G9.o,pV (by rw[cY];exact av _)]
    have X9:M≤es.length:=by have:=O1 (es.map Sb.b) b1;rw[cY] at this;omega
    have yL:=aa Qv;have Lh:=aa X9;have gP:=aa (show Reads (bE wr 0 wr.heap.size) 1 Ao es.length (im es) from dW (eO i7.below (av _) (av _) i7.size) qC.o);have af7:=aa (show ∀e∈es,ba wr e.A e.b from fun e he=>(X6.o e he).grow i7);have D8:=aa (aQ.o.grow i7);have ju:=aa (nH X5.o).1;have Li:=aa (show (cK es M ⟨A1,c1,b1⟩).map Sb.b=(xf (jV xp (ag.take (j+1)))).map Prod.fst from by
     rw[CV.o,G8.o,Option.toList_some,af6,X0 _ (Kr _),← Bh.o,← Qv];simp[cK])
    have aO:=aa (aJ.o.trans i7);have hi0:(0:Int)≤(M:Int):=by omega
    have hi1:(M:Int)≤(es.length:Int):=by omega
    have hcap:=ju.o;have hi2:(M:Int)≤(co:Int):=by omega
    clear Qv i7 hcap;have hsh:=af1 (A:=Ao) (i:=M) Lh.o ju.o;go_upto_region 17 with (at_builtin;refine A_ (w0:=wr) (.tmp 53) (.tmp 56) 72 23 1 24 _ zg G7 rfl rfl rfl (af0 gP.o M co Lh.o) (by omega) (by simp only[maxLen];omega) (ah _) ?_;intro A6 c6 w6 kB bU);have rU:=aa kB;have bR:=aa bU;clear kB bU hsh;go_upto_region 18 with (at_builtin;refine uf (w0:=wr) (.tmp 58) (.tmp 60) 72 23 1 24 _ zg G7 rfl rfl (rU.o.alloc _) rfl (XY ⟨A1,c1,b1⟩ (aH w6 23 (Sb.cells ⟨A1,c1,b1⟩))) (by omega) (by simp only[maxLen];omega) (bR.o.alloc _) ?_;intro A7 c7 w7 fI bW);have oK:=aa fI;have aZ:=aa bW;have il:=aa (dW (eO bW.below (av _) (av _) bW.size) gP.o);have X9:=Lh.o;clear fI bW
    obtain⟨AZ,hsl,hsrc⟩:=af2 (A:=Ao) (i:=M) Lh.o ju.o;have gz:=aa hsrc;clear hsrc;go_upto_region 4 with (at_builtin;refine uf (w0:=wr) (.tmp 62) (.tmp 65) 72 23 1 24 _ zg G7 rfl rfl oK.o rfl (gz.o _ _ _ il.o) (by omega) (by simp only[maxLen];omega) aZ.o ?_;intro A8 c8 w8 cX cO);clear hsl;have hlen:M+1+(es.length-M)=(cK es M (⟨A1,c1,b1⟩:Sb)).length:=by
     rw[tQ];omega
    have xJ:=aa (af5 cX hlen);have dQ:=aa cO;have HLEN:=aa hlen;clear cX cO hlen;go_wp2_with fail;go_roundg gk';refine⟨j+1,wr.heap.size,A8,c8,cK es M ⟨A1,c1,b1⟩,by omega,by omega,by go_num,by rw[← HLEN.o],xJ.o,fun e he=>?_,Li.o,se.o trivial,aO.o.trans dQ.o⟩;rw[yT] at he;rcases he with rfl | he
    ·exact D8.o.grow dQ.o
    exact(af7.o e he).grow dQ.o;omega
  go_wp2_with fail;go_ret2;refine⟨cm.o.trans kg.o,.inl ⟨by rw[Bi.o mo];exact mo,by rw[Bi.o mo];rfl⟩⟩
 have hjl:j=ag.length:=by omega
 subst hjl;have h0:fW xp ag=0:=OM fun i hi=>HN.o i hi hi
 have nK:=aa h0;clear h0 hgr;go_wp2_with fail;go_ret2;refine⟨cm.o,.inr ⟨nK.o,Ao,co,es,rfl,dW jW (ku (S:=fun _=>False) HOWN.o (fun _ _ h=>h)),qb.o,?_⟩⟩;have:=Bh.o;rw[fC] at this;rw[this];unfold jr;rw[ar nK.o]
end
section
open Go.RowKit
noncomputable def jI(path:ByteArray)(d e:V):Bool:=
 match gS d path,gS e path with
 | some a,some b=>(!((bt e).1==(bt d).1))&&l6 a b
 | _,_=>false
theorem af8{path:ByteArray}{d e:V}(h:gS e path=none):jI path d e=false:=by unfold jI;rw[h];cases gS d path<;>rfl
theorem af9{path:ByteArray}{d e:V}(h:gS d path=none):jI path d e=false:=by unfold jI;rw[h]
theorem X_{path:ByteArray}{d e a b:V}(h:gS d path=some a)(h2:gS e path=some b):jI path d e=((!((bt e).1==(bt d).1))&&l6 a b):=by unfold jI;rw[h,h2]
def af_(w:World)(g:Option V)(p t:Value)(w':World):Prop:=
 Grow w w'∧∃gb c tt u,p=.pointer (some ⟨gb,0,none⟩)∧t=.bool tt∧Blk w' gb 27 (Cv.cells c)∧In w' u c∧((g=some u∧tt=true)∨(g=none∧tt=false))
theorem G_{g:Option V}{t:Bool}{u:V}{c:Cv}(h:(g=some u∧t=true)∨(g=none∧t=false∧u=V.zero∧c=Cv.zero)):(g=some u∧t=true)∨(g=none∧t=false):=h.imp id fun h=>⟨h.1,h.2.1⟩
theorem aga{wn W3:World}{g:Nat}{c:Cv}(hg:Grow wn W3)(hn:wn.heap.size≤g)(hB:Blk W3 g 27 Cv.zero.cells) :
 Grow wn (((((W3.setCell ⟨g,0,none⟩ (.int .i64 c.k)).setCell ⟨g,1,none⟩ (.int .u64 c.n)).setCell ⟨g,2,none⟩ (.slice c.aB c.nB c.cB)).setCell ⟨g,3,none⟩ (.slice c.aL c.nL c.cL)).setCell ⟨g,4,none⟩ (.slice c.aF c.nF c.cF)) ∧
 Blk (((((W3.setCell ⟨g,0,none⟩ (.int .i64 c.k)).setCell ⟨g,1,none⟩ (.int .u64 c.n)).setCell ⟨g,2,none⟩ (.slice c.aB c.nB c.cB)).setCell ⟨g,3,none⟩ (.slice c.aL c.nL c.cL)).setCell ⟨g,4,none⟩ (.slice c.aF c.nF c.cF)) g 27 c.cells:=by
 have hk:Kept (fun q=>q=g) W3 (((((W3.setCell ⟨g,0,none⟩ (.int .i64 c.k)).setCell ⟨g,1,none⟩ (.int .u64 c.n)).setCell ⟨g,2,none⟩ (.slice c.aB c.nB c.cB)).setCell ⟨g,3,none⟩ (.slice c.aL c.nL c.cL)).setCell ⟨g,4,none⟩ (.slice c.aF c.nF c.cF)):=
  (((((eK (S:=fun q=>q=g) W3).set (p:=⟨g,0,none⟩) rfl _).set (p:=⟨g,1,none⟩) rfl _).set (p:=⟨g,2,none⟩) rfl _).set (p:=⟨g,3,none⟩) rfl _).set (p:=⟨g,4,none⟩) rfl _
 exact⟨hg.below.trans (hk.below hg.size (fun q hq=>hq ▸ hn)),((((hB.bg 0 _).bg 1 _).bg 2 _).bg 3 _).bg 4 _⟩
theorem Ya(nm:ByteArray)(ag:List V)(dA xA:Option Addr)(dc xn xc:Nat)(x:Ix)(d:V)(cd:Cv)(w:World)(hd:InL w dA dc ag)(hok:∀d∈ag,eu d)(hl:ag.length≤1000000)(hx:x.path.size<4294967281)(hf:d.formed=true)(hcn:d.count≤20000)(Yb:d.formed=true→d.bytes.length≤140737488355328)(hi:In w d cd) :
 Calls prog 72 #[.agg #[.string nm,.slice dA ag.length dc,.slice xA xn xc],.agg x.cells,cd.agg] w fun e w'=>e=.returned (.bool (ag.any (jI x.path d)))∧Grow w w':=by
 have HD:=aa hd;have cJ:=aa hok;have HL:=aa hl;have HG:=aa (((ah w).alloc (.cells #[.string nm,.slice dA ag.length dc,.slice xA xn xc] 48)).alloc (.cells x.cells 64) |>.alloc (.cells cd.cells 27));have aX:=aa (((aH w 48 #[.string nm,.slice dA ag.length dc,.slice xA xn xc]).alloc (.cells x.cells 64)).alloc (.cells cd.cells 27));have au:=aa ((df (w:=w.alloc (.cells #[.string nm,.slice dA ag.length dc,.slice xA xn xc] 48)) (g:=w.heap.size+1) (by simp) 64 x.cells).alloc (.cells cd.cells 27));have ay:=aa (df (w:=(w.alloc (.cells #[.string nm,.slice dA ag.length dc,.slice xA xn xc] 48)).alloc (.cells x.cells 64)) (g:=w.heap.size+1+1) (by simp) 27 cd.cells);have Bc:=aa (fun(W:World) (hg:Grow w W)=>AX w _ d x.path cd W (av _) hx hf hg hi)
 have Yc:=aa (fun(v:V) (c:Cv) (w0 W:World) (hf:v.formed=true) (hg:Grow w0 W) (hi:In w0 v c)=>AX w0 _ v x.path c W (av _) hx hf hg hi);have um:=aa (fun(W:World) (hg:Grow w W)=>DG d cd W hcn Yb (hi.grow hg));obtain⟨ixn,xp,xu⟩:=x;dsimp only[Ix.cells] at HG aX au ay Bc Yc ⊢;obtain⟨R,hR⟩:∃r,ag.any (jI xp d)=r:=⟨_,rfl⟩;rw[hR];have HR:=aa hR;clear hd hok hl hx hf hcn Yb hi hR;go_enter func72,ntmps72;go_upto_region 1 with fail;generalize ((w.alloc (.cells #[.string nm,.slice dA ag.length dc,.slice xA xn xc] 48)).alloc (.cells #[.string ixn,.string xp,.bool xu] 64)).alloc (.cells cd.cells 27)=w3 at HG aX au ay ⊢;have hb4:=au.o.cell;have dt:=ay.o.cell;go_wp2_with fail;refine(Bc.o _ HG.o).mono ?_;rintro e w4 ⟨hg4,c7,t7,u7,rfl,Yd,ji⟩;have HU7:=aa Yd
 have il:=aa (G_ ji);have bz:=aa (HG.o.trans (hg4.alloc (.cells c7.cells 27)));replace aX:=aa ((aX.o.grow hg4).alloc (.cells c7.cells 27));replace au:=aa ((au.o.grow hg4).alloc (.cells c7.cells 27));replace ay:=aa ((ay.o.grow hg4).alloc (.cells c7.cells 27));have jf:=aa (aH w4 27 c7.cells);clear hb4 dt Yd ji hg4;go_wp2_with fail;generalize w4.alloc (.cells c7.cells 27)=w5 at bz aX au ay jf ⊢;obtain⟨g7,bW⟩:∃g,w4.heap.size=g:=⟨_,rfl⟩;rw[bW] at jf ⊢;clear bW;go_loopg [9] (ag.length+1) (fun gk i wr=>∃j:Nat,j≤ag.length∧gk+j=ag.length+1∧i=.int .i64 j∧(∀i (hi:i<ag.length),i<j→jI xp d ag[i]=false)∧Grow w5 wr);exact⟨0,aS _,rfl,rfl,fun _ _ h=>absurd h (by omega),ah _⟩;obtain⟨j,hj,hg,rfl,hne,hgr⟩:=hrel;obtain⟨gk',rfl⟩:=bP gk (by omega)
 have hl0:=HL.o;have HN:=aa hne;have aO:=aa hgr;have cm:=aa (bz.o.trans hgr);replace aX:=aa (aX.o.grow hgr);replace au:=aa (au.o.grow hgr);replace ay:=aa (ay.o.grow hgr);replace jf:=aa (jf.o.grow hgr);have hb3:=aX.o.cell;clear hne;by_cases hlt:j<ag.length
 ·obtain⟨bk,o,y,ha,hbk,e0,e1,e2,e3,e4,hy⟩:=(HD.o.grow cm.o).fJ j hlt;dsimp only[kf] at ha;subst ha;have oI:=cJ.o ag[j] (aY hlt);obtain⟨-,-,-,-,hgd,-⟩:=oI.id;have Ye:=aa (fun(W:World) (hg:Grow wr W)=>Yc.o ag[j] y wr W (mJ hgd).1 hg hy);have Ha:=aa (fun(W:World) (hg:Grow wr W)=>DG ag[j] y W oI.count oI.bytes (hy.grow hg));have mr:=jf.o.cell;have hb4:=au.o.cell;have dt:=ay.o.cell;clear oI hgd hy hgr
  cases t7 with
  | false =>
   have hno:gS d xp=none:=by rcases il.o with h | h;exact absurd h.2 (by decide);exact h.1
   have hres:R=false:=by rw[← HR.o,M8];intro v hv;rw[af9 hno];decide
   have mU:=aa hres;clear hno hres mr hb4 dt;go_wp2_with fail;go_ret;rw[mU.o];exact⟨rfl,cm.o⟩
  | true =>
   have Yf:gS d xp=some u7:=by rcases il.o with h | h;exact h.1;exact absurd h.2 (by decide)
   have HP7:=aa Yf;clear Yf;go_upto_region 5 with fail;go_cut [10,11] from 29 to 39 (fun p t wx=>af_ wr (gS ag[j] xp) p t wx)
   case first =>
    have fw:=aa (fun(W:World) (hg:Grow wr W)=>show W.cell? ⟨w.heap.size,1,none⟩=some (.slice (some ⟨bk,o,none⟩) ag.length dc)∧W.cell? ⟨w.heap.size+1,1,none⟩=some (.string xp)∧W.cell? ⟨bk,o+j*5,none⟩=some (.int .i64 y.k)∧W.cell? ⟨bk,o+j*5+1,none⟩=some (.int .u64 y.n)∧W.cell? ⟨bk,o+j*5+2,none⟩=some (.slice y.aB y.nB y.cB)∧W.cell? ⟨bk,o+j*5+3,none⟩=some (.slice y.aL y.nL y.cL)∧W.cell? ⟨bk,o+j*5+4,none⟩=some (.slice y.aF y.nF y.cF) from
     ⟨(aX.o.grow hg).cell 1,(au.o.grow hg).cell 1,(hg.below.cell (p:=⟨bk,o+j*5,none⟩) hbk).trans e0,(hg.below.cell (p:=⟨bk,o+j*5+1,none⟩) hbk).trans e1,(hg.below.cell (p:=⟨bk,o+j*5+2,none⟩) hbk).trans e2,(hg.below.cell (p:=⟨bk,o+j*5+3,none⟩) hbk).trans e3,(hg.below.cell (p:=⟨bk,o+j*5+4,none⟩) hbk).trans e4⟩)
    clear e0 e1 e2 e3 e4 hb3 hb4 dt mr;refine dN ?_;refine dO (S:=fun w'=>w'.cell? ⟨w.heap.size,1,none⟩=some (.slice (some ⟨bk,o,none⟩) ag.length dc)∧w'.cell? ⟨w.heap.size+1,1,none⟩=some (.string xp)∧w'.cell? ⟨bk,o+j*5,none⟩=some (.int .i64 y.k)∧w'.cell? ⟨bk,o+j*5+1,none⟩=some (.int .u64 y.n)∧w'.cell? ⟨bk,o+j*5+2,none⟩=some (.slice y.aB y.nB y.cB)∧w'.cell? ⟨bk,o+j*5+3,none⟩=some (.slice y.aL y.nL y.cL)∧w'.cell? ⟨bk,o+j*5+4,none⟩=some (.slice y.aF y.nF y.cF)) (by kernel_rfl) (fw.o _ (ah _).drew) (fun hHeld=>?_);have az:=aa (show Grow wr wr.drew from (ah _).drew);generalize wr.drew=W0 at az hHeld ⊢;refine aj 0 ?_;refine gW 1 ?_;refine aj 2 ?_;refine aj 3 ?_;refine gW 4 ?_;refine aj 5 ?_;refine gW 6 ?_;refine b_ [7,11] ?_
    refine iz (fun K hK=>?_) (iz (fun K hK=>?_) bZ)
    ·go_simp;go_at_call 56;refine(Ye.o _ az.o).mono ?_;rintro ee W3 ⟨hg3,cc,tt,uu,rfl,hu,hres⟩;refine aV hK (fw.o _ (az.o.trans hg3)) (fun hHeld=>?_);clear hK K;refine aj 8 ?_;refine aj 9 ?_;refine aj 10 ?_;refine aR 11 (fun K hK=>?_);go_simp;refine aV hK (fw.o _ ((az.o.trans hg3).alloc _)) (fun hHeld=>?_);clear hK K;refine aR 12 (fun K hK=>?_);go_simp;refine aV hK (fw.o _ ((az.o.trans hg3).alloc _)) (fun hHeld=>?_);clear hK K;refine aj 13 ?_;refine cz ?_;go_wp2_with fail;go_meet;exact⟨(az.o.trans hg3).alloc _,_,cc,tt,uu,rfl,rfl,aH W3 _ _,hu.grow ((az.o.trans hg3).alloc _),G_ hres⟩
    go_simp;refine aV hK (fw.o _ (az.o.alloc _)) (fun hHeld=>?_);clear hK K;refine aR 7 (fun K hK=>?_);go_simp;go_at_call 56;refine(Ye.o _ (az.o.alloc _)).mono ?_;rintro ee W3 ⟨hg3,cc,tt,uu,rfl,hu,hres⟩;refine aV hK (fw.o _ ((az.o.alloc _).trans hg3)) (fun hHeld=>?_);clear hK K;refine aj 8 ?_;refine aj 9 ?_;refine aj 10 ?_;refine aR 12 (fun K hK=>?_);have qJ:=(aH W0 27 Cv.zero.cells).grow hg3;obtain⟨Hb,Hd⟩:=aga (c:=cc) ((az.o.alloc _).trans hg3) az.o.size qJ;have hbc:=qJ.cell;have tZ:=qJ.frozen;have D9:=aa Hb;have Qw:=aa Hd;clear qJ Hb Hd;go_simp;clear hbc tZ;refine aV hK (fw.o _ D9.o) (fun hHeld=>?_);clear hK K;refine aj 13 ?_;refine cz ?_;go_wp2_with fail;go_meet;exact⟨D9.o,_,cc,tt,uu,rfl,rfl,Qw.o,hu.grow D9.o,G_ hres⟩
   obtain⟨dS,g10,c10,tt,uj,rfl,rfl,fq,hij,Lj⟩:=hcut;have cM:=aa dS;have cG:=aa fq;have Ll:=aa hij;have HU:=aa (HU7.o.grow (cm.o.trans dS));have jR:=aa (fun(W:World) (hg:Grow wc W)=>T9 u7 uj W c7 c10 (HU.o.grow hg) (Ll.o.grow hg));have qF:=aa (aO.o.trans dS);clear hij fq dS
   cases tt with
   | false =>
    have hno:gS ag[j] xp=none:=by rcases Lj with h | h;exact absurd h.2 (by decide);exact h.1
    have wX:=aa (show ∀i (hi:i<ag.length),i<j+1→jI xp d ag[i]=false from fun i hi hij=>by
     by_cases ie:i=j
     ·subst ie;exact af8 hno
     exact HN.o i hi (by omega))
    clear hno Lj hb3 hb4 dt mr e0 e1 e2 e3 e4;go_wp2_with fail;go_quiet (fail);go_wp2_with fail;go_roundg gk';exact⟨j+1,by omega,by omega,by go_num,wX.o,qF.o.trans ((ah _).drewN _)⟩;omega
   | true =>
    have Yg:gS ag[j] xp=some uj:=by rcases Lj with h | h;exact h.1;exact absurd h.2 (by decide)
    have hval:=X_ HP7.o Yg;have hks:t_ ag[j]=t_ d↔(bt ag[j]).1=(bt d).1:=by unfold t_;exact⟨fun h=>by injection h with h;simpa using h,fun h=>by rw[h]⟩
    obtain⟨kj,hkj⟩:∃s,t_ ag[j]=s:=⟨_,rfl⟩;obtain⟨kd,Qx⟩:∃s,t_ d=s:=⟨_,rfl⟩;rw[hkj] at Ha hks;rw[Qx] at um hks;have Yh:=aa hval;have Bh:=aa hks;clear Lj Yg hval hks hkj Qx;go_upto_region 6 with fail
    have uk:=aa (fun(W:World) (hg:Grow wc W)=>show (∀i,W.cell? ⟨w.heap.size,i,none⟩=(#[.string nm,.slice (some ⟨bk,o,none⟩) ag.length dc,.slice xA xn xc]:Array Value)[i]?)∧(∀i,W.cell? ⟨w.heap.size+1+1,i,none⟩=cd.cells[i]?)∧(∀i,W.cell? ⟨g7,i,none⟩=c7.cells[i]?)∧(∀i,W.cell? ⟨g10,i,none⟩=c10.cells[i]?)∧W.cell? ⟨bk,o+j*5,none⟩=some (.int .i64 y.k)∧W.cell? ⟨bk,o+j*5+1,none⟩=some (.int .u64 y.n)∧W.cell? ⟨bk,o+j*5+2,none⟩=some (.slice y.aB y.nB y.cB)∧W.cell? ⟨bk,o+j*5+3,none⟩=some (.slice y.aL y.nL y.cL)∧W.cell? ⟨bk,o+j*5+4,none⟩=some (.slice y.aF y.nF y.cF) from
     ⟨(aX.o.grow (cM.o.trans hg)).cell,(ay.o.grow (cM.o.trans hg)).cell,(jf.o.grow (cM.o.trans hg)).cell,(cG.o.grow hg).cell,((cM.o.trans hg).below.cell (p:=⟨bk,o+j*5,none⟩) hbk).trans e0,((cM.o.trans hg).below.cell (p:=⟨bk,o+j*5+1,none⟩) hbk).trans e1,((cM.o.trans hg).below.cell (p:=⟨bk,o+j*5+2,none⟩) hbk).trans e2,((cM.o.trans hg).below.cell (p:=⟨bk,o+j*5+3,none⟩) hbk).trans e3,((cM.o.trans hg).below.cell (p:=⟨bk,o+j*5+4,none⟩) hbk).trans e4⟩)
    clear e0 e1 e2 e3 e4 hb3 hb4 dt mr;refine dN ?_;refine dO (S:=fun w'=>(∀i,w'.cell? ⟨w.heap.size,i,none⟩=(#[.string nm,.slice (some ⟨bk,o,none⟩) ag.length dc,.slice xA xn xc]:Array Value)[i]?)∧(∀i,w'.cell? ⟨w.heap.size+1+1,i,none⟩=cd.cells[i]?)∧(∀i,w'.cell? ⟨g7,i,none⟩=c7.cells[i]?)∧(∀i,w'.cell? ⟨g10,i,none⟩=c10.cells[i]?)∧w'.cell? ⟨bk,o+j*5,none⟩=some (.int .i64 y.k)∧w'.cell? ⟨bk,o+j*5+1,none⟩=some (.int .u64 y.n)∧w'.cell? ⟨bk,o+j*5+2,none⟩=some (.slice y.aB y.nB y.cB)∧w'.cell? ⟨bk,o+j*5+3,none⟩=some (.slice y.aL y.nL y.cL)∧w'.cell? ⟨bk,o+j*5+4,none⟩=some (.slice y.aF y.nF y.cF)) (by kernel_rfl) (uk.o _ (ah _).drew) (fun hHeld=>?_);have iW:=aa (show Grow wc wc.drew from (ah _).drew);generalize wc.drew=W0 at iW hHeld ⊢
    refine aK 0 ?_
    try simp only[ak]
    refine aK 1 ?_
    try simp only[ak]
    refine aK 2 ?_
    try simp only[ak]
    refine aj 3 (hy:=bj fun w ax=>by obtain⟨b3,-,-,-,-,-,-,-,-⟩:=ax;go_simp;try rfl) ?_;refine aK 4 ?_
    try simp only[ak]
    refine aK 5 ?_
    try simp only[ak]
    refine aj 6 (hy:=bj fun w ax=>by obtain⟨-,-,-,-,k0,k1,k2,k3,k4⟩:=ax;go_simp;try rfl) ?_;refine aj 8 (hy:=bj fun w ax=>by obtain⟨-,b5,-,-,-,-,-,-,-⟩:=ax;go_simp;try rfl) ?_;refine aR 7 (fun K hK=>?_);have hC:=Ha.o W0 (cM.o.trans iW.o);go_simp;go_at_call 71;refine hC.mono ?_;rintro ee W1 ⟨rfl,hg1⟩;refine aV hK (uk.o _ (iW.o.trans hg1)) (fun hHeld=>?_);clear hK K;refine aR 9 (fun K hK=>?_);have GU:=um.o W1 (cm.o.trans (cM.o.trans (iW.o.trans hg1)));go_simp;go_at_call 71;refine GU.mono ?_;rintro ee W2 ⟨rfl,hg2⟩;refine aV hK (uk.o _ ((iW.o.trans hg1).trans hg2)) (fun hHeld=>?_);clear hK K;have HG2:=aa ((iW.o.trans hg1).trans hg2);clear hC GU hg1 hg2;by_cases hk:kj=kd
    ·have hk2:(kj.toList==kd.toList)=true:=(yx _ _).2 hk;have wX:=aa (show ∀i (hi:i<ag.length),i<j+1→jI xp d ag[i]=false from fun i hi hij=>by
      by_cases ie:i=j
      ·subst ie;rw[Yh.o,Bh.o.1 hk];simp
      exact HN.o i hi (by omega))
     have sj:=aa (qF.o.trans HG2.o);clear hk;refine aK 10 ?_
     try simp only[ak]
     refine aK 11 ?_
     try simp only[ak]
     refine aK 12 ?_
     try simp only[ak]
     refine aj 13 (v:=undef) (hy:=Or.inr ⟨by rfl,rfl⟩) ?_;refine aj 14 (v:=undef) (hy:=Or.inr ⟨by rfl,rfl⟩) ?_;refine aj 15 (v:=undef) (hy:=Or.inr ⟨by rfl,rfl⟩) ?_;refine aK 16 ?_
     try simp only[ak]
     refine cz ?_;clear hHeld;go_wp2_with fail;go_roundg gk';exact⟨j+1,by omega,by omega,by go_num,wX.o,sj.o⟩;omega
    have hk2:(kj.toList==kd.toList)=false:=KP hk;have hv2:jI xp d ag[j]=l6 u7 uj:=by
     rw[Yh.o,beq_false_of_ne (fun h=>hk (Bh.o.2 h))];rfl
    have Qy:=aa hv2;clear hk hv2;refine aK 10 ?_
    try simp only[ak]
    refine aK 11 ?_
    try simp only[ak]
    refine aK 12 ?_
    try simp only[ak]
    refine aj 13 (hy:=bj fun w ax=>by obtain⟨-,-,b7,-,-,-,-,-,-⟩:=ax;go_simp;try rfl) ?_;refine aj 14 (hy:=bj fun w ax=>by obtain⟨-,-,-,b10,-,-,-,-,-⟩:=ax;go_simp;try rfl) ?_;refine aR 15 (fun K hK=>?_);have Yi:=jR.o W2 HG2.o;go_simp;go_at_call 26;refine Yi.mono ?_;rintro ee W3 ⟨rfl,hg3⟩;refine aV hK (uk.o _ (HG2.o.trans hg3)) (fun hHeld=>?_);clear hK K;refine aK 16 ?_
    try simp only[ak]
    refine cz ?_;clear hHeld;have sj:=aa (qF.o.trans (HG2.o.trans hg3));clear Yi hg3;obtain⟨sb,Yj⟩:∃b,l6 u7 uj=b:=⟨_,rfl⟩;rw[Yj] at Qy ⊢;clear Yj
    cases sb with
    | true =>
     go_wp2_with fail;go_ret;have hres:R=true:=by rw[← HR.o,List.any_eq_true];exact⟨ag[j],aY hlt,Qy.o⟩
     rw[hres];exact⟨rfl,bz.o.trans sj.o⟩
    | false =>
     have wX:=aa (show ∀i (hi:i<ag.length),i<j+1→jI xp d ag[i]=false from fun i hi hij=>by
      by_cases ie:i=j
      ·subst ie;exact Qy.o
      exact HN.o i hi (by omega))
     go_wp2_with fail;go_roundg gk';exact⟨j+1,by omega,by omega,by go_num,wX.o,sj.o⟩;omega
 have hjl:j=ag.length:=by omega
 subst hjl;have hres:R=false:=by
  rw[← HR.o,M8];intro v hv;obtain⟨i,hi,rfl⟩:=kH hv;rw[HN.o i hi hi];decide
 have mU:=aa hres;clear hres hgr
 cases t7 with
 | false =>
  go_wp2_with fail;go_ret;rw[mU.o];exact⟨rfl,cm.o⟩
 | true =>
  go_wp2_with fail;go_ret;rw[mU.o];exact⟨rfl,cm.o⟩
end
section
open Go.RowKit
theorem InL.Yk{w:World}{A:Option Addr}{cap:Nat}{vs:List V}(h:InL w A cap vs):In w (.mk 0 0 [] vs []) ⟨0,0,none,0,0,A,vs.length,cap,none,0,0⟩:=by
 unfold InL In at *;rw[IsV] at h ⊢;obtain⟨e1,e2,e3,e4,e5,h1',h2',h3,h4,h5,h6,h7,h8,h9,hb,hL,hF⟩:=h;exact⟨rfl,e2,e3,e4,e5,by decide,by decide,h3,h4,h5,h6,h7,h8,h9,hb,hL,hF⟩
theorem Yl(l m:List V)(A B:Option Addr)(ca cb:Nat)(w:World)(ha:InL w A ca l)(hb:InL w B cb m) :
 Calls prog 19 #[.slice A l.length ca,.slice B m.length cb] w fun e w'=>∃b,e=.returned (.bool b)∧(b=true↔l=m)∧Grow w w':=by
 have HC:=aa (T9 (.mk 0 0 [] l []) (.mk 0 0 [] m []) w _ _ ha.Yk hb.Yk);have hs:l6 (.mk 0 0 [] l []) (.mk 0 0 [] m [])=true↔l=m:=by
  rw[Nk];constructor
  ·intro h;injection h
  intro h;rw[h]
 have HS:=aa hs;obtain⟨b,hb⟩:∃b,l6 (.mk 0 0 [] l []) (.mk 0 0 [] m [])=b:=⟨_,rfl⟩;rw[hb] at HC HS;clear ha hs hb;go_enter func19,ntmps19;go_wp2_with fail;refine HC.o.mono ?_;rintro e w2 ⟨rfl,hg⟩;have HG:=aa hg;clear hg;go_wp2_with fail;go_ret;exact⟨b,rfl,HS.o,HG.o⟩
theorem agb(a b:Rp)(A B:Option Addr)(ca cb:Nat)(w:World)(ha:InL w A ca a.ag)(hb:InL w B cb b.ag) :
 Calls prog 51 #[.agg (dD a.e a.n A a.ag.length ca a.gY),.agg (dD b.e b.n B b.ag.length cb b.gY)] w fun e w'=>∃x,e=.returned (.bool x)∧(x=true↔a=b)∧Grow w w':=by
 have HL:=aa (fun w1 (hg:Grow w w1)=>Yl a.ag b.ag A B ca cb w1 (ha.grow hg) (hb.grow hg));clear ha hb;obtain⟨e,n,ag,cu⟩:=a;obtain⟨e',n',D7,Qz⟩:=b;dsimp only at HL ⊢;have aP:=aa (((ah w).alloc (.cells (dD e n A ag.length ca cu) 31)).alloc (.cells (dD e' n' B D7.length cb Qz) 31));by_cases h1:e=e'
 ·by_cases h2:n=n'
  ·by_cases h3:cu=Qz
   ·subst h1 h2 h3;have q1:(e==e)=true:=by simp
    have q2:(n==n)=true:=by simp
    have q3:(cu==cu)=true:=by simp
    go_enter func51,ntmps51;go_wp2_with fail;refine(HL.o _ aP.o).mono ?_;rintro ee w2 ⟨x,rfl,hx,hg⟩;have HG:=aa hg;have HX:=aa hx;clear hg hx;go_wp2_with fail;go_ret;refine⟨x,rfl,HX.o.trans ⟨fun h=>(by rw[h]),fun h=>(by injection h)⟩,aP.o.trans HG.o⟩
   subst h1 h2;have q1:(e==e)=true:=by simp
   have q2:(n==n)=true:=by simp
   have q3:(cu==Qz)=false:=by simp[h3]
   have HX:=aa h3;clear h3;go_enter func51,ntmps51;go_wp2_with fail;go_ret;exact⟨false,rfl,⟨fun h=>(by cases h),fun h=>by injection h with _ _ _ h;exact absurd h HX.o⟩,aP.o⟩
  subst h1;have q1:(e==e)=true:=by simp
  have q2:(n==n')=false:=by simp[h2]
  have HX:=aa h2;clear h2;go_enter func51,ntmps51;go_wp2_with fail;go_ret;exact⟨false,rfl,⟨fun h=>(by cases h),fun h=>by injection h with _ h;exact absurd h HX.o⟩,aP.o⟩
 have q1:(e==e')=false:=by simp[h1]
 have HX:=aa h1;clear h1;go_enter func51,ntmps51;go_wp2_with fail;go_ret;exact⟨false,rfl,⟨fun h=>(by cases h),fun h=>by injection h with h;exact absurd h HX.o⟩,aP.o⟩
theorem Ym(a b:Rp)(A B:Option Addr)(ca cb:Nat)(w:World)(ha:InL w A ca a.ag)(hb:InL w B cb b.ag) :
 Calls prog 23 #[.agg (dD a.e a.n A a.ag.length ca a.gY),.agg (dD b.e b.n B b.ag.length cb b.gY)] w fun e w'=>∃x,e=.returned (.bool x)∧(x=true↔a=b)∧Grow w w':=by
 have aP:=aa (((ah w).alloc (.cells (dD a.e a.n A a.ag.length ca a.gY) 31)).alloc (.cells (dD b.e b.n B b.ag.length cb b.gY) 31));have HR:=aa (agb a b A B ca cb _ (ha.grow aP.o) (hb.grow aP.o));clear ha hb;go_enter func23,ntmps23;go_wp2_with fail;refine HR.o.mono ?_;rintro ee w2 ⟨x,rfl,hx,hg⟩;have HG:=aa hg;have HX:=aa hx;clear hg hx;go_wp2_with fail;go_ret;exact⟨x,rfl,HX.o,aP.o.trans HG.o⟩
end
section
open Go.RowKit Go.Shelf
abbrev He(k n:Int):Cv:=⟨k,n,none,0,0,none,0,0,none,0,0⟩
theorem Yn{F:Func}{W:World}{vb:Nat}{tmps:Array Value}(i:Nat)(hF:F.results=#[ResultVar.cell i 27])(h2:tmps.getD i undef=.pointer (some ⟨vb,0,none⟩))(c:Cv)(hv:Blk W vb 27 c.cells) :
 (results F tmps).run prog W=.ok c.agg W:=by
 have wV:=hv.cell;have h2':tmps[i]?.getD undef=.pointer (some ⟨vb,0,none⟩):=by simpa using h2
 simp[results,hF,go_sem,h2',wV]
theorem Yo{C:Addr→Value→Prop}{n:Nat}(h:n<18446744073709551616):IsV C (iV n) (He 3 n):=by
 unfold iV;rw[IsV];exact⟨rfl,rfl,rfl,rfl,rfl,by decide,by decide,h,by simp,by simp,by simp,by simp,by simp,by simp,⟨rfl,fun h=>by simp at h⟩,fun i hi=>by simp at hi,fun i hi=>by simp at hi⟩
theorem Yp(n:Nat)(k:Int)(hn:n≤9223372036854775807)(hk:k=n)(w:World):Calls prog 10 #[.int .i64 k] w fun e w'=>e=.returned (He 3 n).agg∧Grow w w':=by
 subst hk;have hwr:IntKind.u64.wrap (n:Int)=(n:Int):=IntWalk.u64_in _ (by omega);have HW:=aa hwr;clear hwr;go_enter func10,ntmps10;go_wp2_with fail;exact gK (Yn 2 rfl rfl (He 3 n) (aH w _ _)) rfl ⟨rfl,(ah w).alloc _⟩
abbrev Yq(s:ByteArray)(c:Cv):List Value:=.string s::c.cells.toList
abbrev Bk(w w':World)(v:V)(c:Cv):Prop:=IsV (bE w' w.heap.size w'.heap.size) v c
theorem Bk.nj{w w':World}{v:V}{c:Cv}(h:Bk w w' v c):In w' v c:=iL (fun _ _ q=>⟨q.1,aS _,q.2.2⟩) _ _ h
theorem Bk.mg{w0 w:World}{g n:Nat}{cs:Array Value}{f:List (ByteArray×V)}{xs:List Cv}(hl:f.length=xs.length)(hn:n=f.length)(hsm:f.length≤64)(hs:∀x∈f,x.1.size≤140737488355328)(hB:Blk w g 82 cs)
 (hc:∀i (hi:i<f.length) j v,(Yq f[i].1 (xs[i]'(by omega)))[j]?=some v→cs[i*6+j]?=some v) (h:∀i (hi:i<f.length),IsV (bE w w0.heap.size w.heap.size) f[i].2 (xs[i]'(by omega))) (h0:w0.heap.size≤g):Bk w0 w (.mk 8 0 [] [] f) ⟨8,0,none,0,0,none,0,0,some ⟨g,0,none⟩,n,n⟩:=by
 have hlt:=hB.lt;subst hn;unfold Bk;rw[IsV];refine⟨rfl,rfl,rfl,rfl,rfl,by decide,by decide,by decide,by simp,by simp,by simp,by simp,av _,by omega,⟨rfl,fun h=>by simp at h⟩,fun i hi=>by simp at hi,fun i hi=>?_⟩;have hcell:∀j v,(Yq f[i].1 (xs[i]'(by omega)))[j]?=some v→w.cell? ⟨g,0+i*6+j,none⟩=some v:=fun j v hv=>by
  rw[dg,hB.cell];exact hc i hi j v hv
 exact⟨g,0,xs[i]'(by omega),rfl,⟨hcell 0 _ rfl,h0,hlt⟩,hs _ (aY hi),⟨⟨hcell 1 _ rfl,h0,hlt⟩,⟨hcell 2 _ rfl,h0,hlt⟩,⟨hcell 3 _ rfl,h0,hlt⟩,⟨hcell 4 _ rfl,h0,hlt⟩,⟨hcell 5 _ rfl,h0,hlt⟩⟩,h i hi⟩
abbrev xK(A:Option Addr)(n:Nat):Cv:=⟨8,0,none,0,0,none,0,0,A,n,n⟩
theorem Yr(i x:Nat)(a b:Int)(ha:a=i)(hb:b=x)(hi:i≤9223372036854775807)(hx:x≤9223372036854775807)(w:World) :
 Calls prog 9 #[.int .i64 a,.int .i64 b] w fun e w'=>∃A,e=.returned (xK A 2).agg∧Bk w w' (dV i x) (xK A 2)∧Grow w w':=by
 have w_:=aa (fun W=>Yp i a hi ha W);have Aq:=aa (fun W=>Yp x b hx hb W);have aP:=aa ((ah w).alloc (.cells Cv.zero.cells 27));have bf:=aa (aH w 27 Cv.zero.cells);clear ha hb;go_enter func9,ntmps9;go_wp2_with fail;refine(w_.o _).mono ?_;rintro e w1 ⟨rfl,hg1⟩;have aN:=aa (aP.o.trans hg1);have aQ:=aa (bf.o.grow hg1);clear hg1;go_wp2_with fail;refine(Aq.o _).mono ?_;rintro e w2 ⟨rfl,hg2⟩;have HG2:=aa (aN.o.trans hg2);have aG:=aa (aQ.o.grow hg2);have aX:=aa ((aG.o).alloc (.cells #[.string ⟨#[95,105,100]⟩,.int .i64 3,.int .u64 i,.slice none 0 0,.slice none 0 0,.slice none 0 0,.string ⟨#[120]⟩,.int .i64 3,.int .u64 x,.slice none 0 0,.slice none 0 0,.slice none 0 0] 82))
 have Yt:=aa (aH w2 82 #[.string ⟨#[95,105,100]⟩,.int .i64 3,.int .u64 i,.slice none 0 0,.slice none 0 0,.slice none 0 0,.string ⟨#[120]⟩,.int .i64 3,.int .u64 x,.slice none 0 0,.slice none 0 0,.slice none 0 0]);have aJ:=aa (HG2.o.alloc (.cells #[.string ⟨#[95,105,100]⟩,.int .i64 3,.int .u64 i,.slice none 0 0,.slice none 0 0,.slice none 0 0,.string ⟨#[120]⟩,.int .i64 3,.int .u64 x,.slice none 0 0,.slice none 0 0,.slice none 0 0] 82));have hbc:=aX.o.cell;have tZ:=aX.o.frozen;clear hg2;go_wp2_with fail;clear hbc tZ;generalize w2.alloc (.cells #[.string ⟨#[95,105,100]⟩,.int .i64 3,.int .u64 i,.slice none 0 0,.slice none 0 0,.slice none 0 0,.string ⟨#[120]⟩,.int .i64 3,.int .u64 x,.slice none 0 0,.slice none 0 0,.slice none 0 0] 82)=W3 at aX Yt aJ ⊢;have hne:w2.heap.size≠w.heap.size:=by have:=aG.o.lt;omega
 refine gK (Yn 4 rfl rfl (xK (some ⟨w2.heap.size,0,none⟩) 2) (((((aX.o.bg 0 _).bg 1 _).bg 2 _).bg 3 _).bg 4 _)) rfl ⟨_,rfl,?_,((((aJ.o.setCell (by simp) _).setCell (by simp) _).setCell (by simp) _).setCell (by simp) _).setCell (by simp) _⟩;refine Bk.mg (f:=[(mK,iV i),(nX,iV x)]) (xs:=[He 3 i,He 3 x]) rfl rfl (by simp) (fun y hy=>?_) (((((Yt.o.far (p:=⟨w.heap.size,0,none⟩) hne _).far (p:=⟨w.heap.size,1,none⟩) hne _).far (p:=⟨w.heap.size,2,none⟩) hne _).far (p:=⟨w.heap.size,3,none⟩) hne _).far (p:=⟨w.heap.size,4,none⟩) hne _) (fun k hk j v hv=>?_) (fun k hk=>?_) HG2.o.size
 ·simp at hy;rcases hy with rfl | rfl
  ·show mK.size≤_;decide
  show nX.size≤_;decide
 ·have hk2:k=0∨k=1:=by simp at hk;omega
  rcases hk2 with rfl | rfl
  ·rcases j with _ | _ | _ | _ | _ | _ | j<;>first | exact hv | simp at hv
  rcases j with _ | _ | _ | _ | _ | _ | j<;>first | exact hv | simp at hv
 have hk2:k=0∨k=1:=by simp at hk;omega
 rcases hk2 with rfl | rfl
 ·exact Yo (by omega)
 exact Yo (by omega)
end
end Go.Proofs.YtndjopkdbdcmdaaGreatDoor
