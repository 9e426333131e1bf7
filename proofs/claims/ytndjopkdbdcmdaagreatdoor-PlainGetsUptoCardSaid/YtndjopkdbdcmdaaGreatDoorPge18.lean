/- Part 18 of the proof of pgets_card. -/
import Derived.Test.YtndjopkdbdcmdaaGreatDoorPge15
import Derived.Test.YtndjopkdbdcmdaaGreatDoorPge16
import Derived.Test.YtndjopkdbdcmdaaGreatDoorPge17
set_option linter.unusedVariables false
set_option linter.unusedSimpArgs false
set_option maxRecDepth 100000
set_option maxHeartbeats 12800000
open Go.Proofs.Tryz
open Go.RowKit
namespace Go.Proofs.YtndjopkdbdcmdaaGreatDoor
variable {A dA:Option Addr}{C:Addr→Value→Prop}{K:Act→World→Prop}{S:Nat→Prop}{T t:TypeId}{W W0 W3 w w' wn:World}{a:Act}{af:Array Edge}{args:Array Value}{base bk c fuel g g4 i j m rb z:Nat}{d:Option Tmp}{e:Int}{es:List Cc}{listed:Array Bool}{p:String}{q:Rq}{s:ByteArray}{st st':List Co}{u v:Value}{xs:List Value}
theorem ahr(nm:ByteArray)(ag:List V)(dA xA:Option Addr)(dc xn xc:Nat)(k:List UInt8)(w:World)(hd:InL w dA dc ag)(hok:∀d∈ag,gh d)(hr:fw (gf ag))(hl:ag.length≤1000000)(hf:gL ag k=true) :
 Calls prog 75 #[.agg #[.string nm,.slice dA ag.length dc,.slice xA xn xc],.string ⟨k.toArray⟩] w fun e w'=>∃A c,e=.returned (.agg #[.string nm,.slice A (cT ag (gK ag k)).length c,.slice xA xn xc])∧InL w' A c (cT ag (gK ag k))∧Grow w w':=by
 obtain⟨cs,hrow,jU⟩:=RP hd;have fK:=aa hrow;have qQ:=aa jU;have jB:=aa (show ag.length≤dc from by unfold InL In at hd;rw[IsV] at hd;exact hd.2.2.2.2.2.2.2.2.2.2.1);have HG:=aa (((ah w).alloc (.cells #[.string nm,.slice dA ag.length dc,.slice xA xn xc] 48)).alloc (.cells #[.string ⟨#[]⟩,.slice none 0 0,.slice none 0 0] 48));have bf:=aa ((az w 48 #[.string nm,.slice dA ag.length dc,.slice xA xn xc]).alloc (.cells #[.string ⟨#[]⟩,.slice none 0 0,.slice none 0 0] 48));have ar:=aa (cM (w:=w.alloc (.cells #[.string nm,.slice dA ag.length dc,.slice xA xn xc] 48)) (g:=w.heap.size+1) (by simp) 48 #[.string ⟨#[]⟩,.slice none 0 0,.slice none 0 0]);have jn:=aa (fun(W:World) (hg:Grow w W)=>H_ nm ag dA xA dc xn xc k W (hd.grow hg) hok hr hl)
 obtain⟨kS,lT⟩:∃s,(⟨k.toArray⟩:ByteArray)=s:=⟨_,rfl⟩;have hpl:=yj hf;obtain⟨P,hP⟩:∃p,gK ag k=p:=⟨_,rfl⟩;rw[lT,hP,hf] at jn;rw[lT];rw[hP] at hpl ⊢;have pQ:=aa (qp hpl);clear hrow jU hd hok hr lT hP hf;go_enter func75,ntmps75;go_upto_region 1 with fail;generalize (w.alloc (.cells #[.string nm,.slice dA ag.length dc,.slice xA xn xc] 48)).alloc (.cells #[.string ⟨#[]⟩,.slice none 0 0,.slice none 0 0] 48)=W3 at HG bf ar ⊢;have hb2:=bf.o.cell;go_wp2_with fail;refine(jn.o W3 HG.o).mono ?_;rintro e W5 ⟨rfl,bK⟩;have a_:=aa (HG.o.trans bK);replace bf:=aa (bf.o.grow bK);replace ar:=aa (ar.o.grow bK);have eP:=aa (eV (eU a_.o.below (au _) (au _) a_.o.size) fK.o);clear hb2 bK;have hb2:=bf.o.cell
 have hi0:(0:Int)≤(P:Int):=by omega
 have hi1:(P:Int)≤(ag.length:Int):=by omega
 have hi2:(P:Int)≤(dc:Int):=by have:=jB.o;omega
 clear jn;have hsh:=Za (A:=dA) (i:=P) pQ.o jB.o;go_upto_region 6 with (at_builtin;refine CD (w0:=W5) (.tmp 17) (.tmp 21) 24 27 5 88 _ km qB rfl rfl rfl (Y_ eP.o P dc pQ.o) (by omega) (by simp only[maxLen];omega) (ah _) ?_;intro A6 c6 w6 ll bE);clear hsh;have ua:=aa ll;have aW:=aa bE;clear hb2 ll bE;obtain⟨q,hq⟩:∃q,P+1=q:=⟨_,rfl⟩;have EO:(P:Int)+1=(q:Int):=by omega
 have EP:IntKind.i64.wrap (q:Int)=(q:Int):=by rw[df];omega
 have hq0:(0:Int)≤(q:Int):=by omega
 have hq1:(q:Int)≤(ag.length:Int):=by omega
 have hq2:(q:Int)≤(dc:Int):=by have:=jB.o;omega
 have Ie:q≤ag.length:=by omega
 have hcap:=jB.o;have HQ:=aa hq;have ue:=aa (bf.o.grow aW.o);have fR:=aa (eV (eU aW.o.below (au _) (au _) aW.o.size) eP.o);have hb2:=ue.o.cell;clear hq;obtain⟨AZ,hsl,hsrc⟩:=RQ (A:=dA) (i:=q) Ie hcap;have kp:=aa hsrc;clear hsrc;go_upto_region 7 with (at_builtin;refine vG (w0:=W5) (.tmp 23) (.tmp 28) 24 27 5 88 _ km qB rfl rfl ua.o rfl (kp.o _ _ _ fR.o) (by omega) (by simp only[maxLen];omega) aW.o ?_;intro A8 c8 w8 dD bW;have kI:=(bf.o.grow bW).cell;have yE:=(bf.o.grow bW).frozen);clear hsl;have gi:=(cZ (S:=fun x=>x=w.heap.size) w8).set (p:=⟨w.heap.size,1,none⟩) rfl (.slice A8 (P+(ag.length-q)) c8);have lV:=aa ((bf.o.grow bW).aY 1 (.slice A8 (P+(ag.length-q)) c8))
 have jY:=aa (gi.blk (ar.o.grow bW) (by omega));have hbase:w.heap.size<W5.heap.size:=bf.o.lt;have jy:=fG dD gi (fun g hg e=>by
  have:=(bJ dD g (by rw[bj];exact hg)).1;omega)
 have iF:=aa jy;have dN:=aa ((a_.o.trans bW).setCell (p:=⟨w.heap.size,1,none⟩) (au _) (.slice A8 (P+(ag.length-q)) c8));clear gi dD jy bW kI yE hb2
 try simp only[fX] at lV jY iF dN
 generalize w8.setCell ⟨w.heap.size,1,none⟩ _=w9 at lV jY iF dN ⊢;have hbc:=lV.o.cell;have hb4:=jY.o.cell;have im:=jY.o.frozen;go_wp2_with fail;refine gV (Mg (cs:=#[.string nm,.slice A8 (P+(ag.length-q)) c8,.slice xA xn xc]) rfl rfl rfl ?_) rfl ?_
 ·exact((jY.o.aY 0 _).aY 1 _).aY 2 _
 have HK:=(((cZ (S:=fun x=>x=w.heap.size+1) w9).set (p:=⟨w.heap.size+1,0,none⟩) rfl (.string nm)).set (p:=⟨w.heap.size+1,1,none⟩) rfl (.slice A8 (P+(ag.length-q)) c8)).set (p:=⟨w.heap.size+1,2,none⟩) rfl (.slice xA xn xc);have Gx:w.heap.size+1<W5.heap.size:=ar.o.lt;have hown:=fG iF.o HK (fun g hg e=>by
  have:=(bJ iF.o g (by rw[bj];exact hg)).1;omega)
 have bZ:=dN.o.below.trans (HK.below (B:=w.heap.size) dN.o.size (fun q hq=>by omega));have t_:cT ag P=ag.take P++ag.drop q:=by rw[← HQ.o];rfl
 have hlen:P+(ag.length-q)=(ag.take P++ag.drop q).length:=by
  rw[bp,dU,iw];omega
 rw[t_];exact⟨A8,c8,by rw[← hlen],ag7 hown qQ.o bZ hlen hl,bZ⟩
theorem xy:prog.underlying 42=some (.slice 48):=by kernel_rfl
theorem EU:(prog.info? 48).map (fun i=>(i.zero,i.size,i.bytes))=some (some (.agg #[.string ⟨#[]⟩,.slice none 0 0,.slice none 0 0]),3,64):=by kernel_rfl
theorem Mj(st:List Co)(A:Option Addr)(cap i:Nat)(e:Cc)(c:Co)(w:World)(hst:cQ w A cap st)(hc:qL w e c)(hi:i<st.length)(hl:st.length≤1000000) :
 Calls prog 73 #[.agg #[.slice A st.length cap],.int .i64 i,.agg e.cells] w fun e' w'=>∃A' c',e'=.returned (.agg #[.slice A' (st.set i c).length c'])∧cQ w' A' c' (st.set i c)∧Grow w w':=by
 obtain⟨hcap,es,jU,hrow⟩:=hst;have qQ:=aa jU;have fK:=aa hrow;have HC:=aa hc;have hel:es.length=st.length:=jU.1;have jo:=aa hel;have HG:=aa (((((ah w).alloc (.cells #[.slice A st.length cap] 44)).alloc (.cells e.cells 48)).alloc (.cells #[.slice none 0 0] 44)).alloc (.cells #[.slice none 0 0] 44));have bn:=aa ((((az w 44 #[.slice A st.length cap]).alloc (.cells e.cells 48)).alloc (.cells #[.slice none 0 0] 44)).alloc (.cells #[.slice none 0 0] 44));have av:=aa (((cM (w:=w.alloc (.cells #[.slice A st.length cap] 44)) (g:=w.heap.size+1) (by simp) 48 e.cells).alloc (.cells #[.slice none 0 0] 44)).alloc (.cells #[.slice none 0 0] 44))
 have dh:=aa ((cM (w:=(w.alloc (.cells #[.slice A st.length cap] 44)).alloc (.cells e.cells 48)) (g:=w.heap.size+1+1) (by simp) 44 #[.slice none 0 0]).alloc (.cells #[.slice none 0 0] 44));have eu:=aa (cM (w:=((w.alloc (.cells #[.slice A st.length cap] 44)).alloc (.cells e.cells 48)).alloc (.cells #[.slice none 0 0] 44)) (g:=w.heap.size+1+1+1) (by simp) 44 #[.slice none 0 0]);clear hrow jU hc hel hcap;go_enter func73,ntmps73;go_upto_region 2 with fail;generalize (((w.alloc (.cells #[.slice A st.length cap] 44)).alloc (.cells e.cells 48)).alloc (.cells #[.slice none 0 0] 44)).alloc (.cells #[.slice none 0 0] 44)=W4 at HG bn av dh eu ⊢;have bY:=aa (eV (eU HG.o.below (au _) (au _) HG.o.size) fK.o);have hb3:=bn.o.cell;have lS:=eu.o.cell
 go_upto_region 3 with (at_builtin;refine CD (w0:=W4) (.tmp 9) (.tmp 11) 42 48 3 64 _ xy EU rfl rfl rfl (eW (c:=cap) xy bY.o (Ei es)) (by omega) (by simp only[maxLen];omega) (ah _) ?_;intro A6 c6 w6 ll bE;have kI:=(eu.o.grow bE).cell;have yE:=(eu.o.grow bE).frozen);obtain⟨g6,ahs,EW,anD,Mk,RV,zX,cH,-,-⟩:=ju ll (by omega);subst EW;have anE:w.heap.size+1+1+1<W4.heap.size:=eu.o.lt;have HT:=(cZ (S:=fun x=>x=w.heap.size+1+1+1) w6).set (p:=⟨w.heap.size+1+1+1,0,none⟩) rfl (.slice (some ⟨g6,0,none⟩) st.length c6);have RX:=aa ((eu.o.grow bE).aY 0 (.slice (some ⟨g6,0,none⟩) st.length c6));have Zq:=aa (HT.blk (av.o.grow bE) (by omega));have Zr:=aa (HT.blk (dh.o.grow bE) (by omega))
 have eZ:=fG ll HT (fun g hg e=>by
  have hg2:g6=g:=nZ hg;omega)
 have pX:=aa eZ;have aX:=aa ((HG.o.trans bE).setCell (p:=⟨w.heap.size+1+1+1,0,none⟩) (by simp;omega) (.slice (some ⟨g6,0,none⟩) st.length c6));clear HT ll eZ bE kI yE hb3 lS Mk RV zX cH;generalize w6.setCell ⟨w.heap.size+1+1+1,0,none⟩ _=w7 at RX Zq Zr pX aX ⊢;obtain⟨g6',ahs,EW,-,Mk,RV,zX,cH,-,-⟩:=ju pX.o (by omega);have Ij:w7.there g6 (i*3) 3:=fun k hk=>by
  have e6:g6=g6':=by injection EW with EW;injection EW
  rw[e6];exact mv Mk (i*3+k) (by rw[cH];have:(i+1)*3≤c6*3:=gq 3 (by omega);omega)
 have tW:=aa Ij;have lS:=RX.o.cell;have dG:=Zq.o.cell;have hi0:(0:Int)≤(i:Int):=by omega
 have hi1:(i:Int)<(st.length:Int):=by omega
 clear Ij Mk RV zX cH EW;go_upto_region 4 with ((with_reducible refine aht 48 ?_);refine wpList_store_mid rfl 48 (.tmp 18) (.tmp 17) rfl g6 (i*3) e.cells rfl rfl tW.o (by kernel_rfl) (by simp[Value.oneCell']) ?_);have hput:=Lt (D:=i) (vs:=e.cells.toList) pX.o hi rfl;rw[show (cY es).take (i*3)++e.cells.toList++(cY es).drop ((i+1)*3)=cY (es.set i e) from PL (fun e:Cc=>e.cells.toList) 3 (fun _=>rfl) es i e (by rw[jo.o];exact hi)] at hput;have HK:=(pM (mJ g6 (some g6) rfl e.cells.toList w7 (i*3))).mono (S':=fun q=>q=g6) (fun q hq=>by injection hq with hq;exact hq.symm);have anF:=(bJ pX.o g6 (by rw[bj];rfl)).1;have Zt:=aa (HK.blk RX.o (by omega));have Ml:=aa (HK.blk Zr.o (by omega));have yF:=aa hput
 have bR:=aa (aX.o.below.trans (HK.below (B:=w.heap.size) aX.o.size (fun q hq=>by have:=HG.o.size;omega)));clear hput HK lS dG;generalize w7.setCells g6 (i*3) e.cells.toList=w8 at Zt Ml yF bR ⊢;have lS:=Zt.o.cell;have EX:=Ml.o.cell;have hf6:=Ml.o.frozen;go_wp2_with fail;refine gV (Zf (cs:=#[.slice (some ⟨g6,0,none⟩) st.length c6]) rfl rfl rfl ?_) rfl ?_
 ·exact Ml.o.aY 0 _
 have HK:=(cZ (S:=fun x=>x=w.heap.size+1+1) w8).set (p:=⟨w.heap.size+1+1,0,none⟩) rfl (.slice (some ⟨g6,0,none⟩) st.length c6);have hown:=fG yF.o HK (fun g hg e=>by
  have hg2:g6=g:=nZ hg;omega)
 have bZ:=bR.o.trans (HK.below (B:=w.heap.size) bR.o.size (fun q hq=>by omega));refine⟨some ⟨g6,0,none⟩,c6,by rw[gW],⟨by rw[gW];exact(mW hown).1,es.set i e,(qQ.o.mono fun a b k=>k.mono (eU bZ (au _) (au _) (Below.size bZ))).set i (HC.o.mono (eU bZ (au _) (au _) (Below.size bZ))),?_⟩,bZ⟩;rw[gW];exact eV jS (lM (S:=fun _=>False) hown (fun _ _ h=>h))
structure sD (q:Rq):Prop where
 key:q.key.count≤20000
 low:q.low.count≤20000
 high:q.high.count≤20000
 doc:q.doc.count≤20000
 fit:q.doc.fit
structure Zu (q:Rq) (w:World) (B:Nat):Prop extends sD q where
 tabs:dz w
 RY:kD w
 all:∀W,Below B w W→dz W∧kD W
def i6(k:Int):Nat:=if k=1 then 79 else if k=2 then 80 else if k=3 then 81 else if k=4 then 81 else if k=5 then 82 else
 if k=6 then 83 else if k=7 then 84 else if k=8 then 85 else if k=9 then 86 else 87
theorem ahu(k:Int)(h:1≤k∧k≤10):∃i,Instr.findNow (.int .i64) (.int .i64 k) reqs.toList 0=some (some (i,.agg #[.func (.func (i6 k)) #[] #[]])):=by
 have hk:k=1∨k=2∨k=3∨k=4∨k=5∨k=6∨k=7∨k=8∨k=9∨k=10:=by omega
 rcases hk with rfl | rfl | rfl | rfl | rfl | rfl | rfl | rfl | rfl | rfl<;>exact⟨_,rfl⟩
theorem ahv(N B mb cap:Nat)(A:Option Addr)(es:List Cc)(st:List Co)(q:Rq)(ck cl ch cx:Cv)(w:World)(h:dm w B mb A cap es st q ck cl ch cx)(hok:cz N st)(hN:N≤1000000)(hR:Zu q w B)(hd:1≤q.aM∧q.aM≤10) :
 Calls prog (i6 q.aM) #[.pointer (some ⟨mb,0,none⟩)] w fun e w'=>∃r,qN N st q r∧nJ w B mb r e w':=by
 have hk:q.aM=1∨q.aM=2∨q.aM=3∨q.aM=4∨q.aM=5∨q.aM=6∨q.aM=7∨q.aM=8∨q.aM=9∨q.aM=10:=by omega
 rcases hk with e | e | e | e | e | e | e | e | e | e
 ·rw[show i6 q.aM=79 from by rw[e];rfl];exact(af4 N B mb cap A es st q ck cl ch cx w h hok hN hR.tabs).mono fun _ _ hm=>⟨_,.inl (by unfold h_;rw[e];rfl),hm⟩
 ·rw[show i6 q.aM=80 from by rw[e];rfl];exact(af0 N B mb cap A es st q ck cl ch cx w h hok hN).mono fun _ _ hm=>⟨_,.inl (by unfold h_;rw[e];rfl),hm⟩
 ·rw[show i6 q.aM=81 from by rw[e];rfl];exact(X7 N B mb cap A es st q ck cl ch cx w h hok hN hR.tabs hR.RY hR.doc hR.fit).mono fun _ _ ⟨r,hr,hm⟩=>⟨r,hr.imp (fun h=>h.trans (by unfold h_;rw[e];rfl)) fun h=>.inl ⟨by omega,h⟩,hm⟩
 ·rw[show i6 q.aM=81 from by rw[e];rfl];exact(X7 N B mb cap A es st q ck cl ch cx w h hok hN hR.tabs hR.RY hR.doc hR.fit).mono fun _ _ ⟨r,hr,hm⟩=>⟨r,hr.imp (fun h=>h.trans (by unfold h_;rw[e];rfl)) fun h=>.inl ⟨by omega,h⟩,hm⟩
 ·rw[show i6 q.aM=82 from by rw[e];rfl];exact(af9 N B mb cap A es st q ck cl ch cx w h hok hN hR.key hR.tabs).mono fun _ _ hm=>⟨_,.inl (by unfold h_;rw[e];rfl),hm⟩
 ·rw[show i6 q.aM=83 from by rw[e];rfl];exact(af8 N B mb cap A es st q ck cl ch cx w h hok hN hR.key hR.tabs).mono fun _ _ hm=>⟨_,.inl (by unfold h_;rw[e];rfl),hm⟩
 ·rw[show i6 q.aM=84 from by rw[e];rfl];exact(afH N B mb cap A es st q ck cl ch cx w h hok hN hR.tabs hR.RY).mono fun _ _ ⟨r,hr,hm⟩=>⟨r,.inr (.inr ⟨.inl e,hr⟩),hm⟩
 ·rw[show i6 q.aM=85 from by rw[e];rfl];exact(age N B mb cap A es st q ck cl ch cx w h hok hN).mono fun _ _ hm=>⟨_,.inl (by unfold h_;rw[e];rfl),hm⟩
 ·rw[show i6 q.aM=86 from by rw[e];rfl];exact(agp N B mb cap A es st q ck cl ch cx w h hok hN (fun W hb=>hR.all W hb) hR.low hR.high).mono fun _ _ ⟨r,hr,hm⟩=>⟨r,.inr (.inr ⟨.inr e,hr⟩),hm⟩
 rw[show i6 q.aM=87 from by rw[e];rfl];exact(aeU N B mb cap A es st q ck cl ch cx w h hok hN).mono fun _ _ hm=>⟨_,.inl (by unfold h_;rw[e];rfl),hm⟩
theorem ahw(h:¬ (1≤q.aM∧q.aM≤10)):h_ st q=.error 1:=by
 unfold h_;rw[ak (by omega),ak (by omega),ak (by omega),ak (by omega),ak (by omega),ak (by omega),ak (by omega),ak (by omega)]
structure Sb where
 A:Option Addr
 c:Nat
 b:List UInt8
abbrev Sb.cells(e:Sb):Array Value:=#[.slice e.A e.b.length e.c]
def ln(es:List Sb):List Value:=(es.map fun e=>e.cells.toList).flatten
theorem Zv(es:List Sb):∀v∈ln es,v.oneCell'=true:=by
 intro v hv;simp only[ln,F3,mI] at hv;obtain⟨_,⟨e,_,rfl⟩,h⟩:=hv;simp at h;rcases h with rfl;rfl
theorem RZ:(prog.info? 23).map (fun i=>(i.zero,i.size,i.bytes))=some (some (.slice none 0 0),1,24):=by kernel_rfl
theorem EY:prog.underlying 72=some (.slice 23):=by kernel_rfl
section
variable {w:World} {ad:Addr} {A:Option Addr} {n:Nat} {xs:List Sb}
theorem ahx(h:Reads (bQ w 0 w.heap.size) 1 A n (ln xs))(i c:Nat)(hi:i≤n):Src prog 1 72 (.slice A i c) i (ln (xs.take i)) w:=by
 have hh:=eW (c:=c) EY (h.Ia i hi) (fun u hu=>Zv xs u (Bg hu));rwa [show (ln xs).take (i*1)=ln (xs.take i) from yi (fun e:Sb=>e.cells.toList) 1 (fun _=>rfl) xs i] at hh
theorem ahy{cap:Nat}(h1:i≤n)(h2:n≤cap)(w:World):(Instr.sliceAt 72 (.slice A n cap) none (some (.int .i64 (i:Int))) none).run prog w=.ok (.slice A i cap) w:=by
 have k1:(0:Int)≤(i:Int):=by omega
 have k2:(i:Int)≤(n:Int):=by omega
 have k3:(i:Int)≤(cap:Int):=by omega
 rcases A with _ | a<;>go_simp
theorem ahz{cap:Nat}(h1:i≤n)(h2:n≤cap):∃B,(∀w,(Instr.sliceAt 72 (.slice A n cap) (some (.int .i64 (i:Int))) none none).run prog w=.ok (.slice B (n-i) (cap-i)) w) ∧
 ∀(w:World) (c:Nat) (xs:List Sb),Reads (bQ w 0 w.heap.size) 1 A n (ln xs)→Src prog 1 72 (.slice B (n-i) c) (n-i) (ln (xs.drop i)) w:=by
 have k1:(0:Int)≤(i:Int):=by omega
 have k2:(i:Int)≤(n:Int):=by omega
 have k3:(i:Int)≤(cap:Int):=by omega
 refine⟨if cap=i then A else A.map (·.add (i*1)),fun w=>by rcases A with _ | a<;>go_simp,fun w c xs h=>?_⟩;have hh:=eW (c:=c) EY (h.Ib i cap h1 h2) (fun u hu=>Zv xs u (uA hu));rwa [show (ln xs).drop (i*1)=ln (xs.drop i) from tN (fun e:Sb=>e.cells.toList) 1 (fun _=>rfl) xs i] at hh
theorem ahA(e:Sb)(hb:Blk w g 23 e.cells):Src prog 1 72 (.slice (some ⟨g,0,none⟩) 1 1) 1 e.cells.toList w:=
 Src.ofSlice _ EY ⟨g,0,none⟩ 1 1 _ rfl (fun j u hu=>by
  rw[add_lit,eo,hb.cell j,← hu,nC]) (fun u hu=>by
  simp only[jI,wu,wB] at hu;rcases hu with rfl;rfl)
end
theorem Sb.at_{es:List Sb}(h:Reads (bQ w 0 w.heap.size) 1 A es.length (ln es)){k:Nat}(hk:k<es.length):∃bk o,A=some ⟨bk,o,none⟩∧bk<w.heap.size∧w.cell? ⟨bk,o+k,none⟩=some (.slice es[k].A es[k].b.length es[k].c):=by
 obtain⟨bk,o,hA,hc⟩:=h.2 (by omega);have:=hc (k*1+0) _ (mV (fun e:Sb=>e.cells.toList) 1 (fun _=>rfl) es k 0 (by omega) es[k] (bH hk));rw[sP,fX] at this;exact⟨bk,o,hA,this.2.2,this.1⟩
theorem ahB{n P:Nat}{xs:List Sb}{x:Sb}(h:w.ownsRow base 23 1 (.slice A n c) n (ln (xs.take P)++x.cells.toList++ln (xs.drop P)))(hn:n=(cD xs P x).length):w.ownsRow base 23 1 (.slice A (cD xs P x).length c) (cD xs P x).length (ln (cD xs P x)):=by
 have e:ln (cD xs P x)=ln (xs.take P)++x.cells.toList++ln (xs.drop P):=by simp[cD,ln]
 rw[← hn,e];exact h
def ahC(w:World)(e:Ending)(w':World):Prop:=Grow w w'∧∃v x,e=.returned (.tuple #[v,.int .i64 x])
theorem ahD(nm:ByteArray)(ag:List V)(dA xA:Option Addr)(dc xn xc:Nat)(x:Ix)(w:World)(hd:InL w dA dc ag)(hx:x.path.size<4294967281)(hok:∀d∈ag,gh d)(hl:ag.length≤1000000) :
 Calls prog 31 #[.agg #[.string nm,.slice dA ag.length dc,.slice xA xn xc],.agg x.cells] w (ahC w):=by
 have HD:=aa hd;have bD:=aa hok;have HL:=aa hl;have HG:=aa (((ah w).alloc (.cells #[.string nm,.slice dA ag.length dc,.slice xA xn xc] 48)).alloc (.cells x.cells 64));have bn:=aa ((az w 48 #[.string nm,.slice dA ag.length dc,.slice xA xn xc]).alloc (.cells x.cells 64));have ar:=aa (cM (w:=w.alloc (.cells #[.string nm,.slice dA ag.length dc,.slice xA xn xc] 48)) (g:=w.heap.size+1) (by simp) 64 x.cells);have mZ:=aa (fun(d:V) (c:Cv) (W:World) (hd:gh d) (hi:In W d c)=>RJ x d c W hx hd.count hd.fit hd.bytes hi);obtain⟨L_,xp,xu⟩:=x;dsimp only[Ix.cells] at HG bn ar mZ ⊢;clear hd hok hl hx;go_enter func31,ntmps31;go_wp2_with fail
 generalize (w.alloc (.cells #[.string nm,.slice dA ag.length dc,.slice xA xn xc] 48)).alloc (.cells #[.string L_,.string xp,.bool xu] 64)=w3 at HG bn ar ⊢;go_loopg [6,7] (ag.length+1) (fun gk sl i wr=>∃(j B:Nat) (Ao:Option Addr) (co:Nat) (es:List Sb),j≤ag.length∧gk+j=ag.length+1∧i=.int .i64 j∧sl=.slice Ao es.length co∧wr.ownsRow B 23 1 (.slice Ao es.length co) es.length (ln es)∧(∀e∈es,bh wr e.A e.b)∧es.length≤j∧Grow w3 wr);exact⟨0,0,none,0,[],aR _,rfl,rfl,rfl,jb _ _ _ _,fun e he=>by simp at he,au _,ah _⟩;obtain⟨j,B,Ao,co,es,hj,hg,rfl,rfl,hown,hes,hel,hgr⟩:=hrel;obtain⟨gk',rfl⟩:=bz gk (by omega);have hl0:=HL.o;have aJ:=aa hgr;have HOWN:=aa hown;have tD:=aa hes;have bI:=aa (HG.o.trans hgr)
 replace bn:=aa (bn.o.grow hgr);replace ar:=aa (ar.o.grow hgr);have jo:=aa hel;have hb3:=bn.o.cell;clear hown hes hel;by_cases hlt:j<ag.length
 ·obtain⟨bk,o,y,ha,hbk,e0,e1,e2,e3,e4,hy⟩:=(HD.o.grow bI.o).fh j hlt;dsimp only[js] at ha;subst ha;have ni:=bD.o ag[j] (aS hlt);have HE:=aa (fun(W:World) (hg:Grow wr W)=>mZ.o ag[j] y W ni (hy.grow hg));obtain⟨⟨b1,ok,er⟩,hp⟩:∃p,eB xp ag[j]=p:=⟨_,rfl⟩;rw[hp] at HE;clear ni hy hgr hp;go_upto_region 5 with fail
  have vH:=aa (fun(W:World) (hg:Grow wr W)=>show (∀i,W.cell? ⟨w.heap.size+1,i,none⟩=(#[.string L_,.string xp,.bool xu]:Array Value)[i]?)∧W.cell? ⟨w.heap.size,1,none⟩=some (.slice (some ⟨bk,o,none⟩) ag.length dc)∧W.cell? ⟨bk,o+j*5,none⟩=some (.int .i64 y.k)∧W.cell? ⟨bk,o+j*5+1,none⟩=some (.int .u64 y.n)∧W.cell? ⟨bk,o+j*5+2,none⟩=some (.slice y.aB y.nB y.cB)∧W.cell? ⟨bk,o+j*5+3,none⟩=some (.slice y.aL y.nL y.cL)∧W.cell? ⟨bk,o+j*5+4,none⟩=some (.slice y.aF y.nF y.cF) from
   ⟨(ar.o.grow hg).cell,(bn.o.grow hg).cell 1,(hg.below.cell (p:=⟨bk,o+j*5,none⟩) hbk).trans e0,(hg.below.cell (p:=⟨bk,o+j*5+1,none⟩) hbk).trans e1,(hg.below.cell (p:=⟨bk,o+j*5+2,none⟩) hbk).trans e2,(hg.below.cell (p:=⟨bk,o+j*5+3,none⟩) hbk).trans e3,(hg.below.cell (p:=⟨bk,o+j*5+4,none⟩) hbk).trans e4⟩)
  clear e0 e1 e2 e3 e4 hb3;refine dg ?_;refine cW (S:=fun w'=>(∀i,w'.cell? ⟨w.heap.size+1,i,none⟩=(#[.string L_,.string xp,.bool xu]:Array Value)[i]?)∧w'.cell? ⟨w.heap.size,1,none⟩=some (.slice (some ⟨bk,o,none⟩) ag.length dc)∧w'.cell? ⟨bk,o+j*5,none⟩=some (.int .i64 y.k)∧w'.cell? ⟨bk,o+j*5+1,none⟩=some (.int .u64 y.n)∧w'.cell? ⟨bk,o+j*5+2,none⟩=some (.slice y.aB y.nB y.cB)∧w'.cell? ⟨bk,o+j*5+3,none⟩=some (.slice y.aL y.nL y.cL)∧w'.cell? ⟨bk,o+j*5+4,none⟩=some (.slice y.aF y.nF y.cF)) (by kernel_rfl) (vH.o _ (ah _).drew) (fun hHeld=>?_);have iU:=aa (show Grow wr wr.drew from (ah _).drew);generalize wr.drew=W0 at iU hHeld ⊢;refine ai 0 (hy:=bU fun w ay=>by obtain⟨b4,-,-,-,-,-,-⟩:=ay;go_simp;try rfl) ?_;refine aZ 1 ?_
  refine ai 2 (hy:=bU fun w ay=>by obtain⟨-,gg,-,-,-,-,-⟩:=ay;go_simp;try rfl) ?_;refine aZ 3 ?_;refine aZ 4 ?_;refine ai 5 (hy:=bU fun w ay=>by obtain⟨-,-,k0,k1,k2,k3,k4⟩:=ay;go_simp;try rfl) ?_;refine aK 6 (fun K hK=>?_);have hC:=HE.o W0 iU.o;go_simp;go_at_call 29;refine hC.mono ?_;rintro ee W1 ⟨Zw,A1,c1,rfl,hb1,hr1,hg1⟩;refine aT hK (vH.o _ (iU.o.trans hg1)) (fun hHeld=>?_);refine aZ 7 ?_;refine aZ 8 ?_;refine aZ 9 ?_;refine aZ 10 ?_;refine aZ 11 ?_;refine aZ 12 ?_;refine aZ 13 ?_;refine cG ?_;clear hHeld hC;dsimp only at hr1;have cP:=aa (show bh W1 A1 b1 from eV (fun p u hp=>⟨hp.1,aR _,hp.2.2⟩) hr1.reads.1);have iW:=aa (iU.o.trans hg1);clear hr1 hg1 hb1;by_cases EZ:er=0
  ·subst EZ
   cases ok with
   | false =>
    go_wp2_with fail;go_roundg gk';exact⟨j+1,B,Ao,co,es,by omega,by omega,by go_num,rfl,kG HOWN.o iW.o,fun e he=>(tD.o e he).grow iW.o,by have:=jo.o;omega,aJ.o.trans iW.o⟩;omega
   | true =>
    have Zx:=aa (kG HOWN.o iW.o);have Zy:=aa (show ∀e∈es,bh W1 e.A e.b from fun e he=>(tD.o e he).grow iW.o);have rZ:=aa (show Reads (bQ W1 0 W1.heap.size) 1 Ao es.length (ln es) from eV jS (lM (S:=fun _=>False) Zx.o (fun _ _ h=>h)));replace bn:=aa (bn.o.grow iW.o);replace ar:=aa (ar.o.grow iW.o);have aG:=aa (aJ.o.trans iW.o);clear HOWN tD aJ bI iW iU HE vH;go_upto_region 11 with fail;go_loopg [11,12] (es.length+1) (fun gk n i wk=>∃k:Nat,k≤es.length∧gk+k=es.length+1∧i=.int .i64 k∧(∃M:Nat,n=.int .i64 (M:Int)∧M≤k)∧Grow W1 wk);exact⟨0,aR _,rfl,rfl,⟨0,rfl,au _⟩,ah _⟩;obtain⟨k,hk,ji,rfl,⟨M,rfl,hMk⟩,jC⟩:=hrel;obtain⟨wK,rfl⟩:∃g,gk=g+1:=⟨gk-1,by omega⟩;have hel:=jo.o
    have EE:=aa jC;by_cases hkl:k<es.length
    ·obtain⟨bo,oo,rfl,tO,o0⟩:=Sb.at_ (eV (eU jC.below (au _) (au _) jC.size) rZ.o) hkl;have jD:=aa ((Zy.o _ (aS hkl)).grow jC);have HIB:=aa (cP.o.grow jC);obtain⟨e1,Zz⟩:∃e,es[k]=e:=⟨_,rfl⟩;rw[Zz] at o0 jD;obtain⟨eA,ec,eb⟩:=e1;dsimp only at o0 jD;clear jC Zz;rcases hl2:Op.bytesLess eb b1 with _ | _
     all_goals
      go_upto_region 13 with fail
      have fS:=aa (fun(W:World) (hg:Grow wr W)=>show W.cell? ⟨bo,oo+k,none⟩=some (.slice eA eb.length ec)∧bh W eA eb∧bh W A1 b1 from
       ⟨(hg.below.cell (p:=⟨bo,oo+k,none⟩) tO).trans o0,jD.o.grow hg,HIB.o.grow hg⟩)
      refine dg ?_
      refine cW (S:=fun w'=>w'.cell? ⟨bo,oo+k,none⟩=some (.slice eA eb.length ec)∧bh w' eA eb∧bh w' A1 b1) (by kernel_rfl) (fS.o _ (ah _).drew) (fun hHeld=>?_)
      have vw:=aa (show Grow wr wr.drew from (ah _).drew)
      generalize wr.drew=W0 at vw hHeld ⊢
      refine aZ 0 ?_
      refine aZ 1 ?_
      refine aZ 2 ?_
      refine ai 3 (hy:=bU fun w ay=>by obtain⟨gg,-,-⟩:=ay;go_simp;try rfl) ?_
      refine ai 4 (hy:=bU fun w ay=>by obtain⟨-,gg,-⟩:=ay;have hcs:=rD ec gg;go_simp;try rfl) ?_
      refine aZ 5 ?_
      refine ai 6 (hy:=bU fun w ay=>by obtain⟨-,-,gg⟩:=ay;have hcs:=rD c1 gg;go_simp;try rfl) ?_
      refine aZ 7 ?_
      refine cG ?_
      clear hHeld
      go_wp2_with fail
      go_roundg wK
      first | exact⟨k+1,by omega,by omega,by go_num,⟨k+1,by go_num,au _⟩,EE.o.trans vw.o⟩ | exact⟨k+1,by omega,by omega,by go_num,⟨M,rfl,by omega⟩,EE.o.trans vw.o⟩
      omega
    have Gs:k=es.length:=by omega
    subst Gs;have ZA:M≤es.length:=hMk;have Mm:=aa ZA;have eP:=aa (show Reads (bQ wr 0 wr.heap.size) 1 Ao es.length (ln es) from eV (eU jC.below (au _) (au _) jC.size) rZ.o);have ahE:=aa (show ∀e∈es,bh wr e.A e.b from fun e he=>(Zy.o e he).grow jC);have pV:=aa (cP.o.grow jC);have jB:=aa (mW Zx.o).1;have aJ:=aa (aG.o.trans jC);have hi0:(0:Int)≤(M:Int):=by omega
    have hi1:(M:Int)≤(es.length:Int):=by omega
    have hcap:=jB.o;have hi2:(M:Int)≤(co:Int):=by omega
    clear jC hcap;have hsh:=ahy (A:=Ao) (i:=M) Mm.o jB.o;go_upto_region 17 with (at_builtin;refine CD (w0:=wr) (.tmp 53) (.tmp 56) 72 23 1 24 _ EY RZ rfl rfl rfl (ahx eP.o M co Mm.o) (by omega) (by simp only[maxLen];omega) (ah _) ?_;intro A6 c6 w6 ll bE);have ua:=aa ll;have aW:=aa bE;clear ll bE hsh;go_upto_region 18 with (at_builtin;refine vG (w0:=wr) (.tmp 58) (.tmp 60) 72 23 1 24 _ EY RZ rfl rfl (ua.o.alloc _) rfl (ahA ⟨A1,c1,b1⟩ (az w6 23 (Sb.cells ⟨A1,c1,b1⟩))) (by omega) (by simp only[maxLen];omega) (aW.o.alloc _) ?_;intro A7 c7 w7 eZ bw);have pX:=aa eZ;have aX:=aa bw;have fR:=aa (eV (eU bw.below (au _) (au _) bw.size) eP.o);have ZA:=Mm.o;clear eZ bw
    obtain⟨AZ,hsl,hsrc⟩:=ahz (A:=Ao) (i:=M) Mm.o jB.o;have kp:=aa hsrc;clear hsrc;go_upto_region 4 with (at_builtin;refine vG (w0:=wr) (.tmp 62) (.tmp 65) 72 23 1 24 _ EY RZ rfl rfl pX.o rfl (kp.o _ _ _ fR.o) (by omega) (by simp only[maxLen];omega) aX.o ?_;intro A8 c8 w8 dD bW);clear hsl;have hlen:M+1+(es.length-M)=(cD es M (⟨A1,c1,b1⟩:Sb)).length:=by
     rw[qM];omega
    have yF:=aa (ahB dD hlen);have bR:=aa bW;have HLEN:=aa hlen;clear dD bW hlen;go_wp2_with fail;go_roundg gk';refine⟨j+1,wr.heap.size,A8,c8,cD es M ⟨A1,c1,b1⟩,by omega,by omega,by go_num,by rw[← HLEN.o],yF.o,fun e he=>?_,by rw[qM];have:=jo.o;omega,aJ.o.trans bR.o⟩;rw[Em] at he;rcases he with rfl | he
    ·exact pV.o.grow bR.o
    exact(ahE.o e he).grow bR.o;omega
  go_wp2_with fail;go_ret2;exact⟨bI.o.trans iW.o,_,_,rfl⟩
 have hjl:j=ag.length:=by omega
 subst hjl;go_wp2_with fail;go_ret2;exact⟨bI.o,_,_,rfl⟩
def ahF(w:World)(p t:Value)(w':World):Prop:=
 Grow w w'∧∃gb c tt u,p=.pointer (some ⟨gb,0,none⟩)∧t=.bool tt∧Blk w' gb 27 (Cv.cells c)∧In w' u c
theorem ahG{c:Cv}(hg:Grow wn W3)(hn:wn.heap.size≤g)(hB:Blk W3 g 27 Cv.zero.cells) :
 Grow wn (((((W3.setCell ⟨g,0,none⟩ (.int .i64 c.k)).setCell ⟨g,1,none⟩ (.int .u64 c.n)).setCell ⟨g,2,none⟩ (.slice c.aB c.nB c.cB)).setCell ⟨g,3,none⟩ (.slice c.aL c.nL c.cL)).setCell ⟨g,4,none⟩ (.slice c.aF c.nF c.cF)) ∧
 Blk (((((W3.setCell ⟨g,0,none⟩ (.int .i64 c.k)).setCell ⟨g,1,none⟩ (.int .u64 c.n)).setCell ⟨g,2,none⟩ (.slice c.aB c.nB c.cB)).setCell ⟨g,3,none⟩ (.slice c.aL c.nL c.cL)).setCell ⟨g,4,none⟩ (.slice c.aF c.nF c.cF)) g 27 c.cells:=by
 have hk:Kept (fun q=>q=g) W3 (((((W3.setCell ⟨g,0,none⟩ (.int .i64 c.k)).setCell ⟨g,1,none⟩ (.int .u64 c.n)).setCell ⟨g,2,none⟩ (.slice c.aB c.nB c.cB)).setCell ⟨g,3,none⟩ (.slice c.aL c.nL c.cL)).setCell ⟨g,4,none⟩ (.slice c.aF c.nF c.cF)):=
  (((((cZ (S:=fun q=>q=g) W3).set (p:=⟨g,0,none⟩) rfl _).set (p:=⟨g,1,none⟩) rfl _).set (p:=⟨g,2,none⟩) rfl _).set (p:=⟨g,3,none⟩) rfl _).set (p:=⟨g,4,none⟩) rfl _
 exact⟨hg.below.trans (hk.below hg.size (fun q hq=>hq ▸ hn)),((((hB.aY 0 _).aY 1 _).aY 2 _).aY 3 _).aY 4 _⟩
theorem ZB(nm:ByteArray)(ag:List V)(dA xA:Option Addr)(dc xn xc:Nat)(x:Ix)(d:V)(cd:Cv)(w:World)(hd:InL w dA dc ag)(hok:∀d∈ag,gh d)(hl:ag.length≤1000000)(hx:x.path.size<4294967281)(hf:d.formed=true)(hcn:d.count≤20000)(LS:d.formed=true→d.bytes.length≤140737488355328)(hi:In w d cd) :
 Calls prog 72 #[.agg #[.string nm,.slice dA ag.length dc,.slice xA xn xc],.agg x.cells,cd.agg] w fun e w'=>∃b,e=.returned (.bool b)∧Grow w w':=by
 have HD:=aa hd;have bD:=aa hok;have HL:=aa hl;have HG:=aa (((ah w).alloc (.cells #[.string nm,.slice dA ag.length dc,.slice xA xn xc] 48)).alloc (.cells x.cells 64) |>.alloc (.cells cd.cells 27));have bn:=aa (((az w 48 #[.string nm,.slice dA ag.length dc,.slice xA xn xc]).alloc (.cells x.cells 64)).alloc (.cells cd.cells 27));have ar:=aa ((cM (w:=w.alloc (.cells #[.string nm,.slice dA ag.length dc,.slice xA xn xc] 48)) (g:=w.heap.size+1) (by simp) 64 x.cells).alloc (.cells cd.cells 27));have av:=aa (cM (w:=(w.alloc (.cells #[.string nm,.slice dA ag.length dc,.slice xA xn xc] 48)).alloc (.cells x.cells 64)) (g:=w.heap.size+1+1) (by simp) 27 cd.cells);have xg:=aa (fun(W:World) (hg:Grow w W)=>BZ w _ d x.path cd W (au _) hx hf hg hi)
 have ZC:=aa (fun(v:V) (c:Cv) (w0 W:World) (hf:v.formed=true) (hg:Grow w0 W) (hi:In w0 v c)=>BZ w0 _ v x.path c W (au _) hx hf hg hi);have vI:=aa (fun(W:World) (hg:Grow w W)=>EM d cd W hcn LS (hi.grow hg));obtain⟨ixn,xp,xu⟩:=x;dsimp only[Ix.cells] at HG bn ar av xg ZC ⊢;clear hd hok hl hx hf hcn LS hi;go_enter func72,ntmps72;go_upto_region 1 with fail;generalize ((w.alloc (.cells #[.string nm,.slice dA ag.length dc,.slice xA xn xc] 48)).alloc (.cells #[.string ixn,.string xp,.bool xu] 64)).alloc (.cells cd.cells 27)=w3 at HG bn ar av ⊢;have hb4:=ar.o.cell;have dG:=av.o.cell;go_wp2_with fail;refine(xg.o _ HG.o).mono ?_;rintro e w4 ⟨hg4,c7,t7,u7,rfl,ZE,-⟩;have HU7:=aa ZE;have bP:=aa (HG.o.trans (hg4.alloc (.cells c7.cells 27)))
 replace bn:=aa ((bn.o.grow hg4).alloc (.cells c7.cells 27));replace ar:=aa ((ar.o.grow hg4).alloc (.cells c7.cells 27));replace av:=aa ((av.o.grow hg4).alloc (.cells c7.cells 27));have eu:=aa (az w4 27 c7.cells);clear hb4 dG ZE hg4;go_wp2_with fail;generalize w4.alloc (.cells c7.cells 27)=w5 at bP bn ar av eu ⊢;obtain⟨g7,bw⟩:∃g,w4.heap.size=g:=⟨_,rfl⟩;rw[bw] at eu ⊢;clear bw;go_loopg [9] (ag.length+1) (fun gk i wr=>∃j:Nat,j≤ag.length∧gk+j=ag.length+1∧i=.int .i64 j∧Grow w5 wr);exact⟨0,aR _,rfl,rfl,ah _⟩;obtain⟨j,hj,hg,rfl,hgr⟩:=hrel;obtain⟨gk',rfl⟩:=bz gk (by omega);have hl0:=HL.o;have aJ:=aa hgr;have bI:=aa (bP.o.trans hgr);replace bn:=aa (bn.o.grow hgr);replace ar:=aa (ar.o.grow hgr);replace av:=aa (av.o.grow hgr)
 replace eu:=aa (eu.o.grow hgr);have hb3:=bn.o.cell;by_cases hlt:j<ag.length
 ·obtain⟨bk,o,y,ha,hbk,e0,e1,e2,e3,e4,hy⟩:=(HD.o.grow bI.o).fh j hlt;dsimp only[js] at ha;subst ha;have ni:=bD.o ag[j] (aS hlt);obtain⟨-,-,-,-,hgd,-⟩:=ni.id;have ZF:=aa (fun(W:World) (hg:Grow wr W)=>ZC.o ag[j] y wr W (mP hgd).1 hg hy);have Ik:=aa (fun(W:World) (hg:Grow wr W)=>EM ag[j] y W ni.count ni.bytes (hy.grow hg));have lS:=eu.o.cell;have hb4:=ar.o.cell;have dG:=av.o.cell;clear ni hgd hy hgr
  cases t7 with
  | false =>
   clear lS hb4 dG;go_wp2_with fail;go_ret;exact⟨_,rfl,bI.o⟩
  | true =>
   go_upto_region 5 with fail;go_cut [10,11] from 29 to 39 (fun p t wx=>ahF wr p t wx)
   case first =>
    have fS:=aa (fun(W:World) (hg:Grow wr W)=>show W.cell? ⟨w.heap.size,1,none⟩=some (.slice (some ⟨bk,o,none⟩) ag.length dc)∧W.cell? ⟨w.heap.size+1,1,none⟩=some (.string xp)∧W.cell? ⟨bk,o+j*5,none⟩=some (.int .i64 y.k)∧W.cell? ⟨bk,o+j*5+1,none⟩=some (.int .u64 y.n)∧W.cell? ⟨bk,o+j*5+2,none⟩=some (.slice y.aB y.nB y.cB)∧W.cell? ⟨bk,o+j*5+3,none⟩=some (.slice y.aL y.nL y.cL)∧W.cell? ⟨bk,o+j*5+4,none⟩=some (.slice y.aF y.nF y.cF) from
     ⟨(bn.o.grow hg).cell 1,(ar.o.grow hg).cell 1,(hg.below.cell (p:=⟨bk,o+j*5,none⟩) hbk).trans e0,(hg.below.cell (p:=⟨bk,o+j*5+1,none⟩) hbk).trans e1,(hg.below.cell (p:=⟨bk,o+j*5+2,none⟩) hbk).trans e2,(hg.below.cell (p:=⟨bk,o+j*5+3,none⟩) hbk).trans e3,(hg.below.cell (p:=⟨bk,o+j*5+4,none⟩) hbk).trans e4⟩)
    clear e0 e1 e2 e3 e4 hb3 hb4 dG lS;refine dg ?_;refine cW (S:=fun w'=>w'.cell? ⟨w.heap.size,1,none⟩=some (.slice (some ⟨bk,o,none⟩) ag.length dc)∧w'.cell? ⟨w.heap.size+1,1,none⟩=some (.string xp)∧w'.cell? ⟨bk,o+j*5,none⟩=some (.int .i64 y.k)∧w'.cell? ⟨bk,o+j*5+1,none⟩=some (.int .u64 y.n)∧w'.cell? ⟨bk,o+j*5+2,none⟩=some (.slice y.aB y.nB y.cB)∧w'.cell? ⟨bk,o+j*5+3,none⟩=some (.slice y.aL y.nL y.cL)∧w'.cell? ⟨bk,o+j*5+4,none⟩=some (.slice y.aF y.nF y.cF)) (by kernel_rfl) (fS.o _ (ah _).drew) (fun hHeld=>?_);have aC:=aa (show Grow wr wr.drew from (ah _).drew);generalize wr.drew=W0 at aC hHeld ⊢;refine ai 0 ?_;refine cO 1 ?_;refine ai 2 ?_;refine ai 3 ?_;refine cO 4 ?_;refine ai 5 ?_;refine cO 6 ?_;refine bC [7,11] ?_
    refine fC (fun K hK=>?_) (fC (fun K hK=>?_) dM)
    ·go_simp;go_at_call 56;refine(ZF.o _ aC.o).mono ?_;rintro ee W3 ⟨hg3,cc,tt,uu,rfl,hu,-⟩;refine aT hK (fS.o _ (aC.o.trans hg3)) (fun hHeld=>?_);refine ai 8 ?_;refine ai 9 ?_;refine ai 10 ?_;refine aK 11 (fun K hK=>?_);go_simp;refine aT hK (fS.o _ ((aC.o.trans hg3).alloc _)) (fun hHeld=>?_);refine aK 12 (fun K hK=>?_);go_simp;refine aT hK (fS.o _ ((aC.o.trans hg3).alloc _)) (fun hHeld=>?_);refine ai 13 ?_;refine cG ?_;go_wp2_with fail;go_meet;exact⟨(aC.o.trans hg3).alloc _,_,cc,tt,uu,rfl,rfl,az W3 _ _,hu.grow ((aC.o.trans hg3).alloc _)⟩
    go_simp;refine aT hK (fS.o _ (aC.o.alloc _)) (fun hHeld=>?_);refine aK 7 (fun K hK=>?_);go_simp;go_at_call 56;refine(ZF.o _ (aC.o.alloc _)).mono ?_;rintro ee W3 ⟨hg3,cc,tt,uu,rfl,hu,-⟩;refine aT hK (fS.o _ ((aC.o.alloc _).trans hg3)) (fun hHeld=>?_);refine ai 8 ?_;refine ai 9 ?_;refine ai 10 ?_;refine aK 12 (fun K hK=>?_);have oK:=(az W0 27 Cv.zero.cells).grow hg3;obtain⟨Il,Im⟩:=ahG (c:=cc) ((aC.o.alloc _).trans hg3) aC.o.size oK;have hbc:=oK.cell;have qU:=oK.frozen;have E4:=aa Il;have R3:=aa Im;clear oK Il Im;go_simp;clear hbc qU;refine aT hK (fS.o _ E4.o) (fun hHeld=>?_);refine ai 13 ?_;refine cG ?_;go_wp2_with fail;go_meet;exact⟨E4.o,_,cc,tt,uu,rfl,rfl,R3.o,hu.grow E4.o⟩
   obtain⟨dK,g10,c10,tt,uj,rfl,rfl,fH,hij⟩:=hcut;have cN:=aa dK;have bN:=aa fH;have Mn:=aa hij;have HU:=aa (HU7.o.grow (bI.o.trans dK));have tu:=aa (fun(W:World) (hg:Grow wc W)=>VJ u7 uj W c7 c10 (HU.o.grow hg) (Mn.o.grow hg));have vw:=aa (aJ.o.trans dK);clear hij fH dK
   cases tt with
   | false =>
    clear hb3 hb4 dG lS e0 e1 e2 e3 e4;go_wp2_with fail;go_quiet (fail);go_wp2_with fail;go_roundg gk';exact⟨j+1,by omega,by omega,by go_num,vw.o.trans ((ah _).drewN _)⟩;omega
   | true =>
    obtain⟨kj,hkj⟩:∃s,Ac ag[j]=s:=⟨_,rfl⟩;obtain⟨kd,R4⟩:∃s,Ac d=s:=⟨_,rfl⟩;rw[hkj] at Ik;rw[R4] at vI;clear hkj R4;go_upto_region 6 with fail;have vH:=aa (fun(W:World) (hg:Grow wc W)=>show (∀i,W.cell? ⟨w.heap.size,i,none⟩=(#[.string nm,.slice (some ⟨bk,o,none⟩) ag.length dc,.slice xA xn xc]:Array Value)[i]?)∧(∀i,W.cell? ⟨w.heap.size+1+1,i,none⟩=cd.cells[i]?)∧(∀i,W.cell? ⟨g7,i,none⟩=c7.cells[i]?)∧(∀i,W.cell? ⟨g10,i,none⟩=c10.cells[i]?)∧W.cell? ⟨bk,o+j*5,none⟩=some (.int .i64 y.k)∧W.cell? ⟨bk,o+j*5+1,none⟩=some (.int .u64 y.n)∧W.cell? ⟨bk,o+j*5+2,none⟩=some (.slice y.aB y.nB y.cB)∧W.cell? ⟨bk,o+j*5+3,none⟩=some (.slice y.aL y.nL y.cL)∧W.cell? ⟨bk,o+j*5+4,none⟩=some (.slice y.aF y.nF y.cF) from
     ⟨(bn.o.grow (cN.o.trans hg)).cell,(av.o.grow (cN.o.trans hg)).cell,(eu.o.grow (cN.o.trans hg)).cell,(bN.o.grow hg).cell,((cN.o.trans hg).below.cell (p:=⟨bk,o+j*5,none⟩) hbk).trans e0,((cN.o.trans hg).below.cell (p:=⟨bk,o+j*5+1,none⟩) hbk).trans e1,((cN.o.trans hg).below.cell (p:=⟨bk,o+j*5+2,none⟩) hbk).trans e2,((cN.o.trans hg).below.cell (p:=⟨bk,o+j*5+3,none⟩) hbk).trans e3,((cN.o.trans hg).below.cell (p:=⟨bk,o+j*5+4,none⟩) hbk).trans e4⟩)
    clear e0 e1 e2 e3 e4 hb3 hb4 dG lS;refine dg ?_;refine cW (S:=fun w'=>(∀i,w'.cell? ⟨w.heap.size,i,none⟩=(#[.string nm,.slice (some ⟨bk,o,none⟩) ag.length dc,.slice xA xn xc]:Array Value)[i]?)∧(∀i,w'.cell? ⟨w.heap.size+1+1,i,none⟩=cd.cells[i]?)∧(∀i,w'.cell? ⟨g7,i,none⟩=c7.cells[i]?)∧(∀i,w'.cell? ⟨g10,i,none⟩=c10.cells[i]?)∧w'.cell? ⟨bk,o+j*5,none⟩=some (.int .i64 y.k)∧w'.cell? ⟨bk,o+j*5+1,none⟩=some (.int .u64 y.n)∧w'.cell? ⟨bk,o+j*5+2,none⟩=some (.slice y.aB y.nB y.cB)∧w'.cell? ⟨bk,o+j*5+3,none⟩=some (.slice y.aL y.nL y.cL)∧w'.cell? ⟨bk,o+j*5+4,none⟩=some (.slice y.aF y.nF y.cF)) (by kernel_rfl) (vH.o _ (ah _).drew) (fun hHeld=>?_);have iU:=aa (show Grow wc wc.drew from (ah _).drew);generalize wc.drew=W0 at iU hHeld ⊢
    refine aZ 0 ?_;refine aZ 1 ?_;refine aZ 2 ?_;refine ai 3 (hy:=bU fun w ay=>by obtain⟨b3,-,-,-,-,-,-,-,-⟩:=ay;go_simp;try rfl) ?_;refine aZ 4 ?_;refine aZ 5 ?_;refine ai 6 (hy:=bU fun w ay=>by obtain⟨-,-,-,-,k0,k1,k2,k3,k4⟩:=ay;go_simp;try rfl) ?_;refine ai 8 (hy:=bU fun w ay=>by obtain⟨-,b5,-,-,-,-,-,-,-⟩:=ay;go_simp;try rfl) ?_;refine aK 7 (fun K hK=>?_);have hC:=Ik.o W0 (cN.o.trans iU.o);go_simp;go_at_call 71;refine hC.mono ?_;rintro ee W1 ⟨rfl,hg1⟩;refine aT hK (vH.o _ (iU.o.trans hg1)) (fun hHeld=>?_);refine aK 9 (fun K hK=>?_);have Ic:=vI.o W1 (bI.o.trans (cN.o.trans (iU.o.trans hg1)));go_simp;go_at_call 71;refine Ic.mono ?_;rintro ee W2 ⟨rfl,hg2⟩;refine aT hK (vH.o _ ((iU.o.trans hg1).trans hg2)) (fun hHeld=>?_)
    have HG2:=aa ((iU.o.trans hg1).trans hg2);clear hC Ic hg1 hg2;rcases hk2:(kj.toList==kd.toList) with _ | _
    rotate_left
    ·have iK:=aa (vw.o.trans HG2.o);refine aZ 10 ?_;refine aZ 11 ?_;refine aZ 12 ?_;refine ai 13 (v:=undef) (hy:=Or.inr ⟨by rfl,rfl⟩) ?_;refine ai 14 (v:=undef) (hy:=Or.inr ⟨by rfl,rfl⟩) ?_;refine ai 15 (v:=undef) (hy:=Or.inr ⟨by rfl,rfl⟩) ?_;refine aZ 16 ?_;refine cG ?_;clear hHeld;go_wp2_with fail;go_roundg gk';exact⟨j+1,by omega,by omega,by go_num,iK.o⟩;omega
    skip;refine aZ 10 ?_;refine aZ 11 ?_;refine aZ 12 ?_;refine ai 13 (hy:=bU fun w ay=>by obtain⟨-,-,b7,-,-,-,-,-,-⟩:=ay;go_simp;try rfl) ?_;refine ai 14 (hy:=bU fun w ay=>by obtain⟨-,-,-,iu,-,-,-,-,-⟩:=ay;go_simp;try rfl) ?_;refine aK 15 (fun K hK=>?_);have ZG:=tu.o W2 HG2.o;go_simp;go_at_call 26;refine ZG.mono ?_;rintro ee W3 ⟨rfl,hg3⟩;refine aT hK (vH.o _ (HG2.o.trans hg3)) (fun hHeld=>?_);refine aZ 16 ?_;refine cG ?_;clear hHeld;have iK:=aa (vw.o.trans (HG2.o.trans hg3));clear ZG hg3;generalize pC u7 uj=sb
    cases sb with
    | true =>
     go_wp2_with fail;go_ret;exact⟨_,rfl,bP.o.trans iK.o⟩
    | false =>
     go_wp2_with fail;go_roundg gk';exact⟨j+1,by omega,by omega,by go_num,iK.o⟩;omega
 have hjl:j=ag.length:=by omega
 subst hjl;clear hgr
 cases t7 with
 | false =>
  go_wp2_with fail;go_ret;exact⟨_,rfl,bI.o⟩
 | true =>
  go_wp2_with fail;go_ret;exact⟨_,rfl,bI.o⟩
section
open Go.RowKit
def ic(w:World)(g:Nat):Prop:=∀i u,w.cell? ⟨g,i,none⟩=some u→(∃a l c,u=.slice a l c)∨∃n,u=.int .i64 n
section
variable {S:Nat→Prop} {w w':World} (hk:Kept S w w') (hp:∀g,S g→ic w g)
include hk in
theorem ic.keep{p:Addr}(hs:¬ S p.block)(h:bQ w 0 w.heap.size p u):bQ w' 0 w'.heap.size p u:=
 ⟨(uy (hk.block p.block h.2.2 hs)).trans h.1,aR _,bG h.2.2 hk.size⟩
include hp in
theorem ic.not{o:Nat}(h:bQ w 0 w.heap.size ⟨bk,o,none⟩ u)(h1:∀a l c,u≠.slice a l c)(h2:∀n,u≠.int .i64 n):¬ S bk:=fun hs=>by
 rcases hp bk hs o u h.1 with ⟨a,l,c,e⟩ | ⟨n,e⟩
 ·exact h1 _ _ _ e
 exact h2 _ e
include hk hp in
theorem ic.reads{n:Nat}(h:Reads (bQ w 0 w.heap.size) z A n xs)(hx:0<n→∃u,xs[i]?=some u∧(∀a l c,u≠.slice a l c)∧∀n,u≠.int .i64 n):Reads (bQ w' 0 w'.heap.size) z A n xs:=by
 refine⟨h.1,fun hn=>?_⟩;obtain⟨bk,o,e,hc⟩:=h.2 hn;obtain⟨u,hu,h1,h2⟩:=hx hn;have hs:=ic.not hp (hc i u hu) h1 h2;exact⟨bk,o,e,fun j v hv=>ic.keep hk hs (hc j v hv)⟩
include hk hp in
theorem bh.Io{b:List UInt8}(h:bh w A b):bh w' A b:=ic.reads hk hp (i:=0) h (fun hn=>by
 rcases b with _ | ⟨x,r⟩
 ·simp at hn
 exact⟨.int .u8 x.toNat,rfl,fun _ _ _ e=>(by cases e),fun _ e=>(by cases e)⟩)
include hk hp in
theorem IsV.Io(v:V):∀c,IsV (bQ w 0 w.heap.size) v c→IsV (bQ w' 0 w'.heap.size) v c:=by
 induction v using V.ind with
 | h k n b l f hl hf =>
  intro c hv;rw[IsV] at hv ⊢;obtain⟨e1,e2,e3,e4,e5,h1,h2,h3,h4,h5,h6,h7,h8,h9,hb,hL,hF⟩:=hv;refine⟨e1,e2,e3,e4,e5,h1,h2,h3,h4,h5,h6,h7,h8,h9,ic.reads hk hp (i:=0) hb (fun hn=>?_),fun i hi=>?_,fun i hi=>?_⟩
  ·rcases b with _ | ⟨x,r⟩
   ·simp at hn
   exact⟨.int .u8 x.toNat,rfl,fun _ _ _ e=>(by cases e),fun _ e=>(by cases e)⟩
  ·obtain⟨bk,o,x,e,⟨a1,a2,a3,a4,a5⟩,kv⟩:=hL i hi;have hs:=ic.not hp a2 (fun _ _ _ e=>by cases e) (fun _ e=>by cases e);exact⟨bk,o,x,e,⟨ic.keep hk hs a1,ic.keep hk hs a2,ic.keep hk hs a3,ic.keep hk hs a4,ic.keep hk hs a5⟩,hl _ (aS _) _ kv⟩
  obtain⟨bk,o,x,e,ks,kz,⟨a1,a2,a3,a4,a5⟩,kv⟩:=hF i hi;have hs:=ic.not hp a2 (fun _ _ _ e=>by cases e) (fun _ e=>by cases e);exact⟨bk,o,x,e,ic.keep hk hs ks,kz,⟨ic.keep hk hs a1,ic.keep hk hs a2,ic.keep hk hs a3,ic.keep hk hs a4,ic.keep hk hs a5⟩,hf _ (aS _) _ kv⟩
include hk hp in
theorem cQ.Io{cap:Nat}(h:cQ w A cap st):cQ w' A cap st:=by
 obtain⟨hc,es,h1,h2⟩:=h;refine⟨hc,es,h1.mono fun e c k=>⟨k.nm,k.dn,k.xn,k.xc,IsV.Io hk hp _ _ k.ag,ic.reads hk hp (i:=0) k.aj (fun hn=>?_)⟩,ic.reads hk hp (i:=0) h2 (fun hn=>?_)⟩
 ·rcases hx:c.aj with _ | ⟨x,r⟩
  ·rw[hx] at hn;simp at hn
  exact⟨.string x.name,rfl,fun _ _ _ e=>(by cases e),fun _ e=>(by cases e)⟩
 have hl:=h1.1;rcases es with _ | ⟨x,r⟩
 ·simp at hl;omega
 exact⟨.string x.nm,rfl,fun _ _ _ e=>(by cases e),fun _ e=>(by cases e)⟩
end
theorem Mo{w:World}{g:Nat}{T:TypeId}{a:Option Addr}{l c:Nat}(h:Blk w g T #[.slice a l c]):ic w g:=fun i u hu=>by
 rw[h.cell i] at hu
 match i,hu with
 | 0,hu=>cases hu;exact .inl ⟨_,_,_,rfl⟩
 | i+1,hu=>simp at hu
theorem Mp{w:World}{g:Nat}{T:TypeId}{e n k:Int}{A:Option Addr}{l c:Nat}(h:Blk w g T (cS e n A l c k)):ic w g:=fun i u hu=>by
 rw[h.cell i] at hu
 match i,hu with
 | 0,hu=>cases hu;exact .inr ⟨_,rfl⟩
 | 1,hu=>cases hu;exact .inr ⟨_,rfl⟩
 | 2,hu=>cases hu;exact .inl ⟨_,_,_,rfl⟩
 | 3,hu=>cases hu;exact .inr ⟨_,rfl⟩
 | i+4,hu=>simp at hu
theorem Ip{g5:Nat}{A' B B':Option Addr}{l l' c' m' d d':Nat}{n k e' n' k':Int}(hg:Grow w W)(h4:w.heap.size≤g4)(h5:w.heap.size≤g5)(hne:g4≠g5)(H4:Blk W g4 44 #[.slice A l c])(H5:Blk W g5 31 (cS e n B m d k)) :
 let W':=((((W.setCell ⟨g4,0,none⟩ (.slice A' l' c')).setCell ⟨g5,0,none⟩ (.int .i64 e')).setCell ⟨g5,1,none⟩ (.int .i64 n')).setCell ⟨g5,2,none⟩ (.slice B' m' d')).setCell ⟨g5,3,none⟩ (.int .i64 k')
 Grow w W'∧Blk W' g4 44 #[.slice A' l' c']∧Blk W' g5 31 (cS e' n' B' m' d' k')∧(∀{X:Option Addr} {cap:Nat} {st:List Co},cQ W X cap st→cQ W' X cap st)∧∀{g:Nat} {T:TypeId} {cs:Array Value},Blk W g T cs→g≠g4→g≠g5→Blk W' g T cs:=by
 refine⟨((((hg.setCell (p:=⟨g4,0,none⟩) h4 _).setCell (p:=⟨g5,0,none⟩) h5 _).setCell (p:=⟨g5,1,none⟩) h5 _).setCell (p:=⟨g5,2,none⟩) h5 _).setCell (p:=⟨g5,3,none⟩) h5 _,
  ((((H4.aY 0 _).far (p:=⟨g5,0,none⟩) hne _).far (p:=⟨g5,1,none⟩) hne _).far (p:=⟨g5,2,none⟩) hne _).far (p:=⟨g5,3,none⟩) hne _,
  ((((H5.far (p:=⟨g4,0,none⟩) (fun e=>hne e.symm) _).aY 0 _).aY 1 _).aY 2 _).aY 3 _,fun h=>h.Io (S:=fun q=>q=g4∨q=g5) ?_ (fun q hq=>?_),fun h n4 n5=>((((h.far (p:=⟨g4,0,none⟩) n4 _).far (p:=⟨g5,0,none⟩) n5 _).far (p:=⟨g5,1,none⟩) n5 _).far (p:=⟨g5,2,none⟩) n5 _).far (p:=⟨g5,3,none⟩) n5 _⟩
 ·exact(((((cZ (S:=fun q=>q=g4∨q=g5) W).set (p:=⟨g4,0,none⟩) (.inl rfl) _).set (p:=⟨g5,0,none⟩) (.inr rfl) _).set (p:=⟨g5,1,none⟩) (.inr rfl) _).set (p:=⟨g5,2,none⟩) (.inr rfl) _).set (p:=⟨g5,3,none⟩) (.inr rfl) _
 rcases hq with rfl | rfl
 ·exact Mo H4
 exact Mp H5
end
abbrev anG:=@ic.keep
abbrev anH:=@ic.reads
section
variable {w:World} {ad:Addr} {A:Option Addr} {n:Nat} {xs:List Cc}
theorem ZH(h:Reads (bQ w 0 w.heap.size) 3 A n (cY xs))(i c:Nat)(hi:i≤n):Src prog 3 42 (.slice A i c) i (cY (xs.take i)) w:=by
 have hh:=eW (c:=c) xy (h.Ia i hi) (fun u hu=>Ei xs u (Bg hu));rwa [show (cY xs).take (i*3)=cY (xs.take i) from yi (fun e:Cc=>e.cells.toList) 3 (fun _=>rfl) xs i] at hh
theorem ZI(h:Reads (bQ w 0 w.heap.size) 3 A n (cY xs))(i c cap:Nat)(hi:i≤n)(hc:n≤cap):Src prog 3 42 (.slice (if cap=i then A else A.map (·.add (i*3))) (n-i) c) (n-i) (cY (xs.drop i)) w:=by
 have hh:=eW (c:=c) xy (h.Ib i cap hi hc) (fun u hu=>Ei xs u (uA hu));rwa [show (cY xs).drop (i*3)=cY (xs.drop i) from tN (fun e:Cc=>e.cells.toList) 3 (fun _=>rfl) xs i] at hh
theorem ahH(c:Cc)(hb:Blk w g 48 c.cells):Src prog 3 42 (.slice (some ⟨g,0,none⟩) 1 1) 1 c.cells.toList w:=
 Src.ofSlice _ xy ⟨g,0,none⟩ 1 1 _ rfl (fun j u hu=>by
  rw[add_lit,eo,hb.cell j,← hu,nC]) (fun u hu=>by
  simp only[jI,wu,wB] at hu;rcases hu with rfl | rfl | rfl<;>rfl)
theorem ZJ{ys:List Value}(h:w.ownsRow base 48 3 (.slice A n c) n ys)(hy:ys=cY es)(hn:n=st.length)(ht:Two (qL w) es st):cQ w A c st:=by
 subst hn hy;exact⟨(mW h).1,es,ht,eV jS (lM (S:=fun _=>False) h (fun _ _ h=>h))⟩
theorem ZK(a b:List Cc):cY (a++b)=cY a++cY b:=by simp[cY]
theorem Two.grow(h:Two (qL w) es st)(hg:Grow w w'):Two (qL w') es st:=h.mono fun a b k=>k.mono (eU hg.below (au _) (au _) hg.size)
theorem ahI:IsV C (.mk 7 0 [] [] []) (js none 0 0):=by
 rw[IsV];exact⟨rfl,rfl,rfl,rfl,rfl,by decide,by decide,by decide,by simp[js],by simp,by simp[js],by simp,by simp[js],by simp,⟨rfl,fun h=>by simp at h⟩,fun i hi=>by simp at hi,fun i hi=>by simp at hi⟩
theorem ahJ(s:ByteArray):qL w ⟨s,none,0,0,none,0,0⟩ ⟨s,[],[]⟩:=
 ⟨rfl,rfl,rfl,au _,ahI,⟨rfl,fun h=>by simp at h⟩⟩
section
variable {e:Operand→Value} {d:Option Tmp} {x y:Operand} {t:TypeId} {p:String} {af:Array Edge} {g:Option (Nat×Bool)} {cap i:Nat}
theorem ZL(hx:e x=.slice A n cap)(hy:e y=.int .i64 i)(h1:i≤n)(h2:n≤cap) :
 (execOp e ⟨d,.slice 42 x (some y) none none,t,p,af,g⟩).run prog w=.ok (.value (.slice (if cap=i then A else A.map (·.add (i*3))) (n-i) (cap-i))) w:=by
 unfold execOp;dsimp only;rw[hx,Kt,hy];have k1:(0:Int)≤(i:Int):=by omega
 have k2:(i:Int)≤(n:Int):=by omega
 have k3:(i:Int)≤(cap:Int):=by omega
 rcases A with _ | a<;>go_simp
theorem ZM(hx:e x=.slice A n cap)(hy:e y=.int .i64 i)(h1:i≤n)(h2:n≤cap) :
 (execOp e ⟨d,.slice 42 x none (some y) none,t,p,af,g⟩).run prog w=.ok (.value (.slice A i cap)) w:=by
 unfold execOp;dsimp only;rw[hx,Kt,hy];have k1:(0:Int)≤(i:Int):=by omega
 have k2:(i:Int)≤(n:Int):=by omega
 have k3:(i:Int)≤(cap:Int):=by omega
 rcases A with _ | a<;>go_simp
end
end
def jE(w:World)(S:Nat→Prop):Prop:=∀(p:Addr) (u:Value),S p.block→w.cell? p=some u→(∀n,u≠.int .u8 n)∧(∀n,u≠.int .u64 n)∧∀s,u≠.string s
theorem jE.u8(h:jE w S){p:Addr}{n:Int}(hc:bQ w 0 w.heap.size p (.int .u8 n)):dI w S p (.int .u8 n):=⟨hc.1,hc.2.2,fun hs=>(h p _ hs hc.1).1 n rfl⟩
theorem jE.str(h:jE w S){p:Addr}(hc:bQ w 0 w.heap.size p (.string s)):dI w S p (.string s):=⟨hc.1,hc.2.2,fun hs=>(h p _ hs hc.1).2.2 s rfl⟩
theorem jE.ZN(h:jE w S){o:Nat}{c:Cv}(hc:kV (bQ w 0 w.heap.size) bk o c):kV (dI w S) bk o c:=by
 obtain⟨h0,h1,h2,h3,h4⟩:=hc;have hn:¬ S bk:=fun hs=>(h ⟨bk,o+1,none⟩ _ hs h1.1).2.1 _ rfl
 exact⟨⟨h0.1,h0.2.2,hn⟩,⟨h1.1,h1.2.2,hn⟩,⟨h2.1,h2.2.2,hn⟩,⟨h3.1,h3.2.2,hn⟩,⟨h4.1,h4.2.2,hn⟩⟩
theorem IsV.bare(h:jE w S)(v:V):∀c,IsV (bQ w 0 w.heap.size) v c→IsV (dI w S) v c:=by
 induction v using V.ind with
 | h k n b l f hl hf =>
  intro c hv;rw[IsV] at hv ⊢;obtain⟨e1,e2,e3,e4,e5,h1,h2,h3,h4,h5,h6,h7,h8,h9,hb,hL,hF⟩:=hv;refine⟨e1,e2,e3,e4,e5,h1,h2,h3,h4,h5,h6,h7,h8,h9,⟨hb.1,fun hn=>?_⟩,fun i hi=>?_,fun i hi=>?_⟩
  ·obtain⟨bk,o,e,hc⟩:=hb.2 hn;refine⟨bk,o,e,fun j u hu=>?_⟩;have hu':=hc j u hu;unfold b_ at hu;rw[sS] at hu
   cases hx:b[j]? with
   | none=>rw[hx] at hu;cases hu
   | some x =>
    rw[hx] at hu
    cases hu
    exact h.u8 hu'
  ·obtain⟨bk,o,x,e,k0,kv⟩:=hL i hi;exact⟨bk,o,x,e,h.ZN k0,hl _ (aS _) _ kv⟩
  obtain⟨bk,o,x,e,ks,kz,k0,kv⟩:=hF i hi;exact⟨bk,o,x,e,h.str ks,kz,h.ZN k0,hf _ (aS _) _ kv⟩
theorem Reads.bare(h:jE w S){n:Nat}(hr:Reads (bQ w 0 w.heap.size) z A n xs)(h0:0<n→∃s,xs[0]?=some (.string s)):Reads (dI w S) z A n xs:=
 ⟨hr.1,fun hn=>by
  obtain⟨bk,o,e,hc⟩:=hr.2 hn;obtain⟨s,hs⟩:=h0 hn;have hn:¬ S bk:=fun hS=>(h _ _ hS (hc 0 _ hs).1).2.2 s rfl
  exact⟨bk,o,e,fun j u hu=>⟨(hc j u hu).1,(hc j u hu).2.2,hn⟩⟩⟩
theorem ahK{xs:List Ix}(h:0<xs.length):∃s,(dQ xs)[0]?=some (.string s):=by
 cases xs with
 | nil=>simp at h
 | cons x r=>exact⟨x.name,rfl⟩
theorem ahL(h:0<es.length):∃s,(cY es)[0]?=some (.string s):=by
 cases es with
 | nil=>simp at h
 | cons x r=>exact⟨x.nm,rfl⟩
theorem wU.bare(h:jE w S){e:Cc}{c:Co}(k:qL w e c):wU (dI w S) e c:=
 ⟨k.nm,k.dn,k.xn,k.xc,IsV.bare h _ _ k.ag,k.aj.bare h ahK⟩
theorem cQ.bare{cap:Nat}(hst:cQ w A cap st)(h:jE w S)(hk:Kept S w w'):cQ w' A cap st:=by
 obtain⟨hc,es,h1,h2⟩:=hst;refine⟨hc,es,h1.mono fun a b k=>((wU.bare h k).mono (kZ hk fun _ h=>h)).mono jS,((h2.bare h fun hn=>ahL (by rw[h1.1];exact hn)).mono (kZ hk fun _ h=>h)).mono jS⟩
theorem InL.bare{cap:Nat}{l:List V}(hl:InL w A cap l)(h:jE w S)(hk:Kept S w w'):InL w' A cap l:=
 dX jS _ _ (dX (kZ hk fun _ h=>h) _ _ (IsV.bare h _ _ hl))
theorem jE.R6{n k:Int}{l:Nat}(hb:Blk w rb T (cS e n A l c k)):jE w (fun q=>q=rb):=by
 intro p u hp hc;obtain⟨g,o,pr⟩:=p;have hp':g=rb:=hp;subst hp'
 cases pr with
 | some x =>
  unfold World.cell? at hc;rw[show w.heap[g]?=_ from hb] at hc;simp at hc
 | none =>
 rw[hb.cell] at hc;have ho:o<4:=by
  rcases gp o 4 with h | h
  ·exact h
  rw[sN (by simpa using h)] at hc;cases hc
 have h4:o=0∨o=1∨o=2∨o=3:=by omega
 rcases h4 with rfl | rfl | rfl | rfl<;>cases hc<;>refine⟨fun n h=>?_,fun n h=>?_,fun s h=>?_⟩<;>cases h
section
open Go.RowKit
theorem jE.state{l:Nat}(ho:Blk w g T #[.slice A l c]):jE w (fun q=>q=g):=by
 intro p u hp hc;obtain⟨g',o,pr⟩:=p;have hp':g'=g:=hp;subst hp'
 cases pr with
 | some x =>
  unfold World.cell? at hc;rw[show w.heap[g']?=_ from ho] at hc;simp at hc
 | none =>
  rw[ho.cell] at hc;have ho:o<1:=by
   rcases gp o 1 with h | h
   ·exact h
   rw[sN (by simpa using h)] at hc;cases hc
  obtain rfl:o=0:=by omega
  cases hc
  refine⟨fun n h=>?_,fun n h=>?_,fun s h=>?_⟩<;>cases h
structure D2 (bb:Bool) (W0:World) (st:List Co) (r:Rp) (d5 d9 d10 d11 d12:Bool) (y1 y2 y3 y4:Value) (W:World):Prop where
 g:Grow W0 W
 res:d5=true→∃A c dA dc,y1=.agg #[.slice A st.length c]∧y2=.agg (cS r.e r.n dA r.ag.length dc r.eX)∧cQ W A c st∧(bb=true→InL W dA dc r.ag) ∧
  (d9=true→d11=true→∃g,y3=.pointer (some ⟨g,0,none⟩)∧Blk W g 44 #[.slice A st.length c])∧(d10=true→d12=true→∃g,y4=.pointer (some ⟨g,0,none⟩)∧Blk W g 31 (cS r.e r.n dA r.ag.length dc r.eX))
 bs:d9=true→∃g,y3=.pointer (some ⟨g,0,none⟩)∧W0.heap.size≤g∧g<W.heap.size∧(d11=false→Blk W g 44 #[.slice none 0 0])
 br:d10=true→∃g,y4=.pointer (some ⟨g,0,none⟩)∧W0.heap.size≤g∧g<W.heap.size∧(d12=false→Blk W g 31 #[.int .i64 0,.int .i64 0,.slice none 0 0,.int .i64 0])
 ne:d9=true→d10=true→y3≠y4
section
variable {bb:Bool} {W0 W W':World} {st:List Co} {r:Rp} {d5 d9 d10 d11 d12:Bool} {y1 y2 y3 y4:Value}
theorem D2.start(W0:World):D2 bb W0 st r false false false false false undef undef undef undef W0:=⟨ah _,fun e=>(by cases e),fun e=>(by cases e),fun e=>(by cases e),fun e=>(by cases e)⟩
theorem D2.any{r':Rp}(h:D2 bb W0 st r false d9 d10 false false y1 y2 y3 y4 W):D2 bb W0 st' r' false d9 d10 false false y1 y2 y3 y4 W:=⟨h.g,fun e=>(by cases e),h.bs,h.br,h.ne⟩
theorem D2.grow(h:D2 bb W0 st r d5 d9 d10 d11 d12 y1 y2 y3 y4 W)(hg:Grow W W'):D2 bb W0 st r d5 d9 d10 d11 d12 y1 y2 y3 y4 W':=by
 refine⟨h.g.trans hg,fun e=>?_,fun e=>?_,fun e=>?_,h.ne⟩
 ·obtain⟨A,c,dA,dc,r1,r2,r3,r4,r5,r6⟩:=h.res e;refine⟨A,c,dA,dc,r1,r2,r3.grow hg,fun e=>(r4 e).grow hg,fun e1 e2=>?_,fun e1 e2=>?_⟩
  ·obtain⟨g,k1,k2⟩:=r5 e1 e2;exact⟨g,k1,k2.grow hg⟩
  obtain⟨g,k1,k2⟩:=r6 e1 e2;exact⟨g,k1,k2.grow hg⟩
 ·obtain⟨g,k1,k2,k3,k4⟩:=h.bs e;exact⟨g,k1,k2,bG k3 hg.size,fun e=>(k4 e).grow hg⟩
 obtain⟨g,k1,k2,k3,k4⟩:=h.br e;exact⟨g,k1,k2,bG k3 hg.size,fun e=>(k4 e).grow hg⟩
theorem D2.call(h:D2 bb W0 st r false d9 d10 false false y1 y2 y3 y4 W)(hg:Grow W W'){dc:Nat}(hs:cQ W' A c st)(hd:bb=true→InL W' dA dc r.ag):D2 bb W0 st r true d9 d10 false false (.agg #[.slice A st.length c]) (.agg (cS r.e r.n dA r.ag.length dc r.eX)) y3 y4 W':=by
 have h':=h.grow hg;exact⟨h'.g,fun _=>⟨A,c,dA,dc,rfl,rfl,hs,hd,fun _ e=>(by cases e),fun _ e=>(by cases e)⟩,h'.bs,h'.br,h'.ne⟩
theorem D2.E5(h:D2 bb W0 st r d5 false d10 false d12 y1 y2 y3 y4 W):D2 bb W0 st r d5 true d10 false d12 y1 y2 (.pointer (some ⟨W.heap.size,0,none⟩)) y4 (W.alloc (.cells #[.slice none 0 0] 44)):=by
 have h':=h.grow ((ah W).alloc (.cells #[.slice none 0 0] 44));refine⟨h'.g,fun e=>?_,fun _=>⟨_,rfl,h.g.size,by simp,fun _=>az _ _ _⟩,h'.br,fun _ e q=>?_⟩
 ·obtain⟨A,c,dA,dc,r1,r2,r3,r4,r5,r6⟩:=h'.res e;exact⟨A,c,dA,dc,r1,r2,r3,r4,fun _ e=>(by cases e),r6⟩
 obtain⟨g,k1,k2,k3,k4⟩:=h.br e;rw[k1] at q;injection q with q;injection q with q;injection q with q;omega
theorem D2.Ai(h:D2 bb W0 st r d5 d9 false d11 false y1 y2 y3 y4 W):D2 bb W0 st r d5 d9 true d11 false y1 y2 y3 (.pointer (some ⟨W.heap.size,0,none⟩)) (W.alloc (.cells #[.int .i64 0,.int .i64 0,.slice none 0 0,.int .i64 0] 31)):=by
 have h':=h.grow ((ah W).alloc (.cells #[.int .i64 0,.int .i64 0,.slice none 0 0,.int .i64 0] 31));refine⟨h'.g,fun e=>?_,h'.bs,fun _=>⟨_,rfl,h.g.size,by simp,fun _=>az _ _ _⟩,fun e _ q=>?_⟩
 ·obtain⟨A,c,dA,dc,r1,r2,r3,r4,r5,r6⟩:=h'.res e;exact⟨A,c,dA,dc,r1,r2,r3,r4,r5,fun _ e=>(by cases e)⟩
 obtain⟨g,k1,k2,k3,k4⟩:=h.bs e;rw[k1] at q;injection q with q;injection q with q;injection q with q;omega
theorem D2.ahM(h:D2 bb W0 st r true true d10 false d12 y1 y2 y3 y4 W)(h3:y3=.pointer (some ⟨g,0,none⟩))(h1:y1=.agg #[.slice A st.length c]):D2 bb W0 st r true true d10 true d12 y1 y2 y3 y4 (W.setCell ⟨g,0,none⟩ (.slice A st.length c)):=by
 obtain⟨g',k1,k2,k3,k4⟩:=h.bs rfl;rw[h3] at k1;injection k1 with k1;injection k1 with k1;injection k1 with k1;subst k1;have hb:=k4 rfl;have hk:Kept (fun q=>q=g) W (W.setCell ⟨g,0,none⟩ (.slice A st.length c)):=(cZ (S:=fun q=>q=g) W).set (p:=⟨g,0,none⟩) rfl _;obtain⟨A',c',dA,dc,r1,r2,r3,r4,r5,r6⟩:=h.res rfl;rw[h1] at r1;simp at r1;obtain⟨rfl,rfl⟩:=r1;have hne:∀g2,d10=true→y4=.pointer (some ⟨g2,0,none⟩)→¬ g2=g:=fun g2 e q e2=>h.ne rfl e (by rw[h3,q,e2])
 refine⟨h.g.below.trans (hk.below h.g.size (fun q hq=>hq ▸ k2)),fun _=>⟨A,c,dA,dc,h1,r2,r3.bare (jE.state hb) hk,fun e=>(r4 e).bare (jE.state hb) hk,fun _ _=>⟨g,h3,hb.aY 0 _⟩,fun e1 e2=>?_⟩,fun _=>⟨g,h3,k2,bG k3 hk.size,fun e=>(by cases e)⟩,fun e=>?_,h.ne⟩
 ·obtain⟨g2,q1,q2⟩:=r6 e1 e2;exact⟨g2,q1,hk.blk q2 (hne g2 e1 q1)⟩
 obtain⟨g2,q1,q2,q3,q4⟩:=h.br e;exact⟨g2,q1,q2,bG q3 hk.size,fun e'=>hk.blk (q4 e') (hne g2 e q1)⟩
theorem D2.ahN(h:D2 bb W0 st r true d9 true d11 false y1 y2 y3 y4 W)(h3:y4=.pointer (some ⟨g,0,none⟩)){dc:Nat}(h1:y2=.agg (cS r.e r.n dA r.ag.length dc r.eX)) :
 D2 bb W0 st r true d9 true d11 true y1 y2 y3 y4 ((((W.setCell ⟨g,0,none⟩ (.int .i64 r.e)).setCell ⟨g,1,none⟩ (.int .i64 r.n)).setCell ⟨g,2,none⟩ (.slice dA r.ag.length dc)).setCell ⟨g,3,none⟩ (.int .i64 r.eX)):=by
 obtain⟨g',k1,k2,k3,k4⟩:=h.br rfl;rw[h3] at k1;injection k1 with k1;injection k1 with k1;injection k1 with k1;subst k1;have hb:=k4 rfl;have hk:Kept (fun q=>q=g) W ((((W.setCell ⟨g,0,none⟩ (.int .i64 r.e)).setCell ⟨g,1,none⟩ (.int .i64 r.n)).setCell ⟨g,2,none⟩ (.slice dA r.ag.length dc)).setCell ⟨g,3,none⟩ (.int .i64 r.eX)):=
  ((((cZ (S:=fun q=>q=g) W).set (p:=⟨g,0,none⟩) rfl _).set (p:=⟨g,1,none⟩) rfl _).set (p:=⟨g,2,none⟩) rfl _).set (p:=⟨g,3,none⟩) rfl _
 obtain⟨A,c,EI,EJ,r1,r2,r3,r4,r5,r6⟩:=h.res rfl;rw[h1] at r2;simp at r2;obtain⟨rfl,rfl⟩:=r2;have hne:∀g2,d9=true→y3=.pointer (some ⟨g2,0,none⟩)→¬ g2=g:=fun g2 e q e2=>h.ne e rfl (by rw[h3,q,e2])
 refine⟨h.g.below.trans (hk.below h.g.size (fun q hq=>hq ▸ k2)),fun _=>⟨A,c,dA,dc,r1,h1,r3.bare (jE.R6 hb) hk,fun e=>(r4 e).bare (jE.R6 hb) hk,fun e1 e2=>?_,fun _ _=>⟨g,h3,(((hb.aY 0 _).aY 1 _).aY 2 _).aY 3 _⟩⟩,fun e=>?_,fun _=>⟨g,h3,k2,bG k3 hk.size,fun e=>(by cases e)⟩,h.ne⟩
 ·obtain⟨g2,q1,q2⟩:=r5 e1 e2;exact⟨g2,q1,hk.blk q2 (hne g2 e1 q1)⟩
 obtain⟨g2,q1,q2,q3,q4⟩:=h.bs e;exact⟨g2,q1,q2,bG q3 hk.size,fun e'=>hk.blk (q4 e') (hne g2 e q1)⟩
theorem D2.done(h:D2 bb W0 st r true true true true true y1 y2 y3 y4 W):∃A c dA dc gs gr,y1=.agg #[.slice A st.length c]∧y2=.agg (cS r.e r.n dA r.ag.length dc r.eX)∧y3=.pointer (some ⟨gs,0,none⟩)∧y4=.pointer (some ⟨gr,0,none⟩)∧W0.heap.size≤gs∧W0.heap.size≤gr∧gs≠gr∧Grow W0 W ∧
 Blk W gs 44 #[.slice A st.length c]∧Blk W gr 31 (cS r.e r.n dA r.ag.length dc r.eX)∧cQ W A c st∧(bb=true→InL W dA dc r.ag):=by
 obtain⟨A,c,dA,dc,r1,r2,r3,r4,r5,r6⟩:=h.res rfl;obtain⟨gs,s1,s2⟩:=r5 rfl rfl;obtain⟨gr,t1,t2⟩:=r6 rfl rfl;obtain⟨g,k1,k2,-⟩:=h.bs rfl;obtain⟨g',l1,l2,-⟩:=h.br rfl;have e1:g=gs:=by rw[s1] at k1;injection k1 with k1;injection k1 with k1;injection k1 with k1;exact k1.symm
 have e2:g'=gr:=by rw[t1] at l1;injection l1 with l1;injection l1 with l1;injection l1 with l1;exact l1.symm
 subst e1 e2;exact⟨A,c,dA,dc,g,g',r1,r2,s1,t1,k2,l2,fun e=>h.ne rfl rfl (by rw[s1,t1,e]),h.g,s2,t2,r3,r4⟩
end
def yG(bb:Bool)(w:World)(st:List Co)(r:Rp)(e:Ending)(w':World):Prop:=
 Grow w w'∧∃A c dA dc,e=.returned (.tuple #[.agg #[.slice A st.length c],.agg (cS r.e r.n dA r.ag.length dc r.eX)])∧cQ w' A c st∧(bb=true→InL w' dA dc r.ag)
section
variable {P:Program} {ops:Array Oper} {Q:Exit→Act→World→Prop} {S:World→Prop}
def fW(b:Nat)(l:List Bool):Array Bool:=(List.replicate b true++l).toArray
theorem lW(b k:Nat)(l:List Bool):(fW b l).setIfInBounds (b+k) true=fW b (l.set k true):=by
 unfold fW;rw[Oe,N1 _ _ (by simp)];simp
def ZO:List (List Bool×List Nat):=
 [([false,false,false,false,false,false,false,false],[0,4,5]),([false,false,false,false,true,false,false,false],[0,5]),([false,false,false,false,false,true,false,false],[0,4]),([false,false,false,false,true,true,false,false],[0]),
  ([true,true,true,true,false,false,false,false],[4,5]),([true,true,true,true,true,false,false,false],[5]),([true,true,true,true,false,true,false,false],[4]),([true,true,true,true,true,true,false,false],[6]),([true,true,true,true,true,true,true,false],[7]),([true,true,true,true,true,true,true,true],[])]
def ZP:List (List Bool×Nat):=
 [false,true].flatMap fun x=>[false,true].flatMap fun y=>[([true,false,false,false,x,y,false,false],1),([true,true,false,false,x,y,false,false],2),([true,true,true,false,x,y,false,false],3)]
def Iq(ops:Array Oper)(b:Nat)(l9 EB:Nat):Bool:=
 Region.noSelect ops&&ZO.all (fun x=>Region.ready .any ops (fW b x.1)==x.2.map (b+·))&&ZP.all (fun x=>Region.free .any ops (fW b x.1) (b+x.2)&&(Region.ready .any ops (fW b x.1)).contains (b+x.2)) &&
  (match ops[b]? with | some o=>!(o.looksAt ops).contains l9&&!(o.looksAt ops).contains EB | none=>false)
theorem CH(h:i<a.tmps.size):(a.put (some i) v).eval (.tmp i)=v:=by
 simp[Act.put,Act.eval,h]
theorem vJ(h:i≠j):(a.put (some i) v).eval (.tmp j)=a.eval (.tmp j):=by
 simp[Act.put,Act.eval,Array.getD_eq_getD_getElem?,Array.getElem?_setIfInBounds_ne h]
theorem CI:(a.put (some i) v).tmps.size=a.tmps.size:=by simp[Act.put]
theorem yH(a:Act)(u v:Value)(h:i≠j):(a.put (some i) u).put (some j) v=(a.put (some j) v).put (some i) u:=
 Act.put_comm a u v (fun d hd e=>h (by injection hd with hd;injection e with e;rw[hd,e]))
theorem ug{op:Op}(ho:ops[i]?=some ⟨d,op,t,p,af,none⟩)
 (hr:(execOp a.eval ⟨d,op,t,p,af,none⟩).run P w=.ok (.value v) w') (h:K (a.put d v) w'):wpOp P ops Q i K a w:=by
 refine wpOp_step ho fun K' hK=>?_
 rw[aD (by rfl)];unfold Oper.wp;rw[hr,Kn];exact hK _ _ h
theorem ZQ{op:Op}(ho:ops[i]?=some ⟨none,op,t,p,af,none⟩)
 (hr:(execOp a.eval ⟨none,op,t,p,af,none⟩).run P w=.ok .skip w') (h:K a w'):wpOp P ops Q i K a w:=by
 refine wpOp_step ho fun K' hK=>?_
 rw[aD (by rfl)];unfold Oper.wp;rw[hr,Oper.upon_skip];exact hK _ _ h
theorem ZR{op:Op}{f:FuncId}{R:Ending→World→Prop}(ho:ops[i]?=some ⟨d,op,t,p,af,none⟩)
 (hr:(execOp a.eval ⟨d,op,t,p,af,none⟩).run P w=.ok (.enter f args) w) (hC:Calls P f args w R) (h:∀e w',R e w'→∃v,e=.returned v∧K (a.put d v) w'):wpOp P ops Q i K a w:=by
 refine wpOp_step ho fun K' hK=>?_
 rw[aD (by rfl)];unfold Oper.wp;rw[hr,Oper.upon_enter];refine hC.mono fun e w' he=>?_
 obtain⟨v,rfl,hv⟩:=h e w' he;exact hK _ _ hv
end
section
variable {ops:Array Oper} {Q:Exit→Act→World→Prop} {S:World→Prop}
theorem E6{e:Operand→Value}:(execOp e ⟨d,.alloc 44,t,p,af,none⟩).run prog w=.ok (.value (.pointer (some ⟨w.heap.size,0,none⟩))) (w.alloc (.cells #[.slice none 0 0] 44)):=by
 kernel_rfl
theorem E7{e:Operand→Value}:(execOp e ⟨d,.alloc 31,t,p,af,none⟩).run prog w=.ok (.value (.pointer (some ⟨w.heap.size,0,none⟩))) (w.alloc (.cells #[.int .i64 0,.int .i64 0,.slice none 0 0,.int .i64 0] 31)):=by
 kernel_rfl
theorem ahO{x:Act}{l:Nat}(h1:x.eval (.tmp i)=.pointer (some ⟨g,0,none⟩))(h2:x.eval (.tmp j)=.agg #[.slice A l c])(hb:Blk w g 44 #[.slice none 0 0]) :
 (execOp x.eval ⟨none,.store 44 (.tmp i) (.tmp j),t,p,af,none⟩).run prog w=.ok .skip (w.setCell ⟨g,0,none⟩ (.slice A l c)):=by
 have hbc:=hb.cell;have qU:=hb.frozen;unfold execOp;dsimp only;rw[h1,h2];go_simp
theorem ahP{x:Act}{l:Nat}{n k:Int}(h1:x.eval (.tmp i)=.pointer (some ⟨g,0,none⟩))(h2:x.eval (.tmp j)=.agg (cS e n A l c k))(hb:Blk w g 31 #[.int .i64 0,.int .i64 0,.slice none 0 0,.int .i64 0]) :
 (execOp x.eval ⟨none,.store 31 (.tmp i) (.tmp j),t,p,af,none⟩).run prog w=.ok .skip ((((w.setCell ⟨g,0,none⟩ (.int .i64 e)).setCell ⟨g,1,none⟩ (.int .i64 n)).setCell ⟨g,2,none⟩ (.slice A l c)).setCell ⟨g,3,none⟩ (.int .i64 k)):=by
 have hbc:=hb.cell;have qU:=hb.frozen;unfold execOp;dsimp only;rw[h1,h2];go_simp
abbrev uh(st:List Co)(A:Option Addr)(c:Nat):Value:=.agg #[.slice A st.length c]
abbrev ui(r:Rp)(dA:Option Addr)(dc:Nat):Value:=.agg (cS r.e r.n dA r.ag.length dc r.eX)
abbrev pA(g:Nat):Value:=.pointer (some ⟨g,0,none⟩)
def R7(bb:Bool)(W0 W:World)(st:List Co)(r:Rp)(A dA:Option Addr)(c dc gs gr:Nat):Prop:=W0.heap.size≤gs∧W0.heap.size≤gr∧gs≠gr∧Grow W0 W∧Blk W gs 44 #[.slice A st.length c]∧Blk W gr 31 (cS r.e r.n dA r.ag.length dc r.eX)∧cQ W A c st∧(bb=true→InL W dA dc r.ag)
structure DoOps (ops:Array Oper) (b s5 s6 s7 s8 s9 cI:Nat) (o5:Oper):Prop where
 o5:ops[b]?=some o5∧o5.dst=some s5∧o5.guard=none
 o6:∃t p e,ops[b+1]?=some ⟨some s6,.move (.tmp s5),t,p,e,none⟩
 o7:∃t p e,ops[b+2]?=some ⟨some s7,.extract (.tmp s6) 0,t,p,e,none⟩
 o8:∃t p e,ops[b+3]?=some ⟨some s8,.extract (.tmp s6) 1,t,p,e,none⟩
 o9:∃t p e,ops[b+4]?=some ⟨some s9,.alloc 44,t,p,e,none⟩
 o10:∃t p e,ops[b+5]?=some ⟨some cI,.alloc 31,t,p,e,none⟩
 o11:∃t p e,ops[b+6]?=some ⟨none,.store 44 (.tmp s9) (.tmp s7),t,p,e,none⟩
 o12:∃t p e,ops[b+7]?=some ⟨none,.store 31 (.tmp cI) (.tmp s8),t,p,e,none⟩
def Ir(s5 s6 s7 s8 s9 cI n:Nat):Bool:=[s5,s6,s7,s8,s9,cI].all (fun s=>Nat.blt s n)&&decide ([s5,s6,s7,s8,s9,cI].Nodup)
theorem ZT{s5 s6 s7 s8 s9 cI n:Nat}(h:Ir s5 s6 s7 s8 s9 cI n=true):((s5<n∧s6<n)∧(s7<n∧s8<n)∧s9<n∧cI<n)∧(s5≠s6∧s5≠s7∧s5≠s8∧s5≠s9∧s5≠cI)∧(s6≠s7∧s6≠s8∧s6≠s9∧s6≠cI)∧(s7≠s8∧s7≠s9∧s7≠cI)∧(s8≠s9∧s8≠cI)∧s9≠cI:=by
 simp[Ir,Nat.blt_eq] at h;omega
variable {bb:Bool} {P:List Co→Rp→Prop} {b s5 s6 s7 s8 s9 cI:Nat} {o5:Oper}
abbrev vK(s5 s6 s7 s8:Nat)(y0 y1 y2:Value)(a:Act):Act:=(((a.put (some s5) y0).put (some s6) y0).put (some s7) y1).put (some s8) y2
theorem Mq{s:Nat}{y0 y1 y2:Value}(h5:s5≠s)(h6:s6≠s)(h7:s7≠s)(h8:s8≠s):(vK s5 s6 s7 s8 y0 y1 y2 a).put (some s) v=vK s5 s6 s7 s8 y0 y1 y2 (a.put (some s) v):=by
 unfold vK;rw[yH _ _ _ h8,yH _ _ _ h7,yH _ _ _ h6,yH _ _ _ h5]
def mC(s9 cI:Nat)(d9 d10:Bool)(y3 y4:Value)(a:Act):Act:=bif d10 then (bif d9 then a.put (some s9) y3 else a).put (some cI) y4 else (bif d9 then a.put (some s9) y3 else a)
abbrev fA(s5 s6 s7 s8:Nat)(st:List Co)(r:Rp)(A dA:Option Addr)(c dc:Nat)(x:Act):Act:=vK s5 s6 s7 s8 (.tuple #[uh st A c,ui r dA dc]) (uh st A c) (ui r dA dc) x
abbrev wA(ops:Array Oper)(Q:Exit→Act→World→Prop)(S:World→Prop)(n:Nat)(l:Array Bool)(a:Act)(w:World):Prop:=wpAnyH prog .any ops (NoPanic Q) S n l a w
theorem ZU(H:DoOps ops b s5 s6 s7 s8 s9 cI o5)
 (xz:Iq ops b s9 cI=true) (hz:Ir s5 s6 s7 s8 s9 cI a.tmps.size=true)
 {f:FuncId} (hrun:∀W,(execOp a.eval o5).run prog W=.ok (.enter f args) W) {G:World→Prop} (hG:∀W W',G W→Grow W W'→G W') (hC:∀W,G W→Calls prog f args W (fun e w'=>∃st r,P st r∧yG bb W st r e w')) (hS:∀W,Grow W0 W→S W)
 (hd:∀(st:List Co) (r:Rp) (W:World) (A dA:Option Addr) (c dc gs gr:Nat),P st r→R7 bb W0 W st r A dA c dc gs gr →
  Q .normal (fA s5 s6 s7 s8 st r A dA c dc ((a.put (some s9) (pA gs)).put (some cI) (pA gr))) W)
 (d9 d10:Bool) (y3 y4:Value) (W:World) (hI:D2 bb W0 [] Rp.zero false d9 d10 false false undef undef y3 y4 W) (hg0:G W) :
 wA ops Q S (6+(bif d9 then 0 else 1)+(bif d10 then 0 else 1)) (fW b [false,false,false,false,d9,d10,false,false]) (mC s9 cI d9 d10 y3 y4 a) W:=by
 obtain⟨⟨h5,ZV,ZW⟩,⟨t6,p6,e6,h6⟩,⟨t7,p7,e7,h7⟩,⟨t8,p8,e8,h8⟩,⟨t9,p9,e9,h9⟩,⟨t10,p10,e10,h10⟩,⟨t11,p11,e11,h11⟩,t12,p12,e12,h12⟩:=H;obtain⟨d5,E8,t5,p5,e5,g5⟩:=o5;dsimp only at ZV ZW;subst ZV ZW;unfold Iq at xz;simp only[ig] at xz;obtain⟨⟨⟨hns,hT⟩,hF⟩,hlk⟩:=xz;rw[h5] at hlk;simp only[ig,Bool.not_eq_true',← Bool.not_eq_true] at hlk;obtain⟨Mr,Ms⟩:=hlk;have pY:∀l rs,(l,rs)∈ZO→Region.ready .any ops (fW b l)=rs.map (b+·):=fun l rs h=>by
  have:=nY.1 hT _ h;simpa using this
 have Iu:∀l k,(l,k)∈ZP→Region.free .any ops (fW b l) (b+k)=true∧(Region.ready .any ops (fW b l)).contains (b+k)=true:=fun l k h=>by
  have:=nY.1 hF _ h;simpa using this
 obtain⟨⟨⟨z5,z6⟩,⟨z7,z8⟩,z9,z10⟩,⟨n56,n57,n58,n59,R8⟩,⟨n67,n68,n69,R9⟩,⟨n78,R_,Sa⟩,⟨Sc,Sd⟩,Iw⟩:=ZT hz;have ZX:∀cs bb,(⟨some s5,E8,t5,p5,e5,none⟩:Oper).op≠.select cs bb:=fun cs bb=>Og hns b _ cs bb h5
 have ahQ:∀d9 d10 y3 y4 W,(execOp (mC s9 cI d9 d10 y3 y4 a).eval ⟨some s5,E8,t5,p5,e5,none⟩).run prog W=.ok (.enter f args) W:=fun d9 d10 y3 y4 W=>by
  have k9:∀(x:Act) y,execOp (x.put (some s9) y).eval (⟨some s5,E8,t5,p5,e5,none⟩:Oper)=execOp x.eval (⟨some s5,E8,t5,p5,e5,none⟩:Oper):=fun x y=>execOp_put (ops:=ops) _ ZX x (some s9) y (fun d hd hm=>by injection hd with hd;subst hd;exact Mr (by simpa using hm))
  have k10:∀(x:Act) y,execOp (x.put (some cI) y).eval (⟨some s5,E8,t5,p5,e5,none⟩:Oper)=execOp x.eval (⟨some s5,E8,t5,p5,e5,none⟩:Oper):=fun x y=>execOp_put (ops:=ops) _ ZX x (some cI) y (fun d hd hm=>by injection hd with hd;subst hd;exact Ms (by simpa using hm))
  unfold mC
  cases d9<;>cases d10<;>simp only[Bh,Bi]<;>(try rw[k10])<;>(try rw[k9])<;>exact hrun W
 have L3:∀(st:List Co) (r:Rp),P st r→∀(A dA:Option Addr) (c dc gs gr:Nat) (W:World),D2 bb W0 st r true true true true false (uh st A c) (ui r dA dc) (pA gs) (pA gr) W →
  wA ops Q S 1 (fW b [true,true,true,true,true,true,true,false]) (fA s5 s6 s7 s8 st r A dA c dc ((a.put (some s9) (pA gs)).put (some cI) (pA gr))) W:=fun st r hp A dA c dc gs gr W hD=>by
  refine rC (pY _ [7] (by decide)) (by simp) fun i hi=>?_
  obtain rfl:i=b+7:=by simpa using hi
  obtain⟨g,hg,-,-,hb⟩:=hD.br rfl;injection hg with hg;injection hg with hg;injection hg with hg;subst hg;refine ZQ h12 (ahP (g:=gr) (e:=r.e) (n:=r.n) (A:=dA) (l:=r.ag.length) (c:=dc) (k:=r.eX) ?_ ?_ (hb rfl)) ?_
  ·unfold fA vK;rw[vJ Sd,vJ Sa,vJ R9,vJ R8,CH (by simp only[CI];exact z10)]
  ·unfold fA vK;rw[CH (by simp only[CI];exact z8)]
  have dZ:=hD.ahN rfl rfl;refine⟨hS _ dZ.g,?_⟩;rw[lW];refine wpAnyH_done (pY _ [] (by decide)) (NoPanic.normal ?_) _;obtain⟨A',c',EI,EJ,gs',gr',q1,q2,q3,q4,k1,k2,k3,k4,k5,k6,k7,k8⟩:=dZ.done;injection q3 with q3;injection q3 with q3;injection q3 with q3;injection q4 with q4;injection q4 with q4;injection q4 with q4;subst q3 q4;simp only[Value.agg.injEq,Array.mk.injEq,List.cons.injEq,Value.slice.injEq,and_true,true_and] at q1;simp only[cS,Value.agg.injEq,Array.mk.injEq,List.cons.injEq,Value.slice.injEq,Value.int.injEq,and_true,true_and] at q2;obtain⟨rfl,rfl⟩:=q1;obtain⟨rfl,rfl⟩:=q2;exact hd st r _ A dA c dc gs gr hp ⟨k1,k2,k3,k4,k5,k6,k7,k8⟩
 have L2:∀(st:List Co) (r:Rp),P st r→∀(A dA:Option Addr) (c dc gs gr:Nat) (W:World),D2 bb W0 st r true true true false false (uh st A c) (ui r dA dc) (pA gs) (pA gr) W →
  wA ops Q S 2 (fW b [true,true,true,true,true,true,false,false]) (fA s5 s6 s7 s8 st r A dA c dc ((a.put (some s9) (pA gs)).put (some cI) (pA gr))) W:=fun st r hp A dA c dc gs gr W hD=>by
  refine rC (pY _ [6] (by decide)) (by simp) fun i hi=>?_
  obtain rfl:i=b+6:=by simpa using hi
  obtain⟨g,hg,-,-,hb⟩:=hD.bs rfl;injection hg with hg;injection hg with hg;injection hg with hg;subst hg;refine ZQ h11 (ahO (g:=gs) (A:=A) (l:=st.length) (c:=c) ?_ ?_ (hb rfl)) ?_
  ·unfold fA vK;rw[vJ Sc,vJ R_,vJ n69,vJ n59,vJ (uB Iw),CH z9]
  ·unfold fA vK;rw[vJ (uB n78),CH (by simp only[CI];exact z7)]
  have dZ:=hD.ahM rfl rfl;refine⟨hS _ dZ.g,?_⟩;rw[lW];exact L3 st r hp A dA c dc gs gr _ dZ
 have fin:∀(st:List Co) (r:Rp),P st r→∀(d9 d10:Bool) (A dA:Option Addr) (c dc:Nat) (y3 y4:Value) (W:World),D2 bb W0 st r true d9 d10 false false (uh st A c) (ui r dA dc) y3 y4 W →
  wA ops Q S (2+(bif d9 then 0 else 1)+(bif d10 then 0 else 1)) (fW b [true,true,true,true,d9,d10,false,false]) (fA s5 s6 s7 s8 st r A dA c dc (mC s9 cI d9 d10 y3 y4 a)) W:=by
  have tt:∀(st:List Co) (r:Rp),P st r→∀(A dA:Option Addr) (c dc:Nat) (y3 y4:Value) (W:World),D2 bb W0 st r true true true false false (uh st A c) (ui r dA dc) y3 y4 W →
   wA ops Q S 2 (fW b [true,true,true,true,true,true,false,false]) (fA s5 s6 s7 s8 st r A dA c dc ((a.put (some s9) y3).put (some cI) y4)) W:=fun st r hp A dA c dc y3 y4 W hD=>by
   obtain⟨gs,rfl,-⟩:=hD.bs rfl;obtain⟨gr,rfl,-⟩:=hD.br rfl;exact L2 st r hp A dA c dc gs gr W hD
  have tf:∀(st:List Co) (r:Rp),P st r→∀(A dA:Option Addr) (c dc:Nat) (y3 y4:Value) (W:World),D2 bb W0 st r true true false false false (uh st A c) (ui r dA dc) y3 y4 W →
   wA ops Q S 3 (fW b [true,true,true,true,true,false,false,false]) (fA s5 s6 s7 s8 st r A dA c dc (a.put (some s9) y3)) W:=fun st r hp A dA c dc y3 y4 W hD=>by
   refine rC (pY _ [5] (by decide)) (by simp) fun i hi=>?_
   obtain rfl:i=b+5:=by simpa using hi
   refine ug h10 E7 ?_;have dZ:=hD.Ai;refine⟨hS _ dZ.g,?_⟩;rw[lW,Mq R8 R9 Sa Sd];exact tt st r hp A dA c dc _ _ _ dZ
  have ft:∀(st:List Co) (r:Rp),P st r→∀(A dA:Option Addr) (c dc:Nat) (y3 y4:Value) (W:World),D2 bb W0 st r true false true false false (uh st A c) (ui r dA dc) y3 y4 W →
   wA ops Q S 3 (fW b [true,true,true,true,false,true,false,false]) (fA s5 s6 s7 s8 st r A dA c dc (a.put (some cI) y4)) W:=fun st r hp A dA c dc y3 y4 W hD=>by
   refine rC (pY _ [4] (by decide)) (by simp) fun i hi=>?_
   obtain rfl:i=b+4:=by simpa using hi
   refine ug h9 E6 ?_;have dZ:=hD.E5;refine⟨hS _ dZ.g,?_⟩;rw[lW,Mq n59 n69 R_ Sc,yH _ _ _ (uB Iw)];exact tt st r hp A dA c dc _ _ _ dZ
  intro st r hp d9 d10 A dA c dc y3 y4 W hD
  cases d9<;>cases d10
  ·show wpAnyH _ _ _ _ _ 4 _ (vK s5 s6 s7 s8 _ _ _ a) _;refine rC (pY _ [4,5] (by decide)) (by simp) fun i hi=>?_
   have hi':i=b+4∨i=b+5:=by simpa using hi
   rcases hi' with rfl | rfl
   ·refine ug h9 E6 ?_;have dZ:=hD.E5;refine⟨hS _ dZ.g,?_⟩;rw[lW,Mq n59 n69 R_ Sc];exact tf st r hp A dA c dc _ _ _ dZ
   refine ug h10 E7 ?_;have dZ:=hD.Ai;refine⟨hS _ dZ.g,?_⟩;rw[lW,Mq R8 R9 Sa Sd];exact ft st r hp A dA c dc _ _ _ dZ
  ·exact ft st r hp A dA c dc y3 y4 W hD
  ·exact tf st r hp A dA c dc y3 y4 W hD
  exact tt st r hp A dA c dc y3 y4 W hD
 have yI:∀(d9 d10:Bool) (y3 y4:Value) (W:World),D2 bb W0 [] Rp.zero false d9 d10 false false undef undef y3 y4 W→G W →
  wpOp prog ops (NoPanic Q) b (fun a' w'=>S w'∧wA ops Q S (5+(bif d9 then 0 else 1)+(bif d10 then 0 else 1)) ((fW b [false,false,false,false,d9,d10,false,false]).setIfInBounds b true) a' w') (mC s9 cI d9 d10 y3 y4 a) W:=fun d9 d10 y3 y4 W hD hg0=>by
  refine ZR h5 (ahQ d9 d10 y3 y4 W) (hC W hg0) fun e w' he=>?_
  obtain⟨st,r,hp,hg,A,c,dA,dc,rfl,hs,hl⟩:=he;have dZ:=(hD.any (st':=st) (r':=r)).call hg hs hl;refine⟨_,rfl,hS _ dZ.g,?_⟩;have Sg:(mC s9 cI d9 d10 y3 y4 a).tmps.size=a.tmps.size:=by unfold mC;cases d9<;>cases d10<;>simp[CI]
  have e0:=lW b 0 [false,false,false,false,d9,d10,false,false];rw[fX] at e0;rw[e0];clear e0;have f1:=Iu [true,false,false,false,d9,d10,false,false] 1 (by cases d9<;>cases d10<;>decide);have f2:=Iu [true,true,false,false,d9,d10,false,false] 2 (by cases d9<;>cases d10<;>decide);have f3:=Iu [true,true,true,false,d9,d10,false,false] 3 (by cases d9<;>cases d10<;>decide);have uN:5+(bif d9 then 0 else 1)+(bif d10 then 0 else 1)=(2+(bif d9 then 0 else 1)+(bif d10 then 0 else 1))+1+1+1:=by omega
  rw[uN];refine je (i:=b+1) (v:=.tuple #[uh st A c,ui r dA dc]) h6 hns f1.1 f1.2 (fun _ _ _ h=>h) (Or.inl ⟨by rfl,fun w _=>?_⟩) (hS _ dZ.g) ?_
  ·unfold execOp;dsimp only;rw[CH (by rw[Sg];exact z5)];rfl
  rw[lW];refine je (i:=b+2) (v:=uh st A c) h7 hns f2.1 f2.2 (fun _ _ _ h=>h) (Or.inl ⟨by rfl,fun w _=>?_⟩) (hS _ dZ.g) ?_
  ·unfold execOp;dsimp only;rw[CH (by rw[CI,Sg];exact z6)];rfl
  rw[lW];refine je (i:=b+3) (v:=ui r dA dc) h8 hns f3.1 f3.2 (fun _ _ _ h=>h) (Or.inl ⟨by rfl,fun w _=>?_⟩) (hS _ dZ.g) ?_
  ·unfold execOp;dsimp only;rw[vJ (uB n67),CH (by rw[CI,Sg];exact z6)];rfl
  rw[lW];exact fin st r hp d9 d10 A dA c dc y3 y4 w' dZ
 have Sh:∀(y3 y4:Value) (W:World),D2 bb W0 [] Rp.zero false true true false false undef undef y3 y4 W→G W→wA ops Q S 6 (fW b [false,false,false,false,true,true,false,false]) (mC s9 cI true true y3 y4 a) W:=fun y3 y4 W hD hg0=>by
  refine rC (pY _ [0] (by decide)) (by simp) fun i hi=>?_
  obtain rfl:i=b:=by simpa using hi
  exact yI true true y3 y4 W hD hg0
 have ZY:∀(y3 y4:Value) (W:World),D2 bb W0 [] Rp.zero false true false false false undef undef y3 y4 W→G W→wA ops Q S 7 (fW b [false,false,false,false,true,false,false,false]) (mC s9 cI true false y3 y4 a) W:=fun y3 y4 W hD hg0=>by
  refine rC (pY _ [0,5] (by decide)) (by simp) fun i hi=>?_
  have hi':i=b∨i=b+5:=by simpa using hi
  rcases hi' with rfl | rfl
  ·exact yI true false y3 y4 W hD hg0
  refine ug h10 E7 ?_;have dZ:=hD.Ai;refine⟨hS _ dZ.g,?_⟩;rw[lW];exact Sh _ _ _ dZ (hG _ _ hg0 ((ah W).alloc _))
 have ZZ:∀(y3 y4:Value) (W:World),D2 bb W0 [] Rp.zero false false true false false undef undef y3 y4 W→G W→wA ops Q S 7 (fW b [false,false,false,false,false,true,false,false]) (mC s9 cI false true y3 y4 a) W:=fun y3 y4 W hD hg0=>by
  refine rC (pY _ [0,4] (by decide)) (by simp) fun i hi=>?_
  have hi':i=b∨i=b+4:=by simpa using hi
  rcases hi' with rfl | rfl
  ·exact yI false true y3 y4 W hD hg0
  refine ug h9 E6 ?_;have dZ:=hD.E5;refine⟨hS _ dZ.g,?_⟩;rw[lW];show wpAnyH _ _ _ _ _ 6 _ ((a.put (some cI) y4).put (some s9) _) _;rw[yH _ _ _ (uB Iw)];exact Sh _ _ _ dZ (hG _ _ hg0 ((ah W).alloc _))
 cases d9<;>cases d10
 ·show wpAnyH _ _ _ _ _ 8 _ a _;refine rC (pY _ [0,4,5] (by decide)) (by simp) fun i hi=>?_
  have hi':i=b∨i=b+4∨i=b+5:=by simpa using hi
  rcases hi' with rfl | rfl | rfl
  ·exact yI false false y3 y4 W hI hg0
  ·refine ug h9 E6 ?_;have dZ:=hI.E5;refine⟨hS _ dZ.g,?_⟩;rw[lW];exact ZY _ _ _ dZ (hG _ _ hg0 ((ah W).alloc _))
  refine ug h10 E7 ?_;have dZ:=hI.Ai;refine⟨hS _ dZ.g,?_⟩;rw[lW];exact ZZ _ _ _ dZ (hG _ _ hg0 ((ah W).alloc _))
 ·exact ZZ _ _ _ hI hg0
 ·exact ZY _ _ _ hI hg0
 exact Sh _ _ _ hI hg0
theorem ahR(hn:fuel=8)(hl:listed=fW b [false,false,false,false,false,false,false,false])(H:DoOps ops b s5 s6 s7 s8 s9 cI o5)
 (xz:Iq ops b s9 cI=true) (hz:Ir s5 s6 s7 s8 s9 cI a.tmps.size=true)
 {f:FuncId} (hrun:∀W,(execOp a.eval o5).run prog W=.ok (.enter f args) W) (hC:∀W,Grow W0 W→Calls prog f args W (fun e w'=>∃st r,P st r∧yG bb W st r e w')) (hS:∀W,Grow W0 W→S W)
 (hd:∀(st:List Co) (r:Rp) (W:World) (A dA:Option Addr) (c dc gs gr:Nat),P st r→R7 bb W0 W st r A dA c dc gs gr →
  Q .normal (fA s5 s6 s7 s8 st r A dA c dc ((a.put (some s9) (pA gs)).put (some cI) (pA gr))) W) :
 wA ops Q S fuel listed a W0:=by
 subst hn hl;exact ZU H xz hz hrun (G:=fun W=>Grow W0 W) (fun _ _ h k=>h.trans k) hC hS hd false false undef undef W0 (D2.start W0) (ah W0)
theorem ahS(c:Nat)(l:List Bool):fW c (true::true::l)=fW (c+2) l:=by
 unfold fW;congr 1;rw[List.replicate_succ',List.replicate_succ',nv,nv];rfl
def Z0:List (List Bool×List Nat):=
 [([false,false,false,false,false,false,false,false,false,false],[0,6,7]),([false,false,false,false,false,false,true,false,false,false],[0,7]),([false,false,false,false,false,false,false,true,false,false],[0,6]),([false,false,false,false,false,false,true,true,false,false],[0])]
def Z4:List (List Bool×Nat):=[false,true].flatMap fun x=>[false,true].map fun y=>([true,false,false,false,false,false,x,y,false,false],1)
def Z5(ops:Array Oper)(c:Nat)(l9 EB:Nat):Bool:=
 Z0.all (fun x=>Region.ready .any ops (fW c x.1)==x.2.map (c+·))&&Z4.all (fun x=>Region.free .any ops (fW c x.1) (c+x.2)&&(Region.ready .any ops (fW c x.1)).contains (c+x.2)) &&
  (match ops[c]? with | some o=>!(o.looksAt ops).contains l9&&!(o.looksAt ops).contains EB | none=>false)&&(match ops[c+1]? with | some o=>!(o.looksAt ops).contains l9&&!(o.looksAt ops).contains EB | none=>false)
theorem ahT{s1 s2:Nat}{Z6 Z7:Op}{t1 t2:TypeId}{p1 p2:String}{e1 e2:Array Edge}(hn:fuel=10)(hl:listed=fW c [false,false,false,false,false,false,false,false,false,false])(hb:b=c+2)
 (h1:ops[c]?=some ⟨some s1,Z6,t1,p1,e1,none⟩) (h2:ops[c+1]?=some ⟨some s2,Z7,t2,p2,e2,none⟩) (H:DoOps ops b s5 s6 s7 s8 s9 cI o5)
 (Si:Z5 ops c s9 cI=true) (xz:Iq ops b s9 cI=true) (hz:Ir s5 s6 s7 s8 s9 cI a.tmps.size=true) (rH:(s1≠s9∧s1≠cI)∧s2≠s9∧s2≠cI)
 {f1:FuncId} {Sj:Array Value} (hS:∀W,Grow W0 W→S W) (ahU:∀W,(execOp a.eval ⟨some s1,Z6,t1,p1,e1,none⟩).run prog W=.ok (.enter f1 Sj) W)
 (hC1:∀W,Grow W0 W→Calls prog f1 Sj W fun e W'=>∃(v v2:Value) (f:FuncId) (args:Array Value),e=.returned v∧Grow W W'∧(∀W,(execOp (a.put (some s1) v).eval ⟨some s2,Z7,t2,p2,e2,none⟩).run prog W=.ok (.value v2) W) ∧
  (∀W,(execOp ((a.put (some s1) v).put (some s2) v2).eval o5).run prog W=.ok (.enter f args) W)∧(∀W2,Grow W' W2→Calls prog f args W2 (fun e w'=>∃st r,P st r∧yG bb W2 st r e w')) ∧
  (∀(st:List Co) (r:Rp) (W:World) (A dA:Option Addr) (c dc gs gr:Nat),P st r→R7 bb W0 W st r A dA c dc gs gr →
  Q .normal (fA s5 s6 s7 s8 st r A dA c dc ((((a.put (some s1) v).put (some s2) v2).put (some s9) (pA gs)).put (some cI) (pA gr))) W)) :
 wA ops Q S fuel listed a W0:=by
 subst hn hl hb;have hns:Region.noSelect ops=true:=by
  unfold Iq at xz;simp only[ig] at xz;exact xz.1.1.1
 unfold Z5 at Si;simp only[ig] at Si;obtain⟨⟨⟨hT,hF⟩,Mt⟩,hlk2⟩:=Si;rw[h1] at Mt;rw[h2] at hlk2;simp only[ig,Bool.not_eq_true',← Bool.not_eq_true] at Mt hlk2;have pY:∀l rs,(l,rs)∈Z0→Region.ready .any ops (fW c l)=rs.map (c+·):=fun l rs h=>by
  have:=nY.1 hT _ h;simpa using this
 have Iu:∀l k,(l,k)∈Z4→Region.free .any ops (fW c l) (c+k)=true∧(Region.ready .any ops (fW c l)).contains (c+k)=true:=fun l k h=>by
  have:=nY.1 hF _ h;simpa using this
 obtain⟨⟨n19,n1a⟩,n29,n2a⟩:=rH;have Iw:=(ZT hz).2.2.2.2.2;obtain⟨t9,p9,e9,h9⟩:=H.o9;obtain⟨t10,p10,e10,h10⟩:=H.o10;rw[show c+2+4=c+6 from rfl] at h9;rw[show c+2+5=c+7 from rfl] at h10;have Z8:∀(o:Oper) (hs:∀cs bb,o.op≠.select cs bb) (Mr:¬ (o.looksAt ops).contains s9=true) (Ms:¬ (o.looksAt ops).contains cI=true) d9 d10 y3 y4 (x:Act),execOp (mC s9 cI d9 d10 y3 y4 x).eval o=execOp x.eval o:=fun o hs Mr Ms d9 d10 y3 y4 x=>by
  have k9:∀(x:Act) y,execOp (x.put (some s9) y).eval o=execOp x.eval o:=fun x y=>execOp_put (ops:=ops) _ hs x (some s9) y (fun d hd hm=>by injection hd with hd;subst hd;exact Mr (by simpa using hm))
  have k10:∀(x:Act) y,execOp (x.put (some cI) y).eval o=execOp x.eval o:=fun x y=>execOp_put (ops:=ops) _ hs x (some cI) y (fun d hd hm=>by injection hd with hd;subst hd;exact Ms (by simpa using hm))
  unfold mC
  cases d9<;>cases d10<;>simp only[Bh,Bi]<;>(try rw[k10])<;>(try rw[k9])
 have Z9:∀(s:Nat) (v:Value) d9 d10 y3 y4 (x:Act),s≠s9→s≠cI→(mC s9 cI d9 d10 y3 y4 x).put (some s) v=mC s9 cI d9 d10 y3 y4 (x.put (some s) v):=fun s v d9 d10 y3 y4 x q9 Aj=>by
  unfold mC
  cases d9<;>cases d10<;>simp only[Bh,Bi]<;>(try rw[yH _ _ _ (uB Aj)])<;>(try rw[yH _ _ _ (uB q9)])
 have yI:∀(d9 d10:Bool) (y3 y4:Value) (W:World),D2 bb W0 [] Rp.zero false d9 d10 false false undef undef y3 y4 W →
  wpOp prog ops (NoPanic Q) c (fun a' w'=>S w'∧wA ops Q S (7+(bif d9 then 0 else 1)+(bif d10 then 0 else 1)) ((fW c [false,false,false,false,false,false,d9,d10,false,false]).setIfInBounds c true) a' w') (mC s9 cI d9 d10 y3 y4 a) W:=fun d9 d10 y3 y4 W hD=>by
  refine ZR h1 (by rw[Z8 _ (fun cs bb=>Og hns c _ cs bb h1) Mt.1 Mt.2];exact ahU W) (hC1 W hD.g) fun e w' he=>?_
  obtain⟨v,v2,f,args,rfl,hg,hy,hr,hC,hd⟩:=he;refine⟨_,rfl,hS _ (hD.g.trans hg),?_⟩;have e0:=lW c 0 [false,false,false,false,false,false,d9,d10,false,false];rw[fX] at e0;rw[e0];clear e0;have f1:=Iu [true,false,false,false,false,false,d9,d10,false,false] 1 (by cases d9<;>cases d10<;>decide);have uN:7+(bif d9 then 0 else 1)+(bif d10 then 0 else 1)=(6+(bif d9 then 0 else 1)+(bif d10 then 0 else 1))+1:=by omega
  rw[uN,Z9 _ _ _ _ _ _ _ n19 n1a];refine je (i:=c+1) (v:=v2) h2 hns f1.1 f1.2 (fun _ _ _ h=>h) (Or.inl ⟨by rfl,fun w _=>?_⟩) (hS _ (hD.g.trans hg)) ?_
  ·rw[Z8 _ (fun cs bb=>Og hns (c+1) _ cs bb h2) hlk2.1 hlk2.2];exact hy w
  dsimp only;rw[Z9 _ _ _ _ _ _ _ n29 n2a,lW];show wpAnyH _ _ _ _ _ _ (fW c (true::true::[false,false,false,false,d9,d10,false,false])) _ _;rw[ahS];exact ZU H xz (by simp only[CI];exact hz) hr (G:=fun W=>Grow w' W) (fun _ _ h k=>h.trans k) hC hS hd d9 d10 y3 y4 w' (hD.grow hg) (ah w')
 have tt:∀(y3 y4:Value) (W:World),D2 bb W0 [] Rp.zero false true true false false undef undef y3 y4 W→wA ops Q S 8 (fW c [false,false,false,false,false,false,true,true,false,false]) (mC s9 cI true true y3 y4 a) W:=fun y3 y4 W hD=>by
  refine rC (pY _ [0] (by decide)) (by simp) fun i hi=>?_
  obtain rfl:i=c:=by simpa using hi
  exact yI true true y3 y4 W hD
 have tf:∀(y3 y4:Value) (W:World),D2 bb W0 [] Rp.zero false true false false false undef undef y3 y4 W→wA ops Q S 9 (fW c [false,false,false,false,false,false,true,false,false,false]) (mC s9 cI true false y3 y4 a) W:=fun y3 y4 W hD=>by
  refine rC (pY _ [0,7] (by decide)) (by simp) fun i hi=>?_
  have hi':i=c∨i=c+7:=by simpa using hi
  rcases hi' with rfl | rfl
  ·exact yI true false y3 y4 W hD
  refine ug h10 E7 ?_;have dZ:=hD.Ai;refine⟨hS _ dZ.g,?_⟩;rw[lW];exact tt _ _ _ dZ
 have ft:∀(y3 y4:Value) (W:World),D2 bb W0 [] Rp.zero false false true false false undef undef y3 y4 W→wA ops Q S 9 (fW c [false,false,false,false,false,false,false,true,false,false]) (mC s9 cI false true y3 y4 a) W:=fun y3 y4 W hD=>by
  refine rC (pY _ [0,6] (by decide)) (by simp) fun i hi=>?_
  have hi':i=c∨i=c+6:=by simpa using hi
  rcases hi' with rfl | rfl
  ·exact yI false true y3 y4 W hD
  refine ug h9 E6 ?_;have dZ:=hD.E5;refine⟨hS _ dZ.g,?_⟩;rw[lW];show wpAnyH _ _ _ _ _ 8 _ ((a.put (some cI) y4).put (some s9) _) _;rw[yH _ _ _ (uB Iw)];exact tt _ _ _ dZ
 refine rC (pY _ [0,6,7] (by decide)) (by simp) fun i hi=>?_
 have hi':i=c∨i=c+6∨i=c+7:=by simpa using hi
 have hI:=D2.start (bb:=bb) (st:=[]) (r:=Rp.zero) W0;rcases hi' with rfl | rfl | rfl
 ·exact yI false false undef undef W0 hI
 ·refine ug h9 E6 ?_;have dZ:=hI.E5;refine⟨hS _ dZ.g,?_⟩;rw[lW];exact tf _ undef _ dZ
 refine ug h10 E7 ?_;have dZ:=hI.Ai;refine⟨hS _ dZ.g,?_⟩;rw[lW];exact ft undef _ _ dZ
end
end
abbrev Z_:=@jE.state
theorem ahV(W:World)(v:Value):(Instr.typeAssert (.iface 29 v) 20 29 true).run prog W=.ok (.tuple #[v,.bool true]) W:=by kernel_rfl
theorem ahW(W:World):(Instr.typeAssert .nilIface 20 29 true).run prog W=.ok (.tuple #[.int .i64 0,.bool false]) W:=by kernel_rfl
def Mu(w:World)(ob rb:Nat)(s:Value)(e:Int):World:=
 ((((w.setCell ⟨ob,0,none⟩ s).setCell ⟨rb,0,none⟩ (.int .i64 e)).setCell ⟨rb,1,none⟩ (.int .i64 0)).setCell ⟨rb,2,none⟩ (.slice none 0 0)).setCell ⟨rb,3,none⟩ (.int .i64 0)
theorem ahX(sb ob rb cap:Nat)(A:Option Addr)(e:Int)(st:List Co)(x r0 r1 r2 r3:Value)(aaa:List PanicEntry)(w:World)(hs:Blk w sb 44 #[.slice A st.length cap])(ho:Blk w ob 44 #[x])(hr:Blk w rb 31 #[r0,r1,r2,r3])(hne:ob≠rb)
 (hC:Calls prog 37 #[.agg #[.slice A st.length cap]] w (XJ w st)) :
 CallsD prog 41 #[.pointer (some ⟨sb,0,none⟩),.pointer (some ⟨ob,0,none⟩),.pointer (some ⟨rb,0,none⟩)] (.panicking ({ v:=.iface 29 (.int .i64 e),recovered:=false }::aaa)) w fun r u' w' =>
  r=.returned (.tuple #[])∧u'=.panicking ({ v:=.iface 29 (.int .i64 e),recovered:=true }::aaa)∧∃A' c' es w1,Grow w w1∧CR (fun q=>q<w.heap.size) w1 w.heap.size A' c' es st∧w'=Mu w1 ob rb (.slice A' st.length c') e:=by
 have hsc:=hs.cell;have HO:=aa ho;have HR:=aa hr;have HC:=aa hC;have hta:=ahV;clear hs ho hr hC;refine callsD_of_wpS func41 rfl fun c₀ cs hu=>?_
 apply wpS_seq;apply wpS_region;simp[wpOpsS,go_sem,recoverD,hu,ntmps41,Exit.thenS];simp only[Array.replicate,List.replicate,Array.setIfInBounds];refine wpS_of_wp ?_;clear hu;go_wp2_with fail;refine HC.o.mono ?_;rintro ee w1 ⟨hg,A1,c1,es1,rfl,hst⟩;have qD:=(HO.o.grow hg).cell;have hof:=(HO.o.grow hg).frozen;have hrc:=(HR.o.grow hg).cell;have hrf:=(HR.o.grow hg).frozen;have HG:=aa hg;have HST:=aa hst;clear hg hst hsc;go_wp2_with fail;simp[bodyPostS,results,results41,go_sem];exact⟨A1,c1,es1,w1,HG.o,HST.o,rfl⟩
theorem ahY(sb ob rb:Nat)(w:World) :
 CallsD prog 41 #[.pointer (some ⟨sb,0,none⟩),.pointer (some ⟨ob,0,none⟩),.pointer (some ⟨rb,0,none⟩)] .returning w fun r u' w' =>
  r=.returned (.tuple #[])∧u'=.returning∧w'=w:=by
 have hta:=ahW;refine callsD_of_wpS func41 rfl fun c₀ cs hu=>?_
 apply wpS_seq;apply wpS_region;simp[wpOpsS,go_sem,recoverD,hu,ntmps41,Exit.thenS];simp only[Array.replicate,List.replicate,Array.setIfInBounds];refine wpS_of_wp ?_;go_wp2_with fail
 cases c₀
 simp_all [bodyPostS,results,results41,go_sem]
end Go.Proofs.YtndjopkdbdcmdaaGreatDoor
