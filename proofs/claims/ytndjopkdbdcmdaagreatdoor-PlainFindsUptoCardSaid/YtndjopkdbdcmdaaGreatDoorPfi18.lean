/- Part 18 of the proof of pfinds_card. -/
import Derived.Test.YtndjopkdbdcmdaaGreatDoorPfi16
set_option linter.unusedVariables false
set_option linter.unusedSimpArgs false
set_option maxRecDepth 100000
set_option maxHeartbeats 12800000
open Go.Proofs.Tryz
namespace Go.Proofs.YtndjopkdbdcmdaaGreatDoor
section
open Go.RowKit
theorem agi(nm:ByteArray)(ag:List V)(dA xA:Option Addr)(dc xn xc:Nat)(d:V)(cx:Cv)(w:World)(hd:InL w dA dc ag)(hok:∀d∈ag,fC d)(hr:fI (ko ag))(hl:ag.length≤1000000)(hx:In w d cx)(jT:fC d) :
 Calls prog 74 #[.agg #[.string nm,.slice dA ag.length dc,.slice xA xn xc],cx.agg] w fun e w'=>∃A c,e=.returned (.agg #[.string nm,.slice A (gm ag d).length c,.slice xA xn xc])∧InL w' A c (gm ag d)∧Grow w w':=by
 obtain⟨cs,hrow,mM⟩:=PW hd;have kV:=aa hrow;have og:=aa mM;have HX:=aa hx;have iW:=aa (show ag.length≤dc from by unfold InL In at hd;rw[IsV] at hd;exact hd.2.2.2.2.2.2.2.2.2.2.1);have HG:=aa (((ah w).alloc (.cells #[.string nm,.slice dA ag.length dc,.slice xA xn xc] 48)).alloc (.cells cx.cells 27) |>.alloc (.cells #[.string ⟨#[]⟩,.slice none 0 0,.slice none 0 0] 48));have aG:=aa (((aD w 48 #[.string nm,.slice dA ag.length dc,.slice xA xn xc]).alloc (.cells cx.cells 27)).alloc (.cells #[.string ⟨#[]⟩,.slice none 0 0,.slice none 0 0] 48));have aV:=aa ((cX (w:=w.alloc (.cells #[.string nm,.slice dA ag.length dc,.slice xA xn xc] 48)) (g:=w.heap.size+1) (by simp) 27 cx.cells).alloc (.cells #[.string ⟨#[]⟩,.slice none 0 0,.slice none 0 0] 48))
 have av:=aa (cX (w:=(w.alloc (.cells #[.string nm,.slice dA ag.length dc,.slice xA xn xc] 48)).alloc (.cells cx.cells 27)) (g:=w.heap.size+1+1) (by simp) 48 #[.string ⟨#[]⟩,.slice none 0 0,.slice none 0 0]);have HKEY:=aa (fun(W:World) (hg:Grow w W)=>Es d cx W jT.count jT.bytes (hx.grow hg));unfold uQ at HKEY;have ny:=aa (fun(W:World) (hg:Grow w W)=>Ih nm ag dA xA dc xn xc (bM d).1 W (hd.grow hg) hok hr hl);obtain⟨kS,rh⟩:∃s,(⟨(bM d).1.toArray⟩:ByteArray)=s:=⟨_,rfl⟩;rw[rh] at HKEY ny;have l8:gm ag d=if jm ag (bM d).1=true then ag.set (iP ag (bM d).1) d else cZ ag (iP ag (bM d).1) d:=rfl;have Zg:=Ww ag (bM d).1;have Cf:jm ag (bM d).1=true→iP ag (bM d).1<ag.length:=zx
 obtain⟨P,hP⟩:∃p,iP ag (bM d).1=p:=⟨_,rfl⟩;obtain⟨F,hF⟩:∃p,jm ag (bM d).1=p:=⟨_,rfl⟩;rw[hP] at ny l8 Zg Cf;rw[hF] at ny l8 Cf;have BP:=aa l8;have HPF:=aa Cf;have uW:=aa Zg;clear hrow mM hd hok hr hx jT rh l8 Cf hP hF;go_enter func74,ntmps74;go_upto_region 1 with fail;generalize ((w.alloc (.cells #[.string nm,.slice dA ag.length dc,.slice xA xn xc] 48)).alloc (.cells cx.cells 27)).alloc (.cells #[.string ⟨#[]⟩,.slice none 0 0,.slice none 0 0] 48)=W3 at HG aG aV av ⊢;refine dN ?_
 refine dO (S:=fun w'=>(∀i,w'.cell? ⟨w.heap.size,i,none⟩=(#[.string nm,.slice dA ag.length dc,.slice xA xn xc]:Array Value)[i]?)∧∀i,w'.cell? ⟨w.heap.size+1,i,none⟩=cx.cells[i]?) (by kernel_rfl) (⟨(aG.o.grow (ah _).drew).cell,(aV.o.grow (ah _).drew).cell⟩) (fun hHeld=>?_);have aC:=aa (HG.o.trans (ah W3).drew);have gq:=aa (fun(W:World) (hg:Grow W3.drew W)=>show (∀i,W.cell? ⟨w.heap.size,i,none⟩=(#[.string nm,.slice dA ag.length dc,.slice xA xn xc]:Array Value)[i]?)∧∀i,W.cell? ⟨w.heap.size+1,i,none⟩=cx.cells[i]? from ⟨(aG.o.grow ((ah _).drew.trans hg)).cell,(aV.o.grow ((ah _).drew.trans hg)).cell⟩);replace aG:=aa (aG.o.grow (ah _).drew);replace aV:=aa (aV.o.grow (ah _).drew);replace av:=aa (av.o.grow (ah _).drew)
 generalize W3.drew=W0 at aC gq hHeld aG aV av ⊢;refine eB 0 ?_;refine eB 1 ?_;refine aK 2 (fun K hK=>?_);have hC:=HKEY.o W0 aC.o;go_simp;go_at_call 71;refine hC.mono ?_;rintro ee W4 ⟨rfl,hg4⟩;refine aU hK (gq.o _ hg4) (fun hHeld=>?_);clear hK K;refine aK 3 (fun K hK=>?_);have Iq:=ny.o W4 (aC.o.trans hg4);go_simp;go_at_call 70;refine Iq.mono ?_;rintro ee W5 ⟨rfl,bP⟩;refine aU hK (gq.o _ (hg4.trans bP)) (fun hHeld=>?_);clear hK K;refine aj 4 ?_;refine aj 5 ?_;refine aj 6 ?_;refine aj 7 ?_;refine aj 8 ?_;refine cz ?_;clear hHeld hC Iq;have bN:=aa (aC.o.trans (hg4.trans bP));replace aG:=aa (aG.o.grow (hg4.trans bP));replace aV:=aa (aV.o.grow (hg4.trans bP));replace av:=aa (av.o.grow (hg4.trans bP))
 have h_:=aa (eX (fk bN.o.below (ay _) (ay _) bN.o.size) kV.o);have hb2:=aG.o.cell;have hi0:(0:Int)≤(P:Int):=by omega
 have hi1:(P:Int)≤(ag.length:Int):=by omega
 have hi2:(P:Int)≤(dc:Int):=by have:=iW.o;omega
 clear hg4 bP gq HKEY ny;have hsh:=Yh (A:=dA) (i:=P) uW.o iW.o;go_upto_region 4 with (at_builtin;refine BM (w0:=W5) (.tmp 15) (.tmp 19) 24 27 5 88 _ jv oO rfl rfl rfl (Yg h_.o P dc uW.o) (by omega) (by simp only[maxLen];omega) (ah _) ?_;intro A6 c6 w6 kR cH);clear hsh;have H6:=aa (aG.o.grow cH);have agj:=aa (aV.o.grow cH);have H9:=aa (av.o.grow cH);have sW:=aa kR;have bp:=aa cH;have hb3:=agj.o.cell;clear hb2 kR cH;go_upto_region 5 with (at_builtin;refine sS (w0:=W5) (.tmp 21) (.tmp 23) 24 27 5 88 _ jv oO rfl rfl (sW.o.alloc _) rfl (LV cx (aD w6 27 cx.cells)) (by omega) (by simp only[maxLen];omega) (bp.o.alloc _) ?_;intro A7 c7 w7 fM b_);have pj:=aa fM;have aX:=aa b_
 have agk:=((ah w6).alloc (.cells cx.cells 27)).size;clear hb3
 cases F with
 | true =>
  have hpl:=HPF.o rfl;obtain⟨q,hq⟩:∃q,P+1=q:=⟨_,rfl⟩;have EB:((P:Int)+1)=(q:Int):=by omega
  have EC:IntKind.i64.wrap (q:Int)=(q:Int):=by rw[lJ];omega
  have hq0:(0:Int)≤(q:Int):=by omega
  have hq1:(q:Int)≤(ag.length:Int):=by omega
  have hq2:(q:Int)≤(dc:Int):=by have:=iW.o;omega
  have IM:q≤ag.length:=by omega
  have hcap:=iW.o;have HQ:=aa hq;have sY:=aa (aG.o.grow aX.o);have iy:=aa (eX (fk aX.o.below (ay _) (ay _) aX.o.size) h_.o);have hb2:=sY.o.cell;clear hq;obtain⟨AZ,hsl,hsrc⟩:=Q7 (A:=dA) (i:=q) IM hcap;have jk:=aa hsrc;clear hsrc;go_upto_region 8 with (at_builtin;refine sS (w0:=W5) (.tmp 28) (.tmp 32) 24 27 5 88 _ jv oO rfl rfl pj.o rfl (jk.o _ _ _ iy.o) (by omega) (by simp only[maxLen];omega) aX.o ?_;intro A8 c8 w8 cN cY;have iK:=(aG.o.grow cY).cell;have yi:=(aG.o.grow cY).frozen);clear hsl;have gh:=(dU (S:=fun x=>x=w.heap.size) w8).set (p:=⟨w.heap.size,1,none⟩) rfl (.slice A8 (P+1+(ag.length-q)) c8);have lq:=aa ((aG.o.grow cY).bf 1 (.slice A8 (P+1+(ag.length-q)) c8))
  have jU:=aa (gh.blk (av.o.grow cY) (by omega));have hbase:w.heap.size<W5.heap.size:=aG.o.lt;have kT:=gF cN gh (fun g hg e=>by
   have:=(bO cN g (by rw[bH];exact hg)).1;omega)
  have gK:=aa kT;have dH:=aa ((bN.o.trans cY).setCell (p:=⟨w.heap.size,1,none⟩) (ay _) (.slice A8 (P+1+(ag.length-q)) c8));clear gh cN kT cY iK yi hb2
  try simp only[gf] at lq jU gK dH
  generalize w8.setCell ⟨w.heap.size,1,none⟩ _=w9 at lq jU gK dH ⊢;have hbc:=lq.o.cell;have hb4:=jU.o.cell;have iz:=jU.o.frozen;go_wp2_with fail;refine iE (LY (cs:=#[.string nm,.slice A8 (P+1+(ag.length-q)) c8,.slice xA xn xc]) rfl rfl rfl ?_) rfl ?_
  ·exact((jU.o.bf 0 _).bf 1 _).bf 2 _
  have HK:=(((dU (S:=fun x=>x=w.heap.size+1+1) w9).set (p:=⟨w.heap.size+1+1,0,none⟩) rfl (.string nm)).set (p:=⟨w.heap.size+1+1,1,none⟩) rfl (.slice A8 (P+1+(ag.length-q)) c8)).set (p:=⟨w.heap.size+1+1,2,none⟩) rfl (.slice xA xn xc);have Ib:w.heap.size+1+1<W5.heap.size:=av.o.lt;have hown:=gF gK.o HK (fun g hg e=>by
   have:=(bO gK.o g (by rw[bH];exact hg)).1;omega)
  have cm:=dH.o.below.trans (HK.below (B:=w.heap.size) dH.o.size (fun q hq=>by omega));have l8:gm ag d=ag.take P++d::ag.drop q:=by
   rw[BP.o]
   first | rw[aw rfl] | rw[aw trivial]
   rw[NY,aw hpl,← HQ.o]
  have hlen:P+1+(ag.length-q)=(gm ag d).length:=by
   rw[l8,bG,aT,dS,iM];omega
  rw[l8] at hlen ⊢;exact⟨A8,c8,by rw[← hlen],Yi hown og.o HX.o cm hlen hl,cm⟩
 | false =>
  obtain⟨q,hq⟩:∃q,P=q:=⟨_,rfl⟩;have EB:((P:Int))=(q:Int):=by omega
  have EC:IntKind.i64.wrap (q:Int)=(q:Int):=by rw[lJ];omega
  have hq0:(0:Int)≤(q:Int):=by omega
  have hq1:(q:Int)≤(ag.length:Int):=by omega
  have hq2:(q:Int)≤(dc:Int):=by have:=iW.o;omega
  have IM:q≤ag.length:=by omega
  have hcap:=iW.o;have HQ:=aa hq;have sY:=aa (aG.o.grow aX.o);have iy:=aa (eX (fk aX.o.below (ay _) (ay _) aX.o.size) h_.o);have hb2:=sY.o.cell;clear hq;obtain⟨AZ,hsl,hsrc⟩:=Q7 (A:=dA) (i:=q) IM hcap;have jk:=aa hsrc;clear hsrc;go_upto_region 8 with (at_builtin;refine sS (w0:=W5) (.tmp 28) (.tmp 32) 24 27 5 88 _ jv oO rfl rfl pj.o rfl (jk.o _ _ _ iy.o) (by omega) (by simp only[maxLen];omega) aX.o ?_;intro A8 c8 w8 cN cY;have iK:=(aG.o.grow cY).cell;have yi:=(aG.o.grow cY).frozen);clear hsl;have gh:=(dU (S:=fun x=>x=w.heap.size) w8).set (p:=⟨w.heap.size,1,none⟩) rfl (.slice A8 (P+1+(ag.length-q)) c8);have lq:=aa ((aG.o.grow cY).bf 1 (.slice A8 (P+1+(ag.length-q)) c8))
  have jU:=aa (gh.blk (av.o.grow cY) (by omega));have hbase:w.heap.size<W5.heap.size:=aG.o.lt;have kT:=gF cN gh (fun g hg e=>by
   have:=(bO cN g (by rw[bH];exact hg)).1;omega)
  have gK:=aa kT;have dH:=aa ((bN.o.trans cY).setCell (p:=⟨w.heap.size,1,none⟩) (ay _) (.slice A8 (P+1+(ag.length-q)) c8));clear gh cN kT cY iK yi hb2
  try simp only[gf] at lq jU gK dH
  generalize w8.setCell ⟨w.heap.size,1,none⟩ _=w9 at lq jU gK dH ⊢;have hbc:=lq.o.cell;have hb4:=jU.o.cell;have iz:=jU.o.frozen;go_wp2_with fail;refine iE (LY (cs:=#[.string nm,.slice A8 (P+1+(ag.length-q)) c8,.slice xA xn xc]) rfl rfl rfl ?_) rfl ?_
  ·exact((jU.o.bf 0 _).bf 1 _).bf 2 _
  have HK:=(((dU (S:=fun x=>x=w.heap.size+1+1) w9).set (p:=⟨w.heap.size+1+1,0,none⟩) rfl (.string nm)).set (p:=⟨w.heap.size+1+1,1,none⟩) rfl (.slice A8 (P+1+(ag.length-q)) c8)).set (p:=⟨w.heap.size+1+1,2,none⟩) rfl (.slice xA xn xc);have Ib:w.heap.size+1+1<W5.heap.size:=av.o.lt;have hown:=gF gK.o HK (fun g hg e=>by
   have:=(bO gK.o g (by rw[bH];exact hg)).1;omega)
  have cm:=dH.o.below.trans (HK.below (B:=w.heap.size) dH.o.size (fun q hq=>by omega));have l8:gm ag d=ag.take P++d::ag.drop q:=by
   rw[BP.o]
   first | rw[ai (by decide),← HQ.o] | rw[← HQ.o]
   rfl
  have hlen:P+1+(ag.length-q)=(gm ag d).length:=by
   rw[l8,bG,aT,dS,iM];omega
  rw[l8] at hlen ⊢;exact⟨A8,c8,by rw[← hlen],Yi hown og.o HX.o cm hlen hl,cm⟩
end
section
open Go.RowKit
theorem agl(nm:ByteArray)(ag:List V)(dA xA:Option Addr)(dc xn xc:Nat)(k:List UInt8)(w:World)(hd:InL w dA dc ag)(hok:∀d∈ag,fC d)(hr:fI (ko ag))(hl:ag.length≤1000000)(hf:jm ag k=true) :
 Calls prog 75 #[.agg #[.string nm,.slice dA ag.length dc,.slice xA xn xc],.string ⟨k.toArray⟩] w fun e w'=>∃A c,e=.returned (.agg #[.string nm,.slice A (gD ag (iP ag k)).length c,.slice xA xn xc])∧InL w' A c (gD ag (iP ag k))∧Grow w w':=by
 obtain⟨cs,hrow,mM⟩:=PW hd;have kV:=aa hrow;have og:=aa mM;have iW:=aa (show ag.length≤dc from by unfold InL In at hd;rw[IsV] at hd;exact hd.2.2.2.2.2.2.2.2.2.2.1);have HG:=aa (((ah w).alloc (.cells #[.string nm,.slice dA ag.length dc,.slice xA xn xc] 48)).alloc (.cells #[.string ⟨#[]⟩,.slice none 0 0,.slice none 0 0] 48));have aG:=aa ((aD w 48 #[.string nm,.slice dA ag.length dc,.slice xA xn xc]).alloc (.cells #[.string ⟨#[]⟩,.slice none 0 0,.slice none 0 0] 48));have av:=aa (cX (w:=w.alloc (.cells #[.string nm,.slice dA ag.length dc,.slice xA xn xc] 48)) (g:=w.heap.size+1) (by simp) 48 #[.string ⟨#[]⟩,.slice none 0 0,.slice none 0 0]);have ny:=aa (fun(W:World) (hg:Grow w W)=>Ih nm ag dA xA dc xn xc k W (hd.grow hg) hok hr hl)
 obtain⟨kS,rh⟩:∃s,(⟨k.toArray⟩:ByteArray)=s:=⟨_,rfl⟩;have hpl:=zx hf;obtain⟨P,hP⟩:∃p,iP ag k=p:=⟨_,rfl⟩;rw[rh,hP,hf] at ny;rw[rh];rw[hP] at hpl ⊢;have uW:=aa (pI hpl);clear hrow mM hd hok hr rh hP hf;go_enter func75,ntmps75;go_upto_region 1 with fail;generalize (w.alloc (.cells #[.string nm,.slice dA ag.length dc,.slice xA xn xc] 48)).alloc (.cells #[.string ⟨#[]⟩,.slice none 0 0,.slice none 0 0] 48)=W3 at HG aG av ⊢;have hb2:=aG.o.cell;go_wp2_with fail;refine(ny.o W3 HG.o).mono ?_;rintro e W5 ⟨rfl,bP⟩;have bN:=aa (HG.o.trans bP);replace aG:=aa (aG.o.grow bP);replace av:=aa (av.o.grow bP);have h_:=aa (eX (fk bN.o.below (ay _) (ay _) bN.o.size) kV.o);clear hb2 bP;have hb2:=aG.o.cell
 have hi0:(0:Int)≤(P:Int):=by omega
 have hi1:(P:Int)≤(ag.length:Int):=by omega
 have hi2:(P:Int)≤(dc:Int):=by have:=iW.o;omega
 clear ny;have hsh:=Yh (A:=dA) (i:=P) uW.o iW.o;go_upto_region 6 with (at_builtin;refine BM (w0:=W5) (.tmp 17) (.tmp 21) 24 27 5 88 _ jv oO rfl rfl rfl (Yg h_.o P dc uW.o) (by omega) (by simp only[maxLen];omega) (ah _) ?_;intro A6 c6 w6 kR cH);clear hsh;have sW:=aa kR;have bp:=aa cH;clear hb2 kR cH;obtain⟨q,hq⟩:∃q,P+1=q:=⟨_,rfl⟩;have EB:(P:Int)+1=(q:Int):=by omega
 have EC:IntKind.i64.wrap (q:Int)=(q:Int):=by rw[lJ];omega
 have hq0:(0:Int)≤(q:Int):=by omega
 have hq1:(q:Int)≤(ag.length:Int):=by omega
 have hq2:(q:Int)≤(dc:Int):=by have:=iW.o;omega
 have IM:q≤ag.length:=by omega
 have hcap:=iW.o;have HQ:=aa hq;have sY:=aa (aG.o.grow bp.o);have iy:=aa (eX (fk bp.o.below (ay _) (ay _) bp.o.size) h_.o);have hb2:=sY.o.cell;clear hq;obtain⟨AZ,hsl,hsrc⟩:=Q7 (A:=dA) (i:=q) IM hcap;have jk:=aa hsrc;clear hsrc;go_upto_region 7 with (at_builtin;refine sS (w0:=W5) (.tmp 23) (.tmp 28) 24 27 5 88 _ jv oO rfl rfl sW.o rfl (jk.o _ _ _ iy.o) (by omega) (by simp only[maxLen];omega) bp.o ?_;intro A8 c8 w8 cN cY;have iK:=(aG.o.grow cY).cell;have yi:=(aG.o.grow cY).frozen);clear hsl;have gh:=(dU (S:=fun x=>x=w.heap.size) w8).set (p:=⟨w.heap.size,1,none⟩) rfl (.slice A8 (P+(ag.length-q)) c8);have lq:=aa ((aG.o.grow cY).bf 1 (.slice A8 (P+(ag.length-q)) c8))
 have jU:=aa (gh.blk (av.o.grow cY) (by omega));have hbase:w.heap.size<W5.heap.size:=aG.o.lt;have kT:=gF cN gh (fun g hg e=>by
  have:=(bO cN g (by rw[bH];exact hg)).1;omega)
 have gK:=aa kT;have dH:=aa ((bN.o.trans cY).setCell (p:=⟨w.heap.size,1,none⟩) (ay _) (.slice A8 (P+(ag.length-q)) c8));clear gh cN kT cY iK yi hb2
 try simp only[gf] at lq jU gK dH
 generalize w8.setCell ⟨w.heap.size,1,none⟩ _=w9 at lq jU gK dH ⊢;have hbc:=lq.o.cell;have hb4:=jU.o.cell;have iz:=jU.o.frozen;go_wp2_with fail;refine iE (LY (cs:=#[.string nm,.slice A8 (P+(ag.length-q)) c8,.slice xA xn xc]) rfl rfl rfl ?_) rfl ?_
 ·exact((jU.o.bf 0 _).bf 1 _).bf 2 _
 have HK:=(((dU (S:=fun x=>x=w.heap.size+1) w9).set (p:=⟨w.heap.size+1,0,none⟩) rfl (.string nm)).set (p:=⟨w.heap.size+1,1,none⟩) rfl (.slice A8 (P+(ag.length-q)) c8)).set (p:=⟨w.heap.size+1,2,none⟩) rfl (.slice xA xn xc);have Ib:w.heap.size+1<W5.heap.size:=av.o.lt;have hown:=gF gK.o HK (fun g hg e=>by
  have:=(bO gK.o g (by rw[bH];exact hg)).1;omega)
 have cm:=dH.o.below.trans (HK.below (B:=w.heap.size) dH.o.size (fun q hq=>by omega));have l8:gD ag P=ag.take P++ag.drop q:=by rw[← HQ.o];rfl
 have hlen:P+(ag.length-q)=(ag.take P++ag.drop q).length:=by
  rw[bG,dS,iM];omega
 rw[l8];exact⟨A8,c8,by rw[← hlen],afw hown og.o cm hlen hl,cm⟩
theorem wO:prog.underlying 42=some (.slice 48):=by kernel_rfl
theorem ED:(prog.info? 48).map (fun i=>(i.zero,i.size,i.bytes))=some (some (.agg #[.string ⟨#[]⟩,.slice none 0 0,.slice none 0 0]),3,64):=by kernel_rfl
theorem Mc(st:List Co)(A:Option Addr)(cap i:Nat)(e:Cc)(c:Co)(w:World)(hst:dW w A cap st)(hc:su w e c)(hi:i<st.length)(hl:st.length≤1000000) :
 Calls prog 73 #[.agg #[.slice A st.length cap],.int .i64 i,.agg e.cells] w fun e' w'=>∃A' c',e'=.returned (.agg #[.slice A' (st.set i c).length c'])∧dW w' A' c' (st.set i c)∧Grow w w':=by
 obtain⟨hcap,es,mM,hrow⟩:=hst;have og:=aa mM;have kV:=aa hrow;have HC:=aa hc;have hel:es.length=st.length:=mM.1;have oN:=aa hel;have HG:=aa (((((ah w).alloc (.cells #[.slice A st.length cap] 44)).alloc (.cells e.cells 48)).alloc (.cells #[.slice none 0 0] 44)).alloc (.cells #[.slice none 0 0] 44));have aV:=aa ((((aD w 44 #[.slice A st.length cap]).alloc (.cells e.cells 48)).alloc (.cells #[.slice none 0 0] 44)).alloc (.cells #[.slice none 0 0] 44));have ar:=aa (((cX (w:=w.alloc (.cells #[.slice A st.length cap] 44)) (g:=w.heap.size+1) (by simp) 48 e.cells).alloc (.cells #[.slice none 0 0] 44)).alloc (.cells #[.slice none 0 0] 44))
 have dg:=aa ((cX (w:=(w.alloc (.cells #[.slice A st.length cap] 44)).alloc (.cells e.cells 48)) (g:=w.heap.size+1+1) (by simp) 44 #[.slice none 0 0]).alloc (.cells #[.slice none 0 0] 44));have ji:=aa (cX (w:=((w.alloc (.cells #[.slice A st.length cap] 44)).alloc (.cells e.cells 48)).alloc (.cells #[.slice none 0 0] 44)) (g:=w.heap.size+1+1+1) (by simp) 44 #[.slice none 0 0]);clear hrow mM hc hel hcap;go_enter func73,ntmps73;go_upto_region 2 with fail;generalize (((w.alloc (.cells #[.slice A st.length cap] 44)).alloc (.cells e.cells 48)).alloc (.cells #[.slice none 0 0] 44)).alloc (.cells #[.slice none 0 0] 44)=W4 at HG aV ar dg ji ⊢;have dP:=aa (eX (fk HG.o.below (ay _) (ay _) HG.o.size) kV.o);have hb3:=aV.o.cell;have mN:=ji.o.cell
 go_upto_region 3 with (at_builtin;refine BM (w0:=W4) (.tmp 9) (.tmp 11) 42 48 3 64 _ wO ED rfl rfl rfl (fe (c:=cap) wO dP.o (DC es)) (by omega) (by simp only[maxLen];omega) (ah _) ?_;intro A6 c6 w6 kR cH;have iK:=(ji.o.grow cH).cell;have yi:=(ji.o.grow cH).frozen);obtain⟨g6,agm,EE,ami,Md,Rx,BA,bl,-,-⟩:=kL kR (by omega);subst EE;have amj:w.heap.size+1+1+1<W4.heap.size:=ji.o.lt;have HT:=(dU (S:=fun x=>x=w.heap.size+1+1+1) w6).set (p:=⟨w.heap.size+1+1+1,0,none⟩) rfl (.slice (some ⟨g6,0,none⟩) st.length c6);have Ry:=aa ((ji.o.grow cH).bf 0 (.slice (some ⟨g6,0,none⟩) st.length c6));have Zh:=aa (HT.blk (ar.o.grow cH) (by omega));have Zi:=aa (HT.blk (dg.o.grow cH) (by omega))
 have fM:=gF kR HT (fun g hg e=>by
  have hg2:g6=g:=mU hg;omega)
 have pj:=aa fM;have aX:=aa ((HG.o.trans cH).setCell (p:=⟨w.heap.size+1+1+1,0,none⟩) (by simp;omega) (.slice (some ⟨g6,0,none⟩) st.length c6));clear HT kR fM cH iK yi hb3 mN Md Rx BA bl;generalize w6.setCell ⟨w.heap.size+1+1+1,0,none⟩ _=w7 at Ry Zh Zi pj aX ⊢;obtain⟨g6',agm,EE,-,Md,Rx,BA,bl,-,-⟩:=kL pj.o (by omega);have uJ:w7.there g6 (i*3) 3:=fun k hk=>by
  have e6:g6=g6':=by injection EE with EE;injection EE
  rw[e6];exact jM Md (i*3+k) (by rw[bl];have:(i+1)*3≤c6*3:=iB 3 (by omega);omega)
 have wF:=aa uJ;have mN:=Ry.o.cell;have cr:=Zh.o.cell;have hi0:(0:Int)≤(i:Int):=by omega
 have hi1:(i:Int)<(st.length:Int):=by omega
 clear uJ Md Rx BA bl EE;go_upto_region 4 with ((with_reducible refine agn 48 ?_);refine wpList_store_mid rfl 48 (.tmp 18) (.tmp 17) rfl g6 (i*3) e.cells rfl rfl wF.o (by kernel_rfl) (by simp[Value.oneCell']) ?_);have hput:=PV (D:=i) (vs:=e.cells.toList) pj.o hi rfl;rw[show (dK es).take (i*3)++e.cells.toList++(dK es).drop ((i+1)*3)=dK (es.set i e) from V9 (fun e:Cc=>e.cells.toList) 3 (fun _=>rfl) es i e (by rw[oN.o];exact hi)] at hput;have HK:=(Bf (jF g6 (some g6) rfl e.cells.toList w7 (i*3))).mono (S':=fun q=>q=g6) (fun q hq=>by injection hq with hq;exact hq.symm);have amk:=(bO pj.o g6 (by rw[bH];rfl)).1;have Zj:=aa (HK.blk Ry.o (by omega));have Me:=aa (HK.blk Zi.o (by omega));have yh:=aa hput
 have cD:=aa (aX.o.below.trans (HK.below (B:=w.heap.size) aX.o.size (fun q hq=>by have:=HG.o.size;omega)));clear hput HK mN cr;generalize w7.setCells g6 (i*3) e.cells.toList=w8 at Zj Me yh cD ⊢;have mN:=Zj.o.cell;have kQ:=Me.o.cell;have hf6:=Me.o.frozen;go_wp2_with fail;refine iE (Yk (cs:=#[.slice (some ⟨g6,0,none⟩) st.length c6]) rfl rfl rfl ?_) rfl ?_
 ·exact Me.o.bf 0 _
 have HK:=(dU (S:=fun x=>x=w.heap.size+1+1) w8).set (p:=⟨w.heap.size+1+1,0,none⟩) rfl (.slice (some ⟨g6,0,none⟩) st.length c6);have hown:=gF yh.o HK (fun g hg e=>by
  have hg2:g6=g:=mU hg;omega)
 have cm:=cD.o.trans (HK.below (B:=w.heap.size) cD.o.size (fun q hq=>by omega));refine⟨some ⟨g6,0,none⟩,c6,by rw[kD],⟨by rw[kD];exact(nr hown).1,es.set i e,(og.o.mono fun a b k=>k.mono (fk cm (ay _) (ay _) (Below.size cm))).set i (HC.o.mono (fk cm (ay _) (ay _) (Below.size cm))),?_⟩,cm⟩;rw[kD];exact eX km (lg (S:=fun _=>False) hown (fun _ _ h=>h))
end
section
open Go.RowKit
theorem IP:(prog.info? 64).map (fun i=>(i.zero,i.size,i.bytes))=some (some (.agg #[.string ⟨#[]⟩,.string ⟨#[]⟩,.bool false]),3,40):=by kernel_rfl
theorem zP:prog.underlying 46=some (.slice 64):=by kernel_rfl
section
variable {w:World} {ad:Addr} {A:Option Addr} {n:Nat} {xs:List Ix}
theorem Zk(h:Reads (bK w 0 w.heap.size) 3 A n (fU xs))(i c:Nat)(hi:i≤n):Src prog 3 46 (.slice A i c) i (fU (xs.take i)) w:=by
 have hh:=fe (c:=c) zP (h.Ii i hi) (fun u hu=>DD xs u (yP hu));rwa [show (fU xs).take (i*3)=fU (xs.take i) from zq (fun e:Ix=>e.cells.toList) 3 (fun _=>rfl) xs i] at hh
theorem Zl{cap i:Nat}(h1:i≤n)(h2:n≤cap)(w:World):(Instr.sliceAt 46 (.slice A n cap) none (some (.int .i64 (i:Int))) none).run prog w=.ok (.slice A i cap) w:=by
 have k1:(0:Int)≤(i:Int):=by omega
 have k2:(i:Int)≤(n:Int):=by omega
 have k3:(i:Int)≤(cap:Int):=by omega
 rcases A with _ | a<;>go_simp
theorem Zm{cap i:Nat}(h1:i≤n)(h2:n≤cap):∃B,(∀w,(Instr.sliceAt 46 (.slice A n cap) (some (.int .i64 (i:Int))) none none).run prog w=.ok (.slice B (n-i) (cap-i)) w) ∧
 ∀(w:World) (c:Nat) (xs:List Ix),Reads (bK w 0 w.heap.size) 3 A n (fU xs)→Src prog 3 46 (.slice B (n-i) c) (n-i) (fU (xs.drop i)) w:=by
 have k1:(0:Int)≤(i:Int):=by omega
 have k2:(i:Int)≤(n:Int):=by omega
 have k3:(i:Int)≤(cap:Int):=by omega
 refine⟨if cap=i then A else A.map (·.add (i*3)),fun w=>by rcases A with _ | a<;>go_simp,fun w c xs h=>?_⟩;have hh:=fe (c:=c) zP (h.Ij i cap h1 h2) (fun u hu=>DD xs u (rQ hu));rwa [show (fU xs).drop (i*3)=fU (xs.drop i) from ur (fun e:Ix=>e.cells.toList) 3 (fun _=>rfl) xs i] at hh
theorem ago{g:Nat}(c:Ix)(hb:Blk w g 64 c.cells):Src prog 3 46 (.slice (some ⟨g,0,none⟩) 1 1) 1 c.cells.toList w:=
 Src.ofSlice _ zP ⟨g,0,none⟩ 1 1 _ rfl (fun j u hu=>by
  rw[add_lit,dY,hb.cell j,← hu,pH]) (fun u hu=>by
  simp only[je,wZ,w_] at hu;rcases hu with rfl | rfl | rfl<;>rfl)
theorem agp{base c P:Nat}{x:Ix}(h:w.ownsRow base 64 3 (.slice A n c) n (fU (xs.take P)++x.cells.toList++fU (xs.drop P)))(hn:n=(cZ xs P x).length):kK w A (cZ xs P x)∧n≤c:=by
 refine⟨?_,(nr h).1⟩;have e:fU (cZ xs P x)=fU (xs.take P)++x.cells.toList++fU (xs.drop P):=by simp[cZ,fU]
 unfold kK;rw[← hn,e];exact eX km (lg (S:=fun _=>False) h (fun _ _ h=>h))
end
theorem agq(nm:ByteArray)(dA xA:Option Addr)(dn dc:Nat)(xs:List Ix)(xc:Nat)(x:Ix)(w:World)(hx:kK w xA xs)(uX:xs.length≤xc)(hr:fI (gG (xs.map Ix.name)))(hl:xs.length≤1000000) :
 Calls prog 76 #[.agg #[.string nm,.slice dA dn dc,.slice xA xs.length xc],.agg x.cells] w fun e w'=>∃A c,e=.returned (.agg #[.string nm,.slice dA dn dc,.slice A (cZ xs (bV (xs.map Ix.name) x.name) x).length c])∧kK w' A (cZ xs (bV (xs.map Ix.name) x.name) x)∧(cZ xs (bV (xs.map Ix.name) x.name) x).length≤c∧Grow w w':=by
 have HX:=aa hx;have HR:=aa hr;have iW:=aa uX;have HL:=aa hl;have IQ:=aa (show bV (xs.map Ix.name) x.name=eV (gG (xs.map Ix.name)) x.name.data.toList from (G3 _ _).trans (G0 hr));have hpl:=PJ (xs.map Ix.name) x.name;rw[dZ] at hpl;obtain⟨P,hP⟩:∃P,bV (xs.map Ix.name) x.name=P:=⟨_,rfl⟩;rw[hP] at IQ hpl ⊢;have uW:=aa hpl;have HG:=aa (((ah w).alloc (.cells #[.string nm,.slice dA dn dc,.slice xA xs.length xc] 48)).alloc (.cells x.cells 64) |>.alloc (.cells #[.string ⟨#[]⟩,.slice none 0 0,.slice none 0 0] 48));have aG:=aa (((aD w 48 #[.string nm,.slice dA dn dc,.slice xA xs.length xc]).alloc (.cells x.cells 64)).alloc (.cells #[.string ⟨#[]⟩,.slice none 0 0,.slice none 0 0] 48))
 have aV:=aa ((cX (w:=w.alloc (.cells #[.string nm,.slice dA dn dc,.slice xA xs.length xc] 48)) (g:=w.heap.size+1) (by simp) 64 x.cells).alloc (.cells #[.string ⟨#[]⟩,.slice none 0 0,.slice none 0 0] 48));have av:=aa (cX (w:=(w.alloc (.cells #[.string nm,.slice dA dn dc,.slice xA xs.length xc] 48)).alloc (.cells x.cells 64)) (g:=w.heap.size+1+1) (by simp) 48 #[.string ⟨#[]⟩,.slice none 0 0,.slice none 0 0]);obtain⟨xn,EA⟩:∃s,x.name=s:=⟨_,rfl⟩;have Mf:=aa EA;clear hx hr uX hl hP hpl EA;go_enter func76,ntmps76;go_wp2_with fail;generalize ((w.alloc (.cells #[.string nm,.slice dA dn dc,.slice xA xs.length xc] 48)).alloc (.cells x.cells 64)).alloc (.cells #[.string ⟨#[]⟩,.slice none 0 0,.slice none 0 0] 48)=w3 at HG aG aV av ⊢;have hb2:=aG.o.cell;clear hb2
 go_loopg [5,6] (xs.length+1) (fun gk n i wr=>∃j:Nat,j≤xs.length∧gk+j=xs.length+1∧i=.int .i64 j∧n=.int .i64 (eV ((gG (xs.map Ix.name)).take j) x.name.data.toList:Nat)∧Grow w3 wr);exact⟨0,ba _,rfl,rfl,by simp[eV],ah _⟩;obtain⟨j,hj,hg,rfl,rfl,hgr⟩:=hrel;obtain⟨gk',rfl⟩:=bS gk (by omega);have hl0:=HL.o;have aH:=aa hgr;obtain⟨N,hN⟩:∃N,eV ((gG (xs.map Ix.name)).take j) x.name.data.toList=N:=⟨_,rfl⟩;rw[hN];have p_:=aa hN;have hb2:=(aG.o.grow hgr).cell;have hb3:=(aV.o.grow hgr).cell;clear hN;by_cases hlt:j<xs.length
 ·obtain⟨bk,o,rfl,hbk,h0,-,-⟩:=kK.sx (kK.grow HX.o (HG.o.trans hgr)) j hlt;have uR:=aa (Q5 HR.o x.name.data.toList (j:=j) (by rw[dZ,dZ];exact hlt));obtain⟨q,hq⟩:∃q,xs[j].name=q:=⟨_,rfl⟩;rw[hq] at h0;have HQ:=aa hq;have Ic:(j:Int)<(xs.length:Int):=by omega
  have G9:(0:Int)≤(j:Int):=by omega
  dsimp only[Ix.cells] at hb3;rw[Mf.o] at hb3;clear hq hgr;by_cases hls:cQ q.toList xn.toList=true
  ·have hl2:Op.bytesLess q.toList xn.toList=true:=by rw[x_];exact hls
   have fV:=aa hls;clear hls;go_wp2_with fail;go_quiet (fail);go_wp2_with fail;go_roundg gk';refine⟨j+1,by omega,by omega,by go_num,?_,aH.o.trans ((ah _).drewN _)⟩;rw[uR.o];simp only[iZ,HQ.o,Mf.o];rw[aw (by have:=fV.o;rwa [toList_data,toList_data] at this)];go_num;omega
  have hl2:Op.bytesLess q.toList xn.toList=false:=by rw[x_];simpa using hls
  have fV:=aa hls;clear hls;go_wp2_with fail;go_quiet (fail);go_wp2_with fail;go_roundg gk';refine⟨j+1,by omega,by omega,by go_num,?_,aH.o.trans ((ah _).drewN _)⟩;rw[uR.o];simp only[iZ,HQ.o,Mf.o];rw[ai (by have:=fV.o;rwa [toList_data,toList_data] at this),← Mf.o,p_.o];omega
 have hjl:j=xs.length:=by omega
 subst hjl;have hN:N=P:=by
  rw[IQ.o,← p_.o,jD (by rw[dZ,dZ];exact ay _)]
 subst hN;have bN:=aa (HG.o.trans aH.o);replace aG:=aa (aG.o.grow aH.o);replace aV:=aa (aV.o.grow aH.o);replace av:=aa (av.o.grow aH.o);have h_:=aa (show Reads (bK wr 0 wr.heap.size) 3 xA xs.length (fU xs) from kK.grow HX.o bN.o);have hi0:(0:Int)≤(N:Int):=by omega
 have hpl:=uW.o;have hi1:(N:Int)≤(xs.length:Int):=by omega
 have hi2:(N:Int)≤(xc:Int):=by have:=iW.o;omega
 clear hb3 hgr hpl;have hsh:=Zl (A:=xA) (i:=N) uW.o iW.o;go_upto_region 9 with (at_builtin;refine BM (w0:=wr) (.tmp 26) (.tmp 30) 46 64 3 40 _ zP IP rfl rfl rfl (Zk h_.o N xc uW.o) (by omega) (by simp only[maxLen];omega) (ah _) ?_;intro A6 c6 w6 kR cH);clear hsh;have sW:=aa kR;have bp:=aa cH;have hb3:=(aV.o.grow cH).cell;clear hb2 kR cH;go_upto_region 10 with (at_builtin;refine sS (w0:=wr) (.tmp 32) (.tmp 34) 46 64 3 40 _ zP IP rfl rfl (sW.o.alloc _) rfl (ago x (aD w6 64 x.cells)) (by omega) (by simp only[maxLen];omega) (bp.o.alloc _) ?_;intro A7 c7 w7 fM b_);have pj:=aa fM;have aX:=aa b_;have agk:=((ah w6).alloc (.cells x.cells 64)).size;have hb2:=(aG.o.grow b_).cell
 have iy:=aa (eX (fk b_.below (ay _) (ay _) b_.size) h_.o);have hpl:=uW.o;have hcap:=iW.o;clear hb3 fM b_;obtain⟨AZ,hsl,hsrc⟩:=Zm (A:=xA) (i:=N) uW.o iW.o;have jk:=aa hsrc;clear hsrc;go_upto_region 11 with (at_builtin;refine sS (w0:=wr) (.tmp 36) (.tmp 40) 46 64 3 40 _ zP IP rfl rfl pj.o rfl (jk.o _ _ _ iy.o) (by omega) (by simp only[maxLen];omega) aX.o ?_;intro A8 c8 w8 cN cY;have iK:=(aG.o.grow cY).cell;have yi:=(aG.o.grow cY).frozen);clear hsl;have gh:=(dU (S:=fun x=>x=w.heap.size) w8).set (p:=⟨w.heap.size,2,none⟩) rfl (.slice A8 (N+1+(xs.length-N)) c8);have lq:=aa ((aG.o.grow cY).bf 2 (.slice A8 (N+1+(xs.length-N)) c8));have jU:=aa (gh.blk (av.o.grow cY) (by omega))
 have hbase:w.heap.size<wr.heap.size:=aG.o.lt;have kT:=gF cN gh (fun g hg e=>by
  have:=(bO cN g (by rw[bH];exact hg)).1;omega)
 have gK:=aa kT;have dH:=aa ((bN.o.trans cY).setCell (p:=⟨w.heap.size,2,none⟩) (ay _) (.slice A8 (N+1+(xs.length-N)) c8));clear gh cN kT cY iK yi hb2
 try simp only[gf] at lq jU gK dH
 generalize w8.setCell ⟨w.heap.size,2,none⟩ _=w9 at lq jU gK dH ⊢;have hbc:=lq.o.cell;have hb4:=jU.o.cell;have iz:=jU.o.frozen;go_wp2_with fail;refine iE (LY (cs:=#[.string nm,.slice dA dn dc,.slice A8 (N+1+(xs.length-N)) c8]) rfl rfl rfl ?_) rfl ?_
 ·exact((jU.o.bf 0 _).bf 1 _).bf 2 _
 have HK:=(((dU (S:=fun x=>x=w.heap.size+1+1) w9).set (p:=⟨w.heap.size+1+1,0,none⟩) rfl (.string nm)).set (p:=⟨w.heap.size+1+1,1,none⟩) rfl (.slice dA dn dc)).set (p:=⟨w.heap.size+1+1,2,none⟩) rfl (.slice A8 (N+1+(xs.length-N)) c8);have Ib:w.heap.size+1+1<wr.heap.size:=av.o.lt;have hown:=gF gK.o HK (fun g hg e=>by
  have:=(bO gK.o g (by rw[bH];exact hg)).1;omega)
 have cm:=dH.o.below.trans (HK.below (B:=w.heap.size) dH.o.size (fun q hq=>by omega));have hlen:N+1+(xs.length-N)=(cZ xs N x).length:=by
  rw[cZ,bG,aT,dS,iM];omega
 obtain⟨k1,k2⟩:=agp hown hlen;rw[hlen] at k2;exact⟨A8,c8,by rw[← hlen],k1,k2,cm⟩
end
section
open Go.RowKit
structure Sb where
 A:Option Addr
 c:Nat
 b:List UInt8
abbrev Sb.cells(e:Sb):Array Value:=#[.slice e.A e.b.length e.c]
def kx(es:List Sb):List Value:=(es.map fun e=>e.cells.toList).flatten
theorem Zn(es:List Sb):∀v∈kx es,v.oneCell'=true:=by
 intro v hv;simp only[kx,FL,j3] at hv;obtain⟨_,⟨e,_,rfl⟩,h⟩:=hv;simp at h;rcases h with rfl;rfl
theorem Rz:(prog.info? 23).map (fun i=>(i.zero,i.size,i.bytes))=some (some (.slice none 0 0),1,24):=by kernel_rfl
theorem EF:prog.underlying 72=some (.slice 23):=by kernel_rfl
section
variable {w:World} {ad:Addr} {A:Option Addr} {n:Nat} {xs:List Sb}
theorem agr(h:Reads (bK w 0 w.heap.size) 1 A n (kx xs))(i c:Nat)(hi:i≤n):Src prog 1 72 (.slice A i c) i (kx (xs.take i)) w:=by
 have hh:=fe (c:=c) EF (h.Ii i hi) (fun u hu=>Zn xs u (yP hu));rwa [show (kx xs).take (i*1)=kx (xs.take i) from zq (fun e:Sb=>e.cells.toList) 1 (fun _=>rfl) xs i] at hh
theorem ags{cap i:Nat}(h1:i≤n)(h2:n≤cap)(w:World):(Instr.sliceAt 72 (.slice A n cap) none (some (.int .i64 (i:Int))) none).run prog w=.ok (.slice A i cap) w:=by
 have k1:(0:Int)≤(i:Int):=by omega
 have k2:(i:Int)≤(n:Int):=by omega
 have k3:(i:Int)≤(cap:Int):=by omega
 rcases A with _ | a<;>go_simp
theorem agt{cap i:Nat}(h1:i≤n)(h2:n≤cap):∃B,(∀w,(Instr.sliceAt 72 (.slice A n cap) (some (.int .i64 (i:Int))) none none).run prog w=.ok (.slice B (n-i) (cap-i)) w) ∧
 ∀(w:World) (c:Nat) (xs:List Sb),Reads (bK w 0 w.heap.size) 1 A n (kx xs)→Src prog 1 72 (.slice B (n-i) c) (n-i) (kx (xs.drop i)) w:=by
 have k1:(0:Int)≤(i:Int):=by omega
 have k2:(i:Int)≤(n:Int):=by omega
 have k3:(i:Int)≤(cap:Int):=by omega
 refine⟨if cap=i then A else A.map (·.add (i*1)),fun w=>by rcases A with _ | a<;>go_simp,fun w c xs h=>?_⟩;have hh:=fe (c:=c) EF (h.Ij i cap h1 h2) (fun u hu=>Zn xs u (rQ hu));rwa [show (kx xs).drop (i*1)=kx (xs.drop i) from ur (fun e:Sb=>e.cells.toList) 1 (fun _=>rfl) xs i] at hh
theorem agu{g:Nat}(e:Sb)(hb:Blk w g 23 e.cells):Src prog 1 72 (.slice (some ⟨g,0,none⟩) 1 1) 1 e.cells.toList w:=
 Src.ofSlice _ EF ⟨g,0,none⟩ 1 1 _ rfl (fun j u hu=>by
  rw[add_lit,dY,hb.cell j,← hu,pH]) (fun u hu=>by
  simp only[je,wZ,w_] at hu;rcases hu with rfl;rfl)
end
def RA(keys:List (List UInt8)):Prop:=keys.Pairwise fun a b=>cQ b a=false
theorem Zo{a b k:List UInt8}(h:cQ b a=false)(hb:cQ b k=true):cQ a k=true:=by
 rcases vL (cQ a k) with h1 | h1
 ·exact h1
 rcases vL (cQ k a) with h2 | h2
 ·rw[xE _ _ _ hb h2] at h;cases h
 obtain rfl:=GZ _ _ h1 h2;rw[hb] at h;cases h
theorem agv{keys:List (List UInt8)}(h:RA keys)(k:List UInt8){j:Nat}(hj:j<keys.length):eV (keys.take (j+1)) k=if cQ keys[j] k=true then j+1 else eV (keys.take j) k:=by
 have e:keys.take (j+1)=keys.take j++[keys[j]]:=by rw[FC,cJ hj];rfl
 split
 ·rename_i hl;unfold eV;have hall:∀x∈keys.take (j+1),cQ x k=true:=fun x hx=>by
   obtain⟨i,hi,rfl⟩:=lH hx;rw[dS] at hi;rw[AA];rcases fh i j with hij | hij
   ·exact Zo (FM.1 h i j (by omega) hj hij) hl
   have:i=j:=by omega
   subst this;exact hl
  rw[List.countP_eq_length.2 hall,dS];omega
 rename_i hl;unfold eV;rw[e,List.countP_append];simp[hl]
theorem Zp(x:EN):∀{l:List EN},zz l→(uo x l).map Prod.fst=cZ (l.map Prod.fst) (eV (l.map Prod.fst) x.1) x.1
 | [],_=>rfl
 | y::r,h=>by
  obtain⟨h1,h2⟩:=mW.1 h;rw[uo];split
  ·rename_i hl;rw[fH,Zp x h2,fH,show eV (y.1::r.map Prod.fst) x.1=eV (r.map Prod.fst) x.1+1 from by unfold eV;rw[List.countP_cons_of_pos (by simpa using hl)]];rfl
  rename_i hl;have h0:eV ((y::r).map Prod.fst) x.1=0:=by
   unfold eV;rw[List.countP_eq_zero];intro z hz;rw[fH] at hz;rcases je.1 hz with rfl | hz
   ·exact hl
   obtain⟨e,he,rfl⟩:=j3.1 hz;exact fun k=>hl (Zo (h1 e he) k)
  rw[h0];rfl
theorem agw{l:List EN}(h:zz l):RA (l.map Prod.fst):=List.pairwise_map.2 h
theorem Sb.at_{w:World}{A:Option Addr}{es:List Sb}(h:Reads (bK w 0 w.heap.size) 1 A es.length (kx es)){k:Nat}(hk:k<es.length):∃bk o,A=some ⟨bk,o,none⟩∧bk<w.heap.size∧w.cell? ⟨bk,o+k,none⟩=some (.slice es[k].A es[k].b.length es[k].c):=by
 obtain⟨bk,o,hA,hc⟩:=h.2 (by omega);have:=hc (k*1+0) _ (qL (fun e:Sb=>e.cells.toList) 1 (fun _=>rfl) es k 0 (by omega) es[k] (cJ hk));rw[rM,gf] at this;exact⟨bk,o,hA,this.2.2,this.1⟩
theorem agx{w:World}{base n c P:Nat}{A:Option Addr}{xs:List Sb}{x:Sb}(h:w.ownsRow base 23 1 (.slice A n c) n (kx (xs.take P)++x.cells.toList++kx (xs.drop P)))(hn:n=(cZ xs P x).length):w.ownsRow base 23 1 (.slice A (cZ xs P x).length c) (cZ xs P x).length (kx (cZ xs P x)):=by
 have e:kx (cZ xs P x)=kx (xs.take P)++x.cells.toList++kx (xs.drop P):=by simp[cZ,kx]
 rw[← hn,e];exact h
theorem agy(l:List EN)(x:EN):zm (l++[x])=uo x (zm l):=by unfold zm;rw[List.foldl_append];rfl
def agz(w:World)(path:ByteArray)(ag:List V)(e:Ending)(w':World):Prop:=
 Grow w w'∧((jd path ag≠0∧e=.returned (.tuple #[.slice none 0 0,.int .i64 (jd path ag)])) ∨
  (jd path ag=0∧∃A c es,e=.returned (.tuple #[.slice A es.length c,.int .i64 0])∧Reads (bK w' 0 w'.heap.size) 1 A es.length (kx es)∧(∀e∈es,bA w' e.A e.b)∧es.map Sb.b=(pS path ag).map Prod.fst))
theorem agA(nm:ByteArray)(ag:List V)(dA xA:Option Addr)(dc xn xc:Nat)(x:Ix)(w:World)(hd:InL w dA dc ag)(hx:x.path.size<4294967281)(hok:∀d∈ag,fC d)(hl:ag.length≤1000000) :
 Calls prog 31 #[.agg #[.string nm,.slice dA ag.length dc,.slice xA xn xc],.agg x.cells] w (agz w x.path ag):=by
 have HD:=aa hd;have cP:=aa hok;have HL:=aa hl;have HG:=aa (((ah w).alloc (.cells #[.string nm,.slice dA ag.length dc,.slice xA xn xc] 48)).alloc (.cells x.cells 64));have aV:=aa ((aD w 48 #[.string nm,.slice dA ag.length dc,.slice xA xn xc]).alloc (.cells x.cells 64));have av:=aa (cX (w:=w.alloc (.cells #[.string nm,.slice dA ag.length dc,.slice xA xn xc] 48)) (g:=w.heap.size+1) (by simp) 64 x.cells);have wM:=aa (fun(d:V) (c:Cv) (W:World) (hd:fC d) (hi:In W d c)=>QY x d c W hx hd.count hd.fit hd.bytes hi);obtain⟨RB,xp,xu⟩:=x;dsimp only[Ix.cells] at HG aV av wM ⊢;clear hd hok hl hx;go_enter func31,ntmps31;go_wp2_with fail
 generalize (w.alloc (.cells #[.string nm,.slice dA ag.length dc,.slice xA xn xc] 48)).alloc (.cells #[.string RB,.string xp,.bool xu] 64)=w3 at HG aV av ⊢;go_loopg [6,7] (ag.length+1) (fun gk sl i wr=>∃(j B:Nat) (Ao:Option Addr) (co:Nat) (es:List Sb),j≤ag.length∧gk+j=ag.length+1∧i=.int .i64 j∧sl=.slice Ao es.length co∧wr.ownsRow B 23 1 (.slice Ao es.length co) es.length (kx es)∧(∀e∈es,bA wr e.A e.b)∧es.map Sb.b=(zm (np xp (ag.take j))).map Prod.fst∧(∀i (hi:i<ag.length),i<j→(eu xp ag[i]).2.2=0)∧Grow w3 wr);exact⟨0,0,none,0,[],ba _,rfl,rfl,rfl,iY _ _ _ _,fun e he=>by simp at he,rfl,fun _ _ h=>absurd h (by omega),ah _⟩;obtain⟨j,B,Ao,co,es,hj,hg,rfl,rfl,hown,hes,RD,hne,hgr⟩:=hrel;obtain⟨gk',rfl⟩:=bS gk (by omega)
 have hl0:=HL.o;have HN:=aa hne;have aH:=aa hgr;have HOWN:=aa hown;have qP:=aa hes;have BQ:=aa RD;have aY:=aa (HG.o.trans hgr);replace aV:=aa (aV.o.grow hgr);replace av:=aa (av.o.grow hgr);have hel:es.length≤j:=by
  have:=cT List.length RD;rw[dZ,dZ,(DR _).length_eq] at this;have h2:=ad8 (path:=xp) ag j;omega
 have oN:=aa hel;have hb3:=aV.o.cell;clear hne hown hes RD hel;by_cases hlt:j<ag.length
 ·obtain⟨bk,o,y,ha,hbk,e0,e1,e2,e3,e4,hy⟩:=(HD.o.grow aY.o).fO j hlt;dsimp only[kH] at ha;subst ha;have kq:=cP.o ag[j] (aW hlt);have HE:=aa (fun(W:World) (hg:Grow wr W)=>wM.o ag[j] y W kq (hy.grow hg));have EG:=aa (adj (path:=xp) hlt);have uV:=aa (fun h=>V7 (path:=xp) hlt HN.o h);have IU:=aa (show um xp ag[j]=if (eu xp ag[j]).2.1 then some ((eu xp ag[j]).1,((eu xp ag[j]).1.length:Int)-((cI ((gI ag[j]).getD V.zero)).1.length:Int),ag[j]) else none from rfl);have r_:=aa (show (eu xp ag[j]).2.2=0→∀i (hi:i<ag.length),i<j+1→(eu xp ag[i]).2.2=0 from fun h i hi hij=>by
   by_cases ir:i=j
   ·subst ir;exact h
   exact HN.o i hi (by omega))
  obtain⟨⟨b1,ok,er⟩,hp⟩:∃p,eu xp ag[j]=p:=⟨_,rfl⟩;rw[hp] at HE uV IU r_;dsimp only at uV IU r_;clear kq hy hgr hp;go_upto_region 5 with fail;have uT:=aa (fun(W:World) (hg:Grow wr W)=>show (∀i,W.cell? ⟨w.heap.size+1,i,none⟩=(#[.string RB,.string xp,.bool xu]:Array Value)[i]?)∧W.cell? ⟨w.heap.size,1,none⟩=some (.slice (some ⟨bk,o,none⟩) ag.length dc)∧W.cell? ⟨bk,o+j*5,none⟩=some (.int .i64 y.k)∧W.cell? ⟨bk,o+j*5+1,none⟩=some (.int .u64 y.n)∧W.cell? ⟨bk,o+j*5+2,none⟩=some (.slice y.aB y.nB y.cB)∧W.cell? ⟨bk,o+j*5+3,none⟩=some (.slice y.aL y.nL y.cL)∧W.cell? ⟨bk,o+j*5+4,none⟩=some (.slice y.aF y.nF y.cF) from
   ⟨(av.o.grow hg).cell,(aV.o.grow hg).cell 1,(hg.below.cell (p:=⟨bk,o+j*5,none⟩) hbk).trans e0,(hg.below.cell (p:=⟨bk,o+j*5+1,none⟩) hbk).trans e1,(hg.below.cell (p:=⟨bk,o+j*5+2,none⟩) hbk).trans e2,(hg.below.cell (p:=⟨bk,o+j*5+3,none⟩) hbk).trans e3,(hg.below.cell (p:=⟨bk,o+j*5+4,none⟩) hbk).trans e4⟩)
  clear e0 e1 e2 e3 e4 hb3;refine dN ?_;refine dO (S:=fun w'=>(∀i,w'.cell? ⟨w.heap.size+1,i,none⟩=(#[.string RB,.string xp,.bool xu]:Array Value)[i]?)∧w'.cell? ⟨w.heap.size,1,none⟩=some (.slice (some ⟨bk,o,none⟩) ag.length dc)∧w'.cell? ⟨bk,o+j*5,none⟩=some (.int .i64 y.k)∧w'.cell? ⟨bk,o+j*5+1,none⟩=some (.int .u64 y.n)∧w'.cell? ⟨bk,o+j*5+2,none⟩=some (.slice y.aB y.nB y.cB)∧w'.cell? ⟨bk,o+j*5+3,none⟩=some (.slice y.aL y.nL y.cL)∧w'.cell? ⟨bk,o+j*5+4,none⟩=some (.slice y.aF y.nF y.cF)) (by kernel_rfl) (uT.o _ (ah _).drew) (fun hHeld=>?_);have jc:=aa (show Grow wr wr.drew from (ah _).drew);generalize wr.drew=W0 at jc hHeld ⊢;refine aj 0 (hy:=bt fun w ax=>by obtain⟨b4,-,-,-,-,-,-⟩:=ax;go_simp;try rfl) ?_;refine aJ 1 ?_
  try simp only[ak]
  refine aj 2 (hy:=bt fun w ax=>by obtain⟨-,gg,-,-,-,-,-⟩:=ax;go_simp;try rfl) ?_;refine aJ 3 ?_
  try simp only[ak]
  refine aJ 4 ?_
  try simp only[ak]
  refine aj 5 (hy:=bt fun w ax=>by obtain⟨-,-,k0,k1,k2,k3,k4⟩:=ax;go_simp;try rfl) ?_;refine aK 6 (fun K hK=>?_);have hC:=HE.o W0 jc.o;go_simp;go_at_call 29;refine hC.mono ?_;rintro ee W1 ⟨YV,A1,c1,rfl,hb1,hr1,hg1⟩;refine aU hK (uT.o _ (jc.o.trans hg1)) (fun hHeld=>?_);clear hK K;refine aJ 7 ?_
  try simp only[ak]
  refine aJ 8 ?_
  try simp only[ak]
  refine aJ 9 ?_
  try simp only[ak]
  refine aJ 10 ?_
  try simp only[ak]
  refine aJ 11 ?_
  try simp only[ak]
  refine aJ 12 ?_
  try simp only[ak]
  refine aJ 13 ?_
  try simp only[ak]
  refine cz ?_;clear hHeld hC;dsimp only at hr1;have aQ:=aa (show bA W1 A1 b1 from eX (fun p u hp=>⟨hp.1,ba _,hp.2.2⟩) hr1.reads.1);have eZ:=aa (jc.o.trans hg1);clear hr1 hg1 hb1;by_cases qZ:er=0
  ·subst qZ
   cases ok with
   | false =>
    go_wp2_with fail;go_roundg gk';refine⟨j+1,B,Ao,co,es,by omega,by omega,by go_num,rfl,ki HOWN.o eZ.o,fun e he=>(qP.o e he).grow eZ.o,?_,r_.o trivial,aH.o.trans eZ.o⟩;rw[EG.o,IU.o,ai (by decide),Option.toList_none,ml];exact BQ.o;omega
   | true =>
    rw[aw rfl] at IU;have Zq:=aa (ki HOWN.o eZ.o);have Zr:=aa (show ∀e∈es,bA W1 e.A e.b from fun e he=>(qP.o e he).grow eZ.o);have qR:=aa (show Reads (bK W1 0 W1.heap.size) 1 Ao es.length (kx es) from eX km (lg (S:=fun _=>False) Zq.o (fun _ _ h=>h)));have Cg:=aa (show RA (es.map Sb.b) from BQ.o ▸ agw (PN _));replace aV:=aa (aV.o.grow eZ.o);replace av:=aa (av.o.grow eZ.o);have aP:=aa (aH.o.trans eZ.o);clear HOWN qP aH aY eZ jc HE uV uT;go_upto_region 11 with fail;go_loopg [11,12] (es.length+1) (fun gk n i wk=>∃k:Nat,k≤es.length∧gk+k=es.length+1∧i=.int .i64 k∧n=.int .i64 (eV ((es.map Sb.b).take k) b1:Nat)∧Grow W1 wk);exact⟨0,ba _,rfl,rfl,by simp[eV],ah _⟩
    obtain⟨k,hk,kW,rfl,rfl,jb⟩:=hrel;obtain⟨sJ,rfl⟩:∃g,gk=g+1:=⟨gk-1,by omega⟩;have hel:=oN.o;obtain⟨M,hM⟩:∃M,eV ((es.map Sb.b).take k) b1=M:=⟨_,rfl⟩;rw[hM];have IV:=aa hM;have Zt:=aa jb;clear hM;by_cases hkl:k<es.length
    ·obtain⟨bo,oo,rfl,qM,o0⟩:=Sb.at_ (eX (fk jb.below (ay _) (ay _) jb.size) qR.o) hkl;have Mg:=aa ((Zr.o _ (aW hkl)).grow jb);have wP:=aa (aQ.o.grow jb);have uR:=aa (agv Cg.o b1 (j:=k) (by rw[dZ];exact hkl));have Mh:=aa (show (es.map Sb.b)[k]'(by rw[dZ];exact hkl)=es[k].b from by rw[iZ]);obtain⟨e1,Zu⟩:∃e,es[k]=e:=⟨_,rfl⟩;rw[Zu] at o0 Mg Mh;obtain⟨eA,ec,eb⟩:=e1;dsimp only at o0 Mg Mh;clear jb Zu;by_cases hls:cQ eb b1=true
     ·have hl2:Op.bytesLess eb b1=true:=by rw[x_];exact hls
      have fV:=aa hls;clear hls;go_upto_region 13 with fail;have gq:=aa (fun(W:World) (hg:Grow wr W)=>show W.cell? ⟨bo,oo+k,none⟩=some (.slice eA eb.length ec)∧bA W eA eb∧bA W A1 b1 from
       ⟨(hg.below.cell (p:=⟨bo,oo+k,none⟩) qM).trans o0,Mg.o.grow hg,wP.o.grow hg⟩)
      refine dN ?_;refine dO (S:=fun w'=>w'.cell? ⟨bo,oo+k,none⟩=some (.slice eA eb.length ec)∧bA w' eA eb∧bA w' A1 b1) (by kernel_rfl) (gq.o _ (ah _).drew) (fun hHeld=>?_);have fJ:=aa (show Grow wr wr.drew from (ah _).drew);generalize wr.drew=W0 at fJ hHeld ⊢;refine aJ 0 ?_
      try simp only[ak]
      refine aJ 1 ?_
      try simp only[ak]
      refine aJ 2 ?_
      try simp only[ak]
      refine aj 3 (hy:=bt fun w ax=>by obtain⟨gg,-,-⟩:=ax;go_simp;try rfl) ?_;refine aj 4 (hy:=bt fun w ax=>by obtain⟨-,gg,-⟩:=ax;have hcs:=qB ec gg;go_simp;try rfl) ?_;refine aJ 5 ?_
      try simp only[ak]
      refine aj 6 (hy:=bt fun w ax=>by obtain⟨-,-,gg⟩:=ax;have hcs:=qB c1 gg;go_simp;try rfl) ?_;refine aJ 7 ?_
      try simp only[ak]
      refine cz ?_;clear hHeld;go_wp2_with fail;go_roundg sJ;refine⟨k+1,by omega,by omega,by go_num,?_,Zt.o.trans fJ.o⟩;rw[uR.o,Mh.o,aw fV.o];go_num;omega
     have hl2:Op.bytesLess eb b1=false:=by rw[x_];simpa using hls
     have fV:=aa hls;clear hls;go_upto_region 13 with fail;have gq:=aa (fun(W:World) (hg:Grow wr W)=>show W.cell? ⟨bo,oo+k,none⟩=some (.slice eA eb.length ec)∧bA W eA eb∧bA W A1 b1 from
      ⟨(hg.below.cell (p:=⟨bo,oo+k,none⟩) qM).trans o0,Mg.o.grow hg,wP.o.grow hg⟩)
     refine dN ?_;refine dO (S:=fun w'=>w'.cell? ⟨bo,oo+k,none⟩=some (.slice eA eb.length ec)∧bA w' eA eb∧bA w' A1 b1) (by kernel_rfl) (gq.o _ (ah _).drew) (fun hHeld=>?_);have fJ:=aa (show Grow wr wr.drew from (ah _).drew);generalize wr.drew=W0 at fJ hHeld ⊢;refine aJ 0 ?_
     try simp only[ak]
     refine aJ 1 ?_
     try simp only[ak]
     refine aJ 2 ?_
     try simp only[ak]
     refine aj 3 (hy:=bt fun w ax=>by obtain⟨gg,-,-⟩:=ax;go_simp;try rfl) ?_;refine aj 4 (hy:=bt fun w ax=>by obtain⟨-,gg,-⟩:=ax;have hcs:=qB ec gg;go_simp;try rfl) ?_;refine aJ 5 ?_
     try simp only[ak]
     refine aj 6 (hy:=bt fun w ax=>by obtain⟨-,-,gg⟩:=ax;have hcs:=qB c1 gg;go_simp;try rfl) ?_;refine aJ 7 ?_
     try simp only[ak]
     refine cz ?_;clear hHeld;go_wp2_with fail;go_roundg sJ;refine⟨k+1,by omega,by omega,by go_num,?_,Zt.o.trans fJ.o⟩;rw[uR.o,Mh.o,ai fV.o,IV.o];omega
    have GI:k=es.length:=by omega
    subst GI;have RG:M=eV (es.map Sb.b) b1:=by rw[← IV.o,jD (by rw[dZ];exact ay _)]
    have Zv:M≤es.length:=by have:=PE (es.map Sb.b) b1;rw[dZ] at this;omega
    have Mi:=aa RG;have Mj:=aa Zv;have h_:=aa (show Reads (bK wr 0 wr.heap.size) 1 Ao es.length (kx es) from eX (fk jb.below (ay _) (ay _) jb.size) qR.o);have agB:=aa (show ∀e∈es,bA wr e.A e.b from fun e he=>(Zr.o e he).grow jb);have xO:=aa (aQ.o.grow jb);have iW:=aa (nr Zq.o).1;have agC:=aa (show (cZ es M ⟨A1,c1,b1⟩).map Sb.b=(zm (np xp (ag.take (j+1)))).map Prod.fst from by
     rw[EG.o,IU.o,Option.toList_some,agy,Zp _ (PN _),← BQ.o,← RG];simp[cZ])
    have aH:=aa (aP.o.trans jb);have hi0:(0:Int)≤(M:Int):=by omega
    have hi1:(M:Int)≤(es.length:Int):=by omega
    have hcap:=iW.o;have hi2:(M:Int)≤(co:Int):=by omega
    clear RG jb hcap;have hsh:=ags (A:=Ao) (i:=M) Mj.o iW.o;go_upto_region 17 with (at_builtin;refine BM (w0:=wr) (.tmp 53) (.tmp 56) 72 23 1 24 _ EF Rz rfl rfl rfl (agr h_.o M co Mj.o) (by omega) (by simp only[maxLen];omega) (ah _) ?_;intro A6 c6 w6 kR cH);have sW:=aa kR;have bp:=aa cH;clear kR cH hsh;go_upto_region 18 with (at_builtin;refine sS (w0:=wr) (.tmp 58) (.tmp 60) 72 23 1 24 _ EF Rz rfl rfl (sW.o.alloc _) rfl (agu ⟨A1,c1,b1⟩ (aD w6 23 (Sb.cells ⟨A1,c1,b1⟩))) (by omega) (by simp only[maxLen];omega) (bp.o.alloc _) ?_;intro A7 c7 w7 fM b_);have pj:=aa fM;have aX:=aa b_;have iy:=aa (eX (fk b_.below (ay _) (ay _) b_.size) h_.o);have Zv:=Mj.o;clear fM b_
    obtain⟨AZ,hsl,hsrc⟩:=agt (A:=Ao) (i:=M) Mj.o iW.o;have jk:=aa hsrc;clear hsrc;go_upto_region 4 with (at_builtin;refine sS (w0:=wr) (.tmp 62) (.tmp 65) 72 23 1 24 _ EF Rz rfl rfl pj.o rfl (jk.o _ _ _ iy.o) (by omega) (by simp only[maxLen];omega) aX.o ?_;intro A8 c8 w8 cN cY);clear hsl;have hlen:M+1+(es.length-M)=(cZ es M (⟨A1,c1,b1⟩:Sb)).length:=by
     rw[uw];omega
    have yh:=aa (agx cN hlen);have cD:=aa cY;have HLEN:=aa hlen;clear cN cY hlen;go_wp2_with fail;go_roundg gk';refine⟨j+1,wr.heap.size,A8,c8,cZ es M ⟨A1,c1,b1⟩,by omega,by omega,by go_num,by rw[← HLEN.o],yh.o,fun e he=>?_,agC.o,r_.o trivial,aH.o.trans cD.o⟩;rw[zy] at he;rcases he with rfl | he
    ·exact xO.o.grow cD.o
    exact(agB.o e he).grow cD.o;omega
  go_wp2_with fail;go_ret2;refine⟨aY.o.trans eZ.o,.inl ⟨by rw[uV.o qZ];exact qZ,by rw[uV.o qZ];rfl⟩⟩
 have hjl:j=ag.length:=by omega
 subst hjl;have h0:jd xp ag=0:=V6 fun i hi=>HN.o i hi hi
 have uz:=aa h0;clear h0 hgr;go_wp2_with fail;go_ret2;refine⟨aY.o,.inr ⟨uz.o,Ao,co,es,rfl,eX km (lg (S:=fun _=>False) HOWN.o (fun _ _ h=>h)),qP.o,?_⟩⟩;have:=BQ.o;rw[fS] at this;rw[this];unfold pS;rw[aw uz.o]
end
section
open Go.RowKit
def ig(w:World)(g:Nat):Prop:=∀i u,w.cell? ⟨g,i,none⟩=some u→(∃a l c,u=.slice a l c)∨∃n,u=.int .i64 n
section
variable {S:Nat→Prop} {w w':World} (hk:Kept S w w') (hp:∀g,S g→ig w g)
include hk in
theorem ig.keep{p:Addr}{u:Value}(hs:¬ S p.block)(h:bK w 0 w.heap.size p u):bK w' 0 w'.heap.size p u:=
 ⟨(vG (hk.block p.block h.2.2 hs)).trans h.1,ba _,df h.2.2 hk.size⟩
include hp in
theorem ig.not{bk o:Nat}{u:Value}(h:bK w 0 w.heap.size ⟨bk,o,none⟩ u)(h1:∀a l c,u≠.slice a l c)(h2:∀n,u≠.int .i64 n):¬ S bk:=fun hs=>by
 rcases hp bk hs o u h.1 with ⟨a,l,c,e⟩ | ⟨n,e⟩
 ·exact h1 _ _ _ e
 exact h2 _ e
include hk hp in
theorem ig.reads{z n i:Nat}{A:Option Addr}{xs:List Value}(h:Reads (bK w 0 w.heap.size) z A n xs)(hx:0<n→∃u,xs[i]?=some u∧(∀a l c,u≠.slice a l c)∧∀n,u≠.int .i64 n):Reads (bK w' 0 w'.heap.size) z A n xs:=by
 refine⟨h.1,fun hn=>?_⟩;obtain⟨bk,o,e,hc⟩:=h.2 hn;obtain⟨u,hu,h1,h2⟩:=hx hn;have hs:=ig.not hp (hc i u hu) h1 h2;exact⟨bk,o,e,fun j v hv=>ig.keep hk hs (hc j v hv)⟩
include hk hp in
theorem bA.IW{A:Option Addr}{b:List UInt8}(h:bA w A b):bA w' A b:=ig.reads hk hp (i:=0) h (fun hn=>by
 rcases b with _ | ⟨x,r⟩
 ·simp at hn
 exact⟨.int .u8 x.toNat,rfl,fun _ _ _ e=>(by cases e),fun _ e=>(by cases e)⟩)
include hk hp in
theorem IsV.IW(v:V):∀c,IsV (bK w 0 w.heap.size) v c→IsV (bK w' 0 w'.heap.size) v c:=by
 induction v using V.ind with
 | h k n b l f hl hf =>
  intro c hv;rw[IsV] at hv ⊢;obtain⟨e1,e2,e3,e4,e5,h1,h2,h3,h4,h5,h6,h7,h8,h9,hb,hL,hF⟩:=hv;refine⟨e1,e2,e3,e4,e5,h1,h2,h3,h4,h5,h6,h7,h8,h9,ig.reads hk hp (i:=0) hb (fun hn=>?_),fun i hi=>?_,fun i hi=>?_⟩
  ·rcases b with _ | ⟨x,r⟩
   ·simp at hn
   exact⟨.int .u8 x.toNat,rfl,fun _ _ _ e=>(by cases e),fun _ e=>(by cases e)⟩
  ·obtain⟨bk,o,x,e,⟨a1,a2,a3,a4,a5⟩,kv⟩:=hL i hi;have hs:=ig.not hp a2 (fun _ _ _ e=>by cases e) (fun _ e=>by cases e);exact⟨bk,o,x,e,⟨ig.keep hk hs a1,ig.keep hk hs a2,ig.keep hk hs a3,ig.keep hk hs a4,ig.keep hk hs a5⟩,hl _ (aW _) _ kv⟩
  obtain⟨bk,o,x,e,ks,kz,⟨a1,a2,a3,a4,a5⟩,kv⟩:=hF i hi;have hs:=ig.not hp a2 (fun _ _ _ e=>by cases e) (fun _ e=>by cases e);exact⟨bk,o,x,e,ig.keep hk hs ks,kz,⟨ig.keep hk hs a1,ig.keep hk hs a2,ig.keep hk hs a3,ig.keep hk hs a4,ig.keep hk hs a5⟩,hf _ (aW _) _ kv⟩
include hk hp in
theorem dW.IW{A:Option Addr}{cap:Nat}{st:List Co}(h:dW w A cap st):dW w' A cap st:=by
 obtain⟨hc,es,h1,h2⟩:=h;refine⟨hc,es,h1.mono fun e c k=>⟨k.nm,k.dn,k.xn,k.xc,IsV.IW hk hp _ _ k.ag,ig.reads hk hp (i:=0) k.aq (fun hn=>?_)⟩,ig.reads hk hp (i:=0) h2 (fun hn=>?_)⟩
 ·rcases hx:c.aq with _ | ⟨x,r⟩
  ·rw[hx] at hn;simp at hn
  exact⟨.string x.name,rfl,fun _ _ _ e=>(by cases e),fun _ e=>(by cases e)⟩
 have hl:=h1.1;rcases es with _ | ⟨x,r⟩
 ·simp at hl;omega
 exact⟨.string x.nm,rfl,fun _ _ _ e=>(by cases e),fun _ e=>(by cases e)⟩
end
theorem Mk{w:World}{g:Nat}{T:TypeId}{a:Option Addr}{l c:Nat}(h:Blk w g T #[.slice a l c]):ig w g:=fun i u hu=>by
 rw[h.cell i] at hu
 match i,hu with
 | 0,hu=>cases hu;exact .inl ⟨_,_,_,rfl⟩
 | i+1,hu=>simp at hu
theorem Ml{w:World}{g:Nat}{T:TypeId}{e n k:Int}{A:Option Addr}{l c:Nat}(h:Blk w g T (cO e n A l c k)):ig w g:=fun i u hu=>by
 rw[h.cell i] at hu
 match i,hu with
 | 0,hu=>cases hu;exact .inr ⟨_,rfl⟩
 | 1,hu=>cases hu;exact .inr ⟨_,rfl⟩
 | 2,hu=>cases hu;exact .inl ⟨_,_,_,rfl⟩
 | 3,hu=>cases hu;exact .inr ⟨_,rfl⟩
 | i+4,hu=>simp at hu
theorem IX{w W:World}{g4 g5:Nat}{A A' B B':Option Addr}{l l' c c' m m' d d':Nat}{e n k e' n' k':Int}(hg:Grow w W)(h4:w.heap.size≤g4)(h5:w.heap.size≤g5)(hne:g4≠g5)(H4:Blk W g4 44 #[.slice A l c])(H5:Blk W g5 31 (cO e n B m d k)) :
 let W':=((((W.setCell ⟨g4,0,none⟩ (.slice A' l' c')).setCell ⟨g5,0,none⟩ (.int .i64 e')).setCell ⟨g5,1,none⟩ (.int .i64 n')).setCell ⟨g5,2,none⟩ (.slice B' m' d')).setCell ⟨g5,3,none⟩ (.int .i64 k')
 Grow w W'∧Blk W' g4 44 #[.slice A' l' c']∧Blk W' g5 31 (cO e' n' B' m' d' k')∧(∀{X:Option Addr} {cap:Nat} {st:List Co},dW W X cap st→dW W' X cap st)∧∀{g:Nat} {T:TypeId} {cs:Array Value},Blk W g T cs→g≠g4→g≠g5→Blk W' g T cs:=by
 refine⟨((((hg.setCell (p:=⟨g4,0,none⟩) h4 _).setCell (p:=⟨g5,0,none⟩) h5 _).setCell (p:=⟨g5,1,none⟩) h5 _).setCell (p:=⟨g5,2,none⟩) h5 _).setCell (p:=⟨g5,3,none⟩) h5 _,
  ((((H4.bf 0 _).far (p:=⟨g5,0,none⟩) hne _).far (p:=⟨g5,1,none⟩) hne _).far (p:=⟨g5,2,none⟩) hne _).far (p:=⟨g5,3,none⟩) hne _,
  ((((H5.far (p:=⟨g4,0,none⟩) (fun e=>hne e.symm) _).bf 0 _).bf 1 _).bf 2 _).bf 3 _,fun h=>h.IW (S:=fun q=>q=g4∨q=g5) ?_ (fun q hq=>?_),fun h n4 n5=>((((h.far (p:=⟨g4,0,none⟩) n4 _).far (p:=⟨g5,0,none⟩) n5 _).far (p:=⟨g5,1,none⟩) n5 _).far (p:=⟨g5,2,none⟩) n5 _).far (p:=⟨g5,3,none⟩) n5 _⟩
 ·exact(((((dU (S:=fun q=>q=g4∨q=g5) W).set (p:=⟨g4,0,none⟩) (.inl rfl) _).set (p:=⟨g5,0,none⟩) (.inr rfl) _).set (p:=⟨g5,1,none⟩) (.inr rfl) _).set (p:=⟨g5,2,none⟩) (.inr rfl) _).set (p:=⟨g5,3,none⟩) (.inr rfl) _
 rcases hq with rfl | rfl
 ·exact Mk H4
 exact Ml H5
end
abbrev aml:=@ig.keep
abbrev amm:=@ig.reads
section
open Go.RowKit
theorem RH{path:ByteArray}{d x:V}(hd:fC d)(hx:fC x)(hk:(bM x).1≠(bM d).1)(hc:jP path d x=false):∀u,g_ d path=some u→g_ x path≠some u:=by
 obtain⟨-,-,-,-,g1,-⟩:=hd.id;obtain⟨-,-,-,-,g2,-⟩:=hx.id;intro u h1 h2;rw[Ep g1] at h1;rw[Ep g2] at h2;rw[Yx h1 h2,UU,Bool.and_true] at hc;simp only[Bool.not_eq_false'] at hc;exact hk (by simpa using hc)
theorem agD{path:ByteArray}{ag:List V}{d:V}(hd:∀x∈ag,fC x)(hr:fI (ko ag))(jT:fC d)(hu:wu path ag)(hc:ag.any (jP path d)=false):wu path (gm ag d):=by
 have hc':∀x∈ag,jP path d x=false:=fun x hx=>by
  rcases vL (jP path d x) with h | h
  ·rw[List.any_eq_true.2 ⟨x,hx,h⟩] at hc;cases hc
  exact h
 have hs:∀a b:V,(∀u,g_ a path=some u→g_ b path≠some u)→∀u,g_ b path=some u→g_ a path≠some u:=fun a b h u h1 h2=>h u h2 h1
 unfold gm;split
 ·rename_i hF;have hlt:=zx hF;rw[NY,aw hlt];refine Lj hs List.perm_middle.symm (mW.2 ⟨fun x hx=>?_,hu.sub (DU ag (iP ag (bM d).1))⟩);have hmem:x∈ag:=(DU ag (iP ag (bM d).1)).subset hx;refine RH jT (hd x hmem) (fun he=>?_) (hc' x hmem);obtain⟨D,hD⟩:∃D,iP ag (bM d).1=D:=⟨_,rfl⟩;rw[hD] at hx hlt;rcases tI.1 hx with h | h
  ·obtain⟨i,hi,rfl⟩:=lH h;rw[dS] at hi;rw[AA] at he;have:=(Et hr (j:=i) (by omega) he).1;omega
  obtain⟨i,hi,rfl⟩:=lH h;rw[iM] at hi;rw[NZ] at he;have:=(Et hr (j:=D+1+i) (by omega) he).1;omega
 rename_i hF;refine Lj hs List.perm_middle.symm (mW.2 ⟨fun x hx=>?_,by rw[qq];exact hu⟩);rw[qq] at hx;refine RH jT (hd x hx) (fun he=>hF ?_) (hc' x hx);obtain⟨i,hi,rfl⟩:=lH hx;exact(Et hr hi he).2
theorem agE{N:Nat}{c:Co}{d:V}(hc:Bj N c)(jT:fC d)(qa:uq d c.aq=0)(hcl:∀x∈c.aq,x.uniq=true→c.ag.any (jP x.path d)=false):zn (gm c.ag d) c.aq=false:=by
 refine Lm.2 fun x hx hu=>(Ll (fun e he=>?_) (sw.2 fun e he=>?_)).2 (agD hc.ag hc.keys jT (hc.uniq x hx hu) (hcl x hx hu))
 ·rcases DW he with rfl | h
  ·exact jT
  exact hc.ag e h
 rcases DW he with rfl | h
 ·exact DV.1 qa x hx
 exact sw.1 (hc.DT x hx) e h
theorem agF{path:ByteArray}{ag:List V}(hd:∀x∈ag,fC x)(hr:fI (ko ag))(he:jd path ag=0)(hc:∀d∈ag,ag.any (jP path d)=false):se (pS path ag)=false:=by
 refine(Ll hd he).2 (FM.2 fun i j hi hj hij=>?_);refine RH (hd _ (aW hi)) (hd _ (aW hj)) (fun e=>?_) ?_
 ·have h1:=(Et hr hj e).1;have h2:=(Et hr hi rfl).1;omega
 have:=hc _ (aW hi);rw[N6] at this;simpa using this _ (aW hj)
end
section
open Go.RowKit
section
variable {w:World} {ad:Addr} {A:Option Addr} {n:Nat} {xs:List Cc}
theorem Zw(h:Reads (bK w 0 w.heap.size) 3 A n (dK xs))(i c:Nat)(hi:i≤n):Src prog 3 42 (.slice A i c) i (dK (xs.take i)) w:=by
 have hh:=fe (c:=c) wO (h.Ii i hi) (fun u hu=>DC xs u (yP hu));rwa [show (dK xs).take (i*3)=dK (xs.take i) from zq (fun e:Cc=>e.cells.toList) 3 (fun _=>rfl) xs i] at hh
theorem Zx(h:Reads (bK w 0 w.heap.size) 3 A n (dK xs))(i c cap:Nat)(hi:i≤n)(hc:n≤cap):Src prog 3 42 (.slice (if cap=i then A else A.map (·.add (i*3))) (n-i) c) (n-i) (dK (xs.drop i)) w:=by
 have hh:=fe (c:=c) wO (h.Ij i cap hi hc) (fun u hu=>DC xs u (rQ hu));rwa [show (dK xs).drop (i*3)=dK (xs.drop i) from ur (fun e:Cc=>e.cells.toList) 3 (fun _=>rfl) xs i] at hh
theorem agG{g:Nat}(c:Cc)(hb:Blk w g 48 c.cells):Src prog 3 42 (.slice (some ⟨g,0,none⟩) 1 1) 1 c.cells.toList w:=
 Src.ofSlice _ wO ⟨g,0,none⟩ 1 1 _ rfl (fun j u hu=>by
  rw[add_lit,dY,hb.cell j,← hu,pH]) (fun u hu=>by
  simp only[je,wZ,w_] at hu;rcases hu with rfl | rfl | rfl<;>rfl)
theorem Zy{base c:Nat}{es:List Cc}{st:List Co}{ys:List Value}(h:w.ownsRow base 48 3 (.slice A n c) n ys)(hy:ys=dK es)(hn:n=st.length)(ht:Two (su w) es st):dW w A c st:=by
 subst hn hy;exact⟨(nr h).1,es,ht,eX km (lg (S:=fun _=>False) h (fun _ _ h=>h))⟩
theorem Zz(a b:List Cc):dK (a++b)=dK a++dK b:=by simp[dK]
theorem Two.grow{w':World}{es:List Cc}{st:List Co}(h:Two (su w) es st)(hg:Grow w w'):Two (su w') es st:=h.mono fun a b k=>k.mono (fk hg.below (ay _) (ay _) hg.size)
theorem agH{C:Addr→Value→Prop}:IsV C (.mk 7 0 [] [] []) (kH none 0 0):=by
 rw[IsV];exact⟨rfl,rfl,rfl,rfl,rfl,by decide,by decide,by decide,by simp[kH],by simp,by simp[kH],by simp,by simp[kH],by simp,⟨rfl,fun h=>by simp at h⟩,fun i hi=>by simp at hi,fun i hi=>by simp at hi⟩
theorem agI(s:ByteArray):su w ⟨s,none,0,0,none,0,0⟩ ⟨s,[],[]⟩:=
 ⟨rfl,rfl,rfl,ay _,agH,⟨rfl,fun h=>by simp at h⟩⟩
section
variable {e:Operand→Value} {d:Option Tmp} {x y:Operand} {t:TypeId} {p:String} {af:Array Edge} {g:Option (Nat×Bool)} {cap i:Nat}
theorem ZA(hx:e x=.slice A n cap)(hy:e y=.int .i64 i)(h1:i≤n)(h2:n≤cap) :
 (execOp e ⟨d,.slice 42 x (some y) none none,t,p,af,g⟩).run prog w=.ok (.value (.slice (if cap=i then A else A.map (·.add (i*3))) (n-i) (cap-i))) w:=by
 unfold execOp;dsimp only;rw[hx,Kw,hy];have k1:(0:Int)≤(i:Int):=by omega
 have k2:(i:Int)≤(n:Int):=by omega
 have k3:(i:Int)≤(cap:Int):=by omega
 rcases A with _ | a<;>go_simp
theorem ZB(hx:e x=.slice A n cap)(hy:e y=.int .i64 i)(h1:i≤n)(h2:n≤cap) :
 (execOp e ⟨d,.slice 42 x none (some y) none,t,p,af,g⟩).run prog w=.ok (.value (.slice A i cap)) w:=by
 unfold execOp;dsimp only;rw[hx,Kw,hy];have k1:(0:Int)≤(i:Int):=by omega
 have k2:(i:Int)≤(n:Int):=by omega
 have k3:(i:Int)≤(cap:Int):=by omega
 rcases A with _ | a<;>go_simp
end
end
end
section
open Go.RowKit
theorem agJ(N B mb cap:Nat)(A:Option Addr)(es:List Cc)(st:List Co)(q:Rq)(ck cl ch cx:Cv)(w:World)(h:fg w B mb A cap es st q ck cl ch cx)(hok:dX N st)(hN:N≤1000000)(hT:eP w)(Dr:mJ w)(Ch:q.doc.count≤20000)(IY:q.doc.fit)(Cf:cK (bh st) q.aA=true)(hpk:(bM q.doc).2=0)(hpi:(bD st q.aA).aq=[])(l8:(bD st q.aA).ag=[]) :
 Calls prog 81 #[.pointer (some ⟨mb,0,none⟩)] w (qN w B mb (pT st q)):=by
 have hs:st.length≤140737488355328:=fg.short hok;have HM:=aa h;have cP:=aa hok;have hf:=Cf;have HPK:=aa hpk;have HPI:=aa hpi;have agK:=aa l8;clear Cf hpk hpi l8;obtain⟨gb,hA,hgb,hgl,hne⟩:=h.gb hf;obtain⟨⟨nm,dA,dn,dc,xA,xn,xc⟩,he,aR,hcell⟩:=h.co hf hA;obtain⟨c,hc⟩:∃c,bD st q.aA=c:=⟨_,rfl⟩;have hmem:=(lU hf).2.1;have hlt:=(lU hf).2.2.2;have uB:bV (bh st) q.aA<es.length:=by rw[h.el];exact hlt
 rw[hc] at aR hmem;have xM:=hok.co c hmem;have hnd:=xM.nd;have hnx:=xM.nx;have HC:=aa (WQ h hs hf hA);have HF:=aa hf;have qX:=aa hgb;have cM:=aa hne;have qY:=aa hgl;have LG:=aa hA;have LH:=aa he;have sK:=aa aR;have Bv:=aa xM;have xN:=aa hcell;have iJ:=aa hc;obtain⟨P,hP⟩:∃P,bV (bh st) q.aA=P:=⟨_,rfl⟩;have HP:=aa hP;rw[hP] at HC LH xN hlt uB;have lZ:=aa hlt;have Bw:=aa (fun(w1:World) (hg:Grow w w1)=>show w1.cell? ⟨gb,P*3+1,none⟩=some (.slice dA c.ag.length dc)∧w1.cell? ⟨gb,P*3+2,none⟩=some (.slice xA c.aq.length xc) from
  ⟨(hg.below.cell (p:=⟨gb,P*3+1,none⟩) hgl).trans ((xN.o 1 (.slice dA dn dc) rfl).trans (by rw[show dn=c.ag.length from aR.dn])),(hg.below.cell (p:=⟨gb,P*3+2,none⟩) hgl).trans ((xN.o 2 (.slice xA xn xc) rfl).trans (by rw[show xn=c.aq.length from aR.xn]))⟩)
 have HKEY:=aa (fun(w1:World) (hg:Grow w w1)=>VZ q.doc cx w1 Ch (hT.grow hg) ((h.doc.lL h.le).grow hg));have Mm:=aa (show c.aq=[] from by have:=HPI.o;rwa [iJ.o] at this);have HED:=aa (show c.ag=[] from by have:=agK.o;rwa [iJ.o] at this);have HT:=aa hT;have dD:=aa Ch;have IZ:=aa IY;clear h hok hf hA he aR hcell hc xM hmem hP hlt uB hT Dr Ch IY;go_enter func81,ntmps81;go_wp2_with fail;refine HC.o.mono ?_;rintro e w1 ⟨rfl,hg1⟩;have aO:=aa hg1;have ju:=aa (HM.o.grow hg1);have hm:=ju.o.blk.cell;clear hg1;obtain⟨kb,ke,RI⟩:∃a b,bM q.doc=(a,b):=⟨_,_,rfl⟩;have nK:=aa RI;have RJ:=HKEY.o w1 aO.o;rw[RI] at RJ;have HKY:=aa RJ;clear RI RJ;go_wp2_with fail;refine HKY.o.mono ?_;rintro e w2 ⟨adG,K2,kc2,rfl,hb2,hr2,hg2⟩;have cE:=aa hr2
 have HG2:=aa (aO.o.trans hg2);clear hr2 hb2 hg2 hm;by_cases iu:ke=0
 case neg=>exact absurd (by have:=HPK.o;rw[nK.o] at this;exact this) iu
 subst iu;have EH:=(Bw.o w2 HG2.o).2;go_wp2_with fail;refine(OC w2).mono ?_;rintro e w3 ⟨rfl,rfl⟩;go_wp2_with fail;clear EH;go_loopg [35] (c.aq.length+1) (fun gk i wr=>∃j:Nat,j≤c.aq.length∧gk+j=c.aq.length+1∧i=.int .i64 j∧(∀i (hi:i<c.aq.length),i<j→(eu c.aq[i].path q.doc).2.2=0)∧Grow w2 wr);exact⟨0,ba _,rfl,rfl,fun _ _ h=>absurd h (by omega),ah w2⟩;obtain⟨j,hj,hg,rfl,hz,hgr⟩:=hrel;obtain⟨gk',rfl⟩:=bS gk (by omega);have HZ:=aa hz;have aH:=aa hgr;have aY:=aa (HG2.o.trans hgr);clear hz hgr;by_cases hlt:j<c.aq.length
 ·exact absurd hlt (by rw[Mm.o];simp)
 have RL:j=c.aq.length:=by omega
 subst RL;have L_:=aa (afG (d:=q.doc) fun i hi=>HZ.o i hi hi);have Mn:=aa (HM.o.grow aY.o);have EH:=(Bw.o wr aY.o).1;have ZC:=aa (adn c.ag gb (P*3) dc dA kb K2 kc2 wr (fun d hd=>(Bv.o.ag d hd).count) (by omega) (HT.o.grow aY.o) EH (df qY.o aY.o.size) ((sK.o.grow HM.o.le aY.o).Lc Mn.o.le (by omega)) ((cE.o.reads.1).grow aH.o));have zH:=aa (show q.doc.nD from I0 (by
  have h0:=nK.o;unfold bM at h0;split at h0
  ·rename_i hbad;exact absurd (CY.1 h0).2 hbad
  rename_i agL;simpa using agL))
 have ZE:=aa (show iP c.ag kb≤c.ag.length from Ww c.ag kb);obtain⟨TH,RM⟩:∃b,jm c.ag kb=b:=⟨_,rfl⟩;obtain⟨D,hD⟩:∃b,iP c.ag kb=b:=⟨_,rfl⟩;have RO:=ZC.o;rw[show iq (vZ c.ag kb) c.ag.length=TH from RM,show ja (vZ c.ag kb) c.ag.length=D from hD] at RO;have ct:=aa RO;rw[hD] at ZE;have wF:=aa RM;have Ci:=aa hD;clear RO RM hD EH ZC;go_wp2_with fail;refine ct.o.mono ?_;rintro e w6 ⟨rfl,cH⟩;have bp:=aa (aY.o.trans cH);have RP:=aa (HM.o.grow bp.o);clear cH;have BA:=RP.o.blk.cell;have EH:=(Bw.o w6 bp.o).1;have agM:=aa (fun(w1:World) (hg:Grow w w1)=>afH (sK.o.grow HM.o.le hg) (bn HM.o.le hg.size) (by omega))
 cases TH with
 | false =>
  go_wp2_with fail;refine(tY 6 w6).mono ?_;rintro e w7 ⟨rfl,rfl⟩;go_wp2_with fail;refine(agM.o w6 bp.o).mono ?_;rintro e w7 ⟨A7,c7,cs,rfl,fM,ZF,b_⟩;have aX:=aa (bp.o.trans b_);have I3:=aa (RP.o.grow b_);have Hq:=I3.o.blk.cell;have uG:=aa fM;have ZG:=aa ZF;have agN:=aa (zI q.doc zH.o w7 cx ((I3.o.doc.lL I3.o.le)));have agO:=aa (show w6.heap.size≤w7.heap.size from b_.size);clear fM ZF b_ BA EH;go_wp2_with fail;refine agN.o.mono ?_;rintro e w8 ⟨cv,rfl,hin,cY⟩;have Ea:=aa hin;have RQ:=aa cY;have aZ:=aa ((aX.o.trans cY).alloc (.cells cv.cells 27));have agP:=aa (ki uG.o (cY.alloc (.cells cv.cells 27)));clear hin cY Hq;go_wp2_with fail
  refine(agQ w6.heap.size c.ag.length D c7 w8.heap.size A7 (dG cs) cv.cells.toList _ 27 (DG cs) (by simp[Value.oneCell']) agP.o ZE.o (by omega) rfl (aD w8 27 cv.cells) (by
   intro e;have h1:=(bO uG.o w8.heap.size e).2;have h2:=RQ.o.size;omega) (by simp;have:=agO.o;have:=RQ.o.size;omega)).mono ?_
  rintro ee w9 ⟨A9,c9,rfl,kT,RR,RS⟩;have dH:=aa (aZ.o.grown RR (fun k hk=>by have h1:=(bO uG.o k (by rw[bH] at hk ⊢;exact hk)).1;have h2:=bp.o.size;omega));have ZH:=aa (HM.o.grow dH.o);have agR:=(Bw.o w9 dH.o).2;have hnew:=afI (w9:=w9) (A7:=A7) (A9:=A9) (mb:=mb) (gb:=gb) ZG.o Ea.o I3.o.le RQ.o (((gJ (S:=fun k=>bw A7=some k) ((ah w8).alloc (.cells cv.cells 27)))).trans ((Bf RR).mono (fun k hk=>by rw[bH] at hk;exact hk)))
   (fun g hg=>by have h1:=bO uG.o g (by rw[bH];exact hg);exact⟨bn RP.o.le h1.1,h1.2⟩)
   (fun g hg=>by rw[bH,bH] at RS;rcases RS with h | h;exact .inl (by rw[← h];exact hg);exact .inr (by rw[h] at hg;injection hg with hg;simp at hg;omega)) HM.o.lo qX.o I3.o.lt (df qY.o aX.o.size)
  have hcl:cs.length=c.ag.length:=ZG.o.1.symm;have l5:=aa (show VR (Sp mb gb) w9 w6.heap.size A9 c9 (cZ cs D cv) (cZ c.ag D q.doc) from ⟨by
   rw[uw,hcl,show ((cZ cs D cv).map vF).flatten=(dG cs).take (D*5)++cv.cells.toList++(dG cs).drop (D*5) from (V8 _ 5 (fun _=>rfl) cs D cv).symm];exact kT,⟨by rw[uw,uw,hcl],fun j a b ha hb=>by
    have ht:=(hnew.1.ins D hnew.2);exact ht.2 j b a hb ha⟩⟩)
  have BP:=aa (show gm c.ag q.doc=cZ c.ag D q.doc by unfold gm;rw[nK.o,ai (by rw[wF.o];decide),Ci.o]);clear kT RR RS hnew hcl;go_wp2_with fail;clear agR;have l8:=BP.o;have hlen:(gm c.ag q.doc).length=(c.ag.length+1):=by rw[l8];exact uw
  have I4:=l5.o;rw[← l8] at I4;have oX:=aa I4;have jT:fC q.doc:=⟨by rw[nK.o],IZ.o,dD.o⟩;have zA:∀d∈gm c.ag q.doc,fC d:=fun d hm=>by
   rcases DW hm with rfl | hm
   ·exact jT
   exact Bv.o.ag d hm
  have agS:∀x∈c.aq,jd x.path (gm c.ag q.doc)=0:=fun x hx=>sw.2 fun d hm=>by
   rcases DW hm with rfl | hm
   ·exact DV.1 L_.o x hx
   exact sw.1 (Bv.o.DT x hx) d hm
  have hS9:∀g,bw A9=some g→¬ Sp mb gb g:=fun g hg hs=>by
   obtain⟨cur,BO,-⟩:=ZH.o.G8 LG.o (by have:=lZ.o;omega);rcases hs with rfl | rfl
   ·exact ez I4.row ZH.o.blk (by decide) hg
   exact ez I4.row BO (by decide) hg
  have HLEN:=aa hlen;clear l8 hlen I4 jT zA agS hS9;go_loopg [100] (c.aq.length+1) (fun gk i wr=>∃j:Nat,j≤c.aq.length∧gk+j=c.aq.length+1∧i=.int .i64 j∧(∀i (hi:i<c.aq.length),i<j→c.aq[i].uniq=true→se (pS c.aq[i].path (gm c.ag q.doc))=false)∧Grow w9 wr);exact⟨0,ba _,rfl,rfl,fun _ _ h=>absurd h (by omega),ah w9⟩;obtain⟨j,hj,hg,rfl,hz,hgr⟩:=hrel;obtain⟨gk',rfl⟩:=bS gk (by omega);have RT:=aa hz;have agT:=aa hgr;have Mo:=aa (dH.o.trans hgr);clear hz hgr;by_cases hlt:j<c.aq.length
  ·exact absurd hlt (by rw[Mm.o];simp)
  have RL:j=c.aq.length:=by omega
  subst RL;have jy:=aa (show zn (gm c.ag q.doc) c.aq=false from Lm.2 fun x hx hu=>by obtain⟨i,hi,rfl⟩:=lH hx;exact RT.o i hi hi hu);have oV:=aa (HM.o.grow Mo.o);obtain⟨cur,BO,-⟩:=oV.o.G8 LG.o (by have:=lZ.o;omega);have cm:=BO.frozen;have hcd:=(Bw.o wr Mo.o).1;have wQ:gb≠mb:=cM.o;have aQ:=aa (oV.o.blk.far (p:=⟨gb,P*3+1,none⟩) (fun e=>wQ e.symm) (.slice A9 (c.ag.length+1) c9));have uI:=aQ.o.frozen;have hbc:=aQ.o.cell;clear BO;go_wp2_with fail;go_end0;have HB:=aQ.o;have wG:=dU (fun k=>k=mb) (wr.setCell ⟨gb,P*3+1,none⟩ (.slice A9 (c.ag.length+1) c9))
  obtain⟨hkk,hst⟩:=afJ oV.o LG.o LH.o (sK.o.grow HM.o.le Mo.o) lZ.o wQ (cP.o.dl hN) (by have:=HLEN.o;omega) (oX.o.grow jI agT.o) HLEN.o wG;refine qN.ok (st':=st.set P ⟨c.name,gm c.ag q.doc,c.aq⟩) (n:=0) (ag:=[]) ((Mo.o.below.mono HM.o.le).trans (hkk.below oV.o.le ?_)) ?_ (df oV.o.lt hkk.size) (A:=A) (cap:=cap) (dA:=none) (dc:=0) ((HB.cell 0).trans (by rw[kD];rfl)) hst (HB.cell 28) (HB.cell 29) (InL.nil _)
  ·rintro k (rfl | rfl | hk)
   ·exact HM.o.lo
   ·exact qX.o
   cases hk
  unfold pT;rw[ai (by rw[HF.o];decide),nK.o,ai (by simp),iJ.o,L_.o,ai (by simp),ai (by rw[wF.o];simp),jy.o,ai (by decide),HP.o,wF.o];rfl
 | true=>exact absurd (zx wF.o) (by rw[HED.o];simp)
end
section
open Go.RowKit
def zQ(st:List Co)(q:Rq):Prop:=q.bj=1∨(q.bj=3∧cK (bh st) q.aA=true∧(bM q.doc).2=0∧(bD st q.aA).aq=[]∧(bD st q.aA).ag=[])∨(q.bj=9∧cK (bh st) q.aA=true∧cK (gj (bD st q.aA)) q.index=false)
theorem zQ.num{st:List Co}{q:Rq}(h:zQ st q):1≤q.bj∧q.bj≤10:=by
 rcases h with h | ⟨h,-⟩ | ⟨h,-⟩<;>omega
theorem agU(N B mb cap:Nat)(A:Option Addr)(es:List Cc)(st:List Co)(q:Rq)(ck cl ch cx:Cv)(w:World)(h:fg w B mb A cap es st q ck cl ch cx)(hok:dX N st)(hN:N≤1000000)(hR:YQ q w B)(hd:zQ st q) :
 Calls prog (jQ q.bj) #[.pointer (some ⟨mb,0,none⟩)] w (qN w B mb (kf st q)):=by
 rcases hd with e | ⟨e,h1,h2,h3,h4⟩ | ⟨e,h1,h2⟩
 ·rw[show jQ q.bj=79 from by rw[e];rfl,show kf st q=nZ st q from by unfold kf;rw[e];rfl];exact afE N B mb cap A es st q ck cl ch cx w h hok hN hR.tabs
 ·rw[show jQ q.bj=81 from by rw[e];rfl,show kf st q=pT st q from by unfold kf;rw[e];rfl];exact agJ N B mb cap A es st q ck cl ch cx w h hok hN hR.tabs hR.afS hR.doc hR.fit h1 h2 h3 h4
 rw[show jQ q.bj=86 from by rw[e];rfl,show kf st q=qK st q from by unfold kf;rw[e];rfl];exact ae2 N B mb cap A es st q ck cl ch cx w h hok hN h1 h2 (fun W hb=>hR.all W hb) hR.low hR.high
end
section
open Go.RowKit
def oz(s:ByteArray)(lo hi:V)(n:Int):Rq:=⟨9,s,⟨#[]⟩,⟨#[]⟩,false,V.zero,lo,hi,V.zero,n⟩
noncomputable def jA(ag:List V)(lo hi:V):List V:=ag.filter fun d=>fQ ((gI d).getD V.zero) lo hi
theorem Mp{N:Nat}{st:List Co}(h:dX N st){i:Nat}(hi:i<st.length):cK (bh st) st[i].name=true∧bD st st[i].name=st[i]:=by
 have h1:cK (bh st) st[i].name=true:=(Bh h.nz _).2 (NK (aW hi));obtain⟨e,-,hn,hl⟩:=lU h1;refine⟨h1,?_⟩;have hst:st[bV (bh st) st[i].name]=bD st st[i].name:=(kC.1 e).2;have hk:bV (bh st) st[i].name=i:=h.nz.inj (by simpa using hl) (by simpa using hi) (by simp only[gG,bh,iZ];rw[hst,hn]);rw[← hst];congr 1
theorem agV{N:Nat}{c:Co}(h:Bj N c):cK (gj c) ⟨#[]⟩=false:=by
 cases hf:cK (gj c) ⟨#[]⟩ with
 | false=>rfl
 | true =>
  obtain⟨x,hx,e⟩:=j3.1 ((Bh h.aq _).1 hf);have:=h.gj x hx;rw[e] at this;exact absurd this (by decide +kernel)
theorem agW(c:Co)(s:ByteArray)(lo hi:V)(n:Int):v_ c (oz s lo hi n)=(jA c.ag lo hi).take n.toNat:=by
 have h1:zo c (oz s lo hi n)=c.ag:=aw rfl;have h2:∀d,sj (oz s lo hi n) (sk c (oz s lo hi n)) d=(gI d).getD V.zero:=fun d=>aw rfl
 unfold v_ jA;rw[h1];simp only[h2];rfl
theorem agX{N:Nat}{st:List Co}(h:dX N st){i:Nat}(hi:i<st.length)(lo hi':V)(n:Int):zQ st (oz st[i].name lo hi' n):=
 .inr (.inr ⟨rfl,(Mp h hi).1,by rw[show (oz st[i].name lo hi' n).aA=st[i].name from rfl,(Mp h hi).2];exact agV (h.co _ (aW hi))⟩)
noncomputable def sZ(ag:List V)(lo hi:V)(n:Int):Rp:=
 if ei lo≠0 then ⟨ei lo,0,[],0⟩ else if ei hi≠0 then ⟨ei hi,0,[],0⟩ else ⟨0,(((jA ag lo hi).take n.toNat).length:Int),(jA ag lo hi).take n.toNat,0⟩
theorem agY{N:Nat}{st:List Co}(h:dX N st){i:Nat}(hi:i<st.length)(lo hi':V)(n:Int)(hn:1≤n∧n≤64):kg st (oz st[i].name lo hi' n)=(st,sZ st[i].ag lo hi' n):=by
 have ha:kf st (oz st[i].name lo hi' n)=qK st (oz st[i].name lo hi' n):=rfl;unfold kg;rw[ha];unfold qK sZ;rw[ai (by rw[show (oz st[i].name lo hi' n).aA=st[i].name from rfl,(Mp h hi).1];decide),ai (fun e=>e.2 rfl),ai (show ¬ ((oz st[i].name lo hi' n).n<1∨64<(oz st[i].name lo hi' n).n) from by show ¬ (n<1∨64<n);omega)];rw[show (oz st[i].name lo hi' n).low=lo from rfl,show (oz st[i].name lo hi' n).high=hi' from rfl,show (oz st[i].name lo hi' n).aA=st[i].name from rfl,(Mp h hi).2,agW];by_cases h1:ei lo≠0
 ·rw[aw h1,aw h1]
 rw[ai h1,ai h1];by_cases h2:ei hi'≠0
 ·rw[aw h2,aw h2]
 rw[ai h2,ai h2]
theorem ZI:ei V.zero=0:=aw rfl
theorem agZ(ag:List V):jA ag V.zero V.zero=ag:=by
 unfold jA;rw[List.filter_eq_self];intro d _;unfold fQ;rw[bW (show V.zero.k=0 from rfl)];rfl
theorem ag0(ag:List V):sZ ag V.zero V.zero 64=⟨0,((ag.take 64).length:Int),ag.take 64,0⟩:=by
 unfold sZ;rw[ai (fun h=>h ZI),ai (fun h=>h ZI),agZ];rfl
theorem ag1{ag:List V}{lo hi:V}{n:Int}(h:ei lo≠0∨ei hi≠0):∃e,e≠0∧sZ ag lo hi n=⟨e,0,[],0⟩:=by
 unfold sZ;by_cases h1:ei lo≠0
 ·exact⟨_,h1,aw h1⟩
 rw[ai h1];have h2:=h.resolve_left h1;exact⟨_,h2,aw h2⟩
theorem ZJ{ag:List V}{lo hi:V}{n:Int}(h1:ei lo=0)(h2:ei hi=0):sZ ag lo hi n=⟨0,(((jA ag lo hi).take n.toNat).length:Int),(jA ag lo hi).take n.toNat,0⟩:=by
 unfold sZ;rw[ai (fun h=>h h1),ai (fun h=>h h2)]
theorem ag2{d:V}(h:fC d):g_ d lM=some ((gI d).getD V.zero):=by
 obtain⟨i,e,-,-,hg,h8⟩:=h.id;rw[Ep hg,LR h8,e];rfl
theorem ag3{ag:List V}{lo hi:V}{j:Nat}(hj:j<ag.length)(hl:((jA (ag.take j) lo hi).take 64).length<64)(hw:fQ ((gI ag[j]).getD V.zero) lo hi=true):(jA (ag.take (j+1)) lo hi).take 64=(jA (ag.take j) lo hi).take 64++[ag[j]]:=by
 unfold jA at hl ⊢;rw[mv ag j hj,Ku,List.filter_cons_of_pos (by exact hw),Kv];obtain⟨L,hL⟩:∃L,(ag.take j).filter (fun d=>fQ ((gI d).getD V.zero) lo hi)=L:=⟨_,rfl⟩;rw[hL] at hl ⊢;rw[dS] at hl;have h1:L.take 64=L:=jD (by omega);rw[h1,jD (by rw[bG,Fl];omega)]
theorem ag4{ag:List V}{lo hi:V}{j:Nat}(hj:j<ag.length)(h:¬ ((jA (ag.take j) lo hi).take 64).length<64∨fQ ((gI ag[j]).getD V.zero) lo hi=false):(jA (ag.take (j+1)) lo hi).take 64=(jA (ag.take j) lo hi).take 64:=by
 unfold jA at h ⊢;rw[mv ag j hj,Ku];rcases h with h | h
 ·rw[dS] at h;rw[FK (by omega)]
 rw[List.filter_cons_of_neg (by rw[h];decide),Kv,ml]
theorem EI{v:V}(h:v.k=0∨v.good=0):ei v=0:=by
 unfold ei;rcases h with h | h
 ·rw[aw h]
 rw[h];split<;>rfl
theorem RU{v:V}(h:v.k≠0)(h2:v.good≠0):ei v≠0:=by
 unfold ei;rw[ai h];exact h2
noncomputable def ry(ag:List V)(lo hi:V)(j:Nat):List V:=(jA (ag.take j) lo hi).take 64
theorem ag5(ag:List V)(lo hi:V):ry ag lo hi 0=[]:=by unfold ry jA;simp
theorem ag6(ag:List V)(lo hi:V):ry ag lo hi ag.length=(jA ag lo hi).take 64:=by unfold ry;rw[jD (ay _)]
theorem ag7(ag:List V)(lo hi:V)(j:Nat):(ry ag lo hi j).length≤64:=by unfold ry;rw[dS];omega
theorem ag8{ag:List V}{lo hi:V}{j:Nat}(hj:j<ag.length)(hl:(ry ag lo hi j).length<64)(hw:fQ ((gI ag[j]).getD V.zero) lo hi=true):ry ag lo hi (j+1)=ry ag lo hi j++[ag[j]]:=ag3 hj hl hw
theorem ag9{ag:List V}{lo hi:V}{j:Nat}(hj:j<ag.length)(h:¬ (ry ag lo hi j).length<64∨fQ ((gI ag[j]).getD V.zero) lo hi=false):ry ag lo hi (j+1)=ry ag lo hi j:=ag4 hj h
theorem ag_{W:List V}{k:Nat}(hk:k≤64):(W.take 64).take (min k (W.take 64).length)=W.take k∧min k (W.take 64).length=(W.take k).length:=by
 rw[Ks];simp only[dS];have e:min (min k (min 64 W.length)) 64=min k W.length:=by omega
 rw[e];refine⟨?_,by omega⟩;by_cases h:k≤W.length
 ·rw[qu h]
 rw[FH (by omega),jD (ay _),jD (by omega)]
theorem InL.pre{w:World}{A:Option Addr}{cap:Nat}{l:List V}(h:InL w A cap l){n:Nat}(hn:n≤l.length):InL w A cap (l.take n):=by
 unfold InL In at h ⊢;rw[IsV] at h ⊢;obtain⟨e1,e2,e3,e4,e5,h1,h2,h3,h4,h5,h6,h7,h8,h9,hb,hL,hF⟩:=h;have hlen:(l.take n).length=n:=by rw[dS];omega
 refine⟨e1,e2,e3,rfl,e5,h1,h2,h3,h4,h5,?_,?_,h8,h9,hb,fun i hi=>?_,hF⟩
 ·rw[hlen];exact bn hn h6
 ·rw[hlen];exact bn hn h7
 obtain⟨bk,o,x,k1,k2,k3⟩:=hL i (by rw[hlen] at hi;omega);refine⟨bk,o,x,k1,k2,?_⟩;rw[AA];exact k3
end
end Go.Proofs.YtndjopkdbdcmdaaGreatDoor
