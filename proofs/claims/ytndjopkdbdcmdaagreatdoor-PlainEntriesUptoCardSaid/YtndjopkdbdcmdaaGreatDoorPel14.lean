/- Part 14 of the proof of pentries_card. -/
import Derived.Test.YtndjopkdbdcmdaaGreatDoorPel10
import Derived.Test.YtndjopkdbdcmdaaGreatDoorPel13
set_option linter.unusedVariables false
set_option linter.unusedSimpArgs false
set_option maxRecDepth 100000
set_option maxHeartbeats 12800000
open Go.Proofs.Tryz
namespace Go.Proofs.YtndjopkdbdcmdaaGreatDoor
section
open Go.RowKit Go.Shelf Go.WideShapes
theorem V8(n:Nat)(hn:n<18446744073709551616):dX n=(decide (n / 4503599627370496 % 2048=2047)&&decide (n % 4503599627370496≠0)):=by
 have h1:Ieee.double.signWeight=9223372036854775808:=by decide
 have h2:Ieee.double.binade=4503599627370496:=by decide
 have h3:Ieee.double.infRung=9218868437227405312:=by decide
 unfold dX Ieee.Format.order Ieee.Format.read;rw[h1,h2,h3];simp only;by_cases c1:n % 9223372036854775808<4503599627370496
 ·rw[ar c1,bY (by omega)];simp[Ieee.Datum.order]
 rw[ai c1];by_cases c2:n % 9223372036854775808<9218868437227405312
 ·rw[ar c2,bY (by omega)];simp[Ieee.Datum.order]
 rw[ai c2];by_cases c3:n % 9223372036854775808=9218868437227405312
 ·rw[ar c3,bT (show n / 4503599627370496 % 2048=2047 by omega),bY (show ¬ n % 4503599627370496≠0 by omega)];simp[Ieee.Datum.order]
 rw[ai c3,bT (show n / 4503599627370496 % 2048=2047 by omega),bT (show n % 4503599627370496≠0 by omega)];simp[Ieee.Datum.order]
theorem Row.adT{w:World}{b1 b2 m:Nat}{v:Value}{xs:List UInt8}(h:Row w b1 v m xs)(hb:b2≤b1):Row w b2 v m xs:=by
 rcases h.2 with q | ⟨g,cap,cur,hv,hg,r⟩
 ·exact⟨h.1,.inl q⟩
 exact⟨h.1,.inr ⟨g,cap,cur,hv,a_ hb hg,r⟩⟩
theorem fT.row{w w':World}{b xs:List UInt8}{base n c:Nat}{A:Option Addr}(h:xs=b)(hn:n=b.length)(hb:w.heap.size≤base)(hr:Row w' base (.slice A n c) n xs)(hg:Grow w w'):fT w b (.returned (.slice A n c)) w':=
 fT.of h hn (hr.adT hb) hg
theorem adU(i:Int)(h1:-9223372036854775808≤i)(h2:i≤9223372036854775807):(fl i).1<18446744073709551616∧(fl i).2<18446744073709551616:=by
 have hc:=Du i h1 h2;obtain⟨FLT⟩:=hc;exact⟨by omega,by omega⟩
theorem adV{P:Program}{md:Region.Mode}{ops:Array Oper}{Q:Exit→Act→World→Prop}{S:World→Prop}{n:Nat}{l:Array Bool}{a:Act}{W:World}(di dj dk:Option Tmp)(i j k:Nat)(R:Value→Value→Value→World→Prop)
 (rest:∀x y z W2,R x y z W2→wpAnyH P md ops Q S n (((l.setIfInBounds i true).setIfInBounds j true).setIfInBounds k true) (((a.put di x).put dj y).put dk z) W2)
 (go:(∀x y z W2,R x y z W2→wpAnyH P md ops Q S n (((l.setIfInBounds i true).setIfInBounds j true).setIfInBounds k true) (((a.put di x).put dj y).put dk z) W2)→wpAnyH P md ops Q S (n+3) l a W):wpAnyH P md ops Q S (n+3) l a W:=go rest
def CvC(w wr:World)(m:Nat)(xs:List UInt8)(x:UInt8)(b:List UInt8)(y z:Value)(W:World):Prop:=
 ∃A1 c1 cn gv,y=.slice A1 (m+1) c1∧z=.slice (some ⟨gv,0,none⟩) b.length cn∧Row W (w.heap.size+1) (.slice A1 (m+1) c1) (m+1) (xs++[x])∧b.length≤cn∧ba W (some ⟨gv,0,none⟩) b∧Below (w.heap.size+1) wr W
theorem V9{W W':World}{gv:Nat}{b:List UInt8}{v:Value}(h:ba W (some ⟨gv,0,none⟩) b)(hg:W.grownBy W' v.ownBlock)(hn:∀k,v.ownBlock=some k→k<gv):ba W' (some ⟨gv,0,none⟩) b:=by
 refine⟨h.1,fun hp=>?_⟩;obtain⟨bk,o,e,hc⟩:=h.2 hp;injection e with e;injection e with e1 e2;subst e1 e2;exact⟨gv,0,rfl,fun j u hu=>⟨World.grownBy.cell hg (hc j u hu).1 (fun e=>by have:=hn gv e.symm;omega),aS _,cU (hc j u hu).2.2 hg.size⟩⟩
def Pn(x:V):Prop:=∀(w:World) (c:Cv),In w x c→x.key.length≤1000000→Calls prog 105 #[c.agg] w (fT w x.key)
theorem adW(W:World):(Instr.index 196 (.agg #[.int .u8 0,.int .u8 16,.int .u8 32,.int .u8 48,.int .u8 48,.int .u8 64,.int .u8 80,.int .u8 96,.int .u8 112]) (.int .i64 1)).run prog W=.ok (.int .u8 16) W:=by kernel_rfl
theorem adX(W:World):(Instr.index 196 (.agg #[.int .u8 0,.int .u8 16,.int .u8 32,.int .u8 48,.int .u8 48,.int .u8 64,.int .u8 80,.int .u8 96,.int .u8 112]) (.int .i64 2)).run prog W=.ok (.int .u8 32) W:=by kernel_rfl
theorem adY(W:World):(Instr.index 196 (.agg #[.int .u8 0,.int .u8 16,.int .u8 32,.int .u8 48,.int .u8 48,.int .u8 64,.int .u8 80,.int .u8 96,.int .u8 112]) (.int .i64 3)).run prog W=.ok (.int .u8 48) W:=by kernel_rfl
theorem V_(W:World):(Instr.index 196 (.agg #[.int .u8 0,.int .u8 16,.int .u8 32,.int .u8 48,.int .u8 48,.int .u8 64,.int .u8 80,.int .u8 96,.int .u8 112]) (.int .i64 4)).run prog W=.ok (.int .u8 48) W:=by kernel_rfl
theorem adZ(W:World):(Instr.index 196 (.agg #[.int .u8 0,.int .u8 16,.int .u8 32,.int .u8 48,.int .u8 48,.int .u8 64,.int .u8 80,.int .u8 96,.int .u8 112]) (.int .i64 5)).run prog W=.ok (.int .u8 64) W:=by kernel_rfl
theorem ad0(W:World):(Instr.index 196 (.agg #[.int .u8 0,.int .u8 16,.int .u8 32,.int .u8 48,.int .u8 48,.int .u8 64,.int .u8 80,.int .u8 96,.int .u8 112]) (.int .i64 6)).run prog W=.ok (.int .u8 80) W:=by kernel_rfl
theorem ad1(W:World):(Instr.index 196 (.agg #[.int .u8 0,.int .u8 16,.int .u8 32,.int .u8 48,.int .u8 48,.int .u8 64,.int .u8 80,.int .u8 96,.int .u8 112]) (.int .i64 7)).run prog W=.ok (.int .u8 96) W:=by kernel_rfl
theorem ad2(W:World):(Instr.index 196 (.agg #[.int .u8 0,.int .u8 16,.int .u8 32,.int .u8 48,.int .u8 48,.int .u8 64,.int .u8 80,.int .u8 96,.int .u8 112]) (.int .i64 8)).run prog W=.ok (.int .u8 112) W:=by kernel_rfl
theorem ad3(w:World)(c:Cv)(hv:In w (V.mk 1 0 [] [] []) c) :
 Calls prog 105 #[c.agg] w (fT w (V.key (V.mk 1 0 [] [] []))):=by
 obtain⟨aB,aL,aF,cB,cL,cF,rfl,h1,h2,h3,h4,h5,h6,h7,h8,h9,hb0⟩:=lu hv;have hz:(w.alloc (.cells #[.int .i64 1,.int .u64 0,.slice aB 0 cB,.slice aL 0 cL,.slice aF 0 cF] 27)).heap.size=w.heap.size+1:=by simp
 have hrow:=wR (w:=w.alloc (.cells #[.int .i64 1,.int .u64 0,.slice aB 0 cB,.slice aL 0 cL,.slice aF 0 cF] 27)) 16 (e:=16) rfl;rw[hz] at hrow;have dJ:=aa hrow;have yU:=adW;have bf:=aa ((aH w 27 #[.int .i64 1,.int .u64 0,.slice aB 0 cB,.slice aL 0 cL,.slice aF 0 cF]).alloc (.cells #[.int .u8 16] 5));have aP:=aa (((ah w).alloc (.cells #[.int .i64 1,.int .u64 0,.slice aB 0 cB,.slice aL 0 cL,.slice aF 0 cF] 27)).alloc (.cells #[.int .u8 16] 5));clear hrow hb0;go_enter func105,ntmps105;go_wp2_with fail;go_ret;exact fT.row (by rw[fk];rfl) (by rw[fk];rfl) (by omega) dJ.o aP.o
theorem ad4(w:World)(c:Cv)(n:Nat)(hv:In w (V.mk 2 n [] [] []) c) :
 Calls prog 105 #[c.agg] w (fT w (V.key (V.mk 2 n [] [] []))):=by
 obtain⟨aB,aL,aF,cB,cL,cF,rfl,h1,h2,h3,h4,h5,h6,h7,h8,h9,hb0⟩:=lu hv;have hz:(w.alloc (.cells #[.int .i64 2,.int .u64 n,.slice aB 0 cB,.slice aL 0 cL,.slice aF 0 cF] 27)).heap.size=w.heap.size+1:=by simp
 have hrow:=wR (w:=w.alloc (.cells #[.int .i64 2,.int .u64 n,.slice aB 0 cB,.slice aL 0 cL,.slice aF 0 cF] 27)) 32 (e:=32) rfl;rw[hz] at hrow;have dJ:=aa hrow;have yU:=adX;have bf:=aa ((aH w 27 #[.int .i64 2,.int .u64 n,.slice aB 0 cB,.slice aL 0 cL,.slice aF 0 cF]).alloc (.cells #[.int .u8 32] 5));have aP:=aa (((ah w).alloc (.cells #[.int .i64 2,.int .u64 n,.slice aB 0 cB,.slice aL 0 cL,.slice aF 0 cF] 27)).alloc (.cells #[.int .u8 32] 5));have hwr:IntKind.u8.wrap (n:Int)=(n:Int) % 256:=Jw _;clear hrow hb0;go_enter func105,ntmps105
 go_wp2_with (first | (at_builtin;refine fK (ys:=[UInt8.ofNat n]) rfl (.tmp 17) (.tmp 21) _ rfl rfl (dJ.o.alloc _) _ rfl (j6 _ (Fi _) (df (by simp) _ _)) (by simp only[aU,bn];omega) (by simp) ?_;intro A2 c2 w2 hr2 hg2;have HG2:=aa (ct (aP.o.alloc _) (ez (dU hg2 (dJ.o.alloc _) (by simp)) (by omega)));have bI:=aa hr2;clear hr2 hg2) | fail);go_ret;exact fT.row (by rw[fk];rfl) (by rw[fk];rfl) (by omega) bI.o HG2.o
theorem ad5(w:World)(c:Cv)(n:Nat)(hv:In w (V.mk 3 n [] [] []) c) :
 Calls prog 105 #[c.agg] w (fT w (V.key (V.mk 3 n [] [] []))):=by
 obtain⟨aB,aL,aF,cB,cL,cF,rfl,h1,h2,h3,h4,h5,h6,h7,h8,h9,hb0⟩:=lu hv;have hz:(w.alloc (.cells #[.int .i64 3,.int .u64 n,.slice aB 0 cB,.slice aL 0 cL,.slice aF 0 cF] 27)).heap.size=w.heap.size+1:=by simp
 have hrow:=wR (w:=w.alloc (.cells #[.int .i64 3,.int .u64 n,.slice aB 0 cB,.slice aL 0 cL,.slice aF 0 cF] 27)) 48 (e:=48) rfl;rw[hz] at hrow;have dJ:=aa hrow;have yU:=adY;have bf:=aa ((aH w 27 #[.int .i64 3,.int .u64 n,.slice aB 0 cB,.slice aL 0 cL,.slice aF 0 cF]).alloc (.cells #[.int .u8 48] 5));have aP:=aa (((ah w).alloc (.cells #[.int .i64 3,.int .u64 n,.slice aB 0 cB,.slice aL 0 cL,.slice aF 0 cF] 27)).alloc (.cells #[.int .u8 48] 5));have hcv:IntKind.i64.wrap (n:Int)=i64 n:=by unfold i64;rw[cZ];split<;>omega
 have hi1:-9223372036854775808≤i64 n∧i64 n≤9223372036854775807:=by unfold i64;split<;>omega
 obtain⟨I,hI⟩:∃I,i64 n=I:=⟨_,rfl⟩;rw[hI] at hcv hi1;have HI:=aa hI;have Gs:=adU I hi1.1 hi1.2;have qd:=aa (fun w=>adR I hi1.1 hi1.2 w);obtain⟨F,R,Po⟩:∃F R,fl I=(F,R):=⟨_,_,rfl⟩;rw[Po] at Gs qd;dsimp only at Gs qd;have Wa:=aa Po;have HT:=aa (fun w=>Pf F w Gs.1);have HH:=aa (fun w=>Ds (eT F) 8 w (by omega) (AK F Gs.1));have yV:=aa (fun w=>Ds R 2 w (by omega) Gs.2);clear hrow hb0 hI Po;go_enter func105,ntmps105;go_wp2_with fail;refine(qd.o _).mono ?_;rintro e w1 ⟨rfl,rfl⟩
 go_wp2_with (first | (at_builtin;refine fK (ys:=[1]) rfl (.tmp 32) (.tmp 33) _ rfl rfl (dJ.o.alloc _) _ rfl (j6 1 rfl (df (by simp) _ _)) (by simp only[fS,aU,bn]<;>omega) (by first | omega | (simp only[dh];omega)) ?_;intro A2 c2 w2 hr2 hg2;have hz2:=hg2.size;have HG2:=aa (ct (yw aP.o _) (ez (dU hg2 (dJ.o.alloc _) (by first | omega | (simp only[dh];omega))) (by omega)));have bI:=aa hr2;(try simp only[dh] at hz2);clear hr2 hg2) | fail);refine(HT.o _).mono ?_;rintro e w3 ⟨rfl,rfl⟩;go_wp2_with fail;refine(HH.o _).mono ?_;rintro e w4 ⟨A4,c4,rfl,hr4,hg4⟩;have cN:=aa hr4;have bz:=aa (sP HG2.o hg4);have ml:=aa (bI.o.grow hg4);have wP:=hg4.size;clear hr4 hg4
 go_wp2_with (first | (at_builtin;refine fK (ys:=be 8 (eT F)) rfl (.tmp 35) (.tmp 38) _ rfl rfl ml.o _ rfl (ej dP cN.o.reads.1 (gM _)) (by simp only[fS,aU,bn]<;>omega) (by first | omega | (simp only[dh];omega)) ?_;intro A5 c5 w5 gZ cr;have sS:=cr.size;have bC:=aa (ct bz.o (ez (dU cr ml.o (by first | omega | (simp only[dh];omega))) (by omega)));have gP:=aa gZ;(try simp only[dh] at sS);clear gZ cr) | fail);refine(yV.o _).mono ?_;rintro e w6 ⟨A6,c6,rfl,mI,bU⟩;have wQ:=aa mI;have bR:=aa (sP bC.o bU);have Wb:=aa (gP.o.grow bU);have CN:=bU.size;clear mI bU
 go_wp2_with (first | (at_builtin;refine fK (ys:=be 2 R) rfl (.tmp 39) (.tmp 41) _ rfl rfl Wb.o _ rfl (ej dP wQ.o.reads.1 (gM _)) (by simp only[fS,aU,bn]<;>omega) (by first | omega | (simp only[dh];omega)) ?_;intro A7 c7 w7 ji bW;have AO:=bW.size;have aZ:=aa (ct bR.o (ez (dU bW Wb.o (by first | omega | (simp only[dh];omega))) (by omega)));have il:=aa ji;(try simp only[dh] at AO);clear ji bW) | (at_builtin;refine fK (ys:=[0]) rfl (.tmp 43) (.tmp 44) _ rfl rfl (il.o.alloc _) _ rfl (j6 0 rfl (df (by simp) _ _)) (by simp only[fS,aU,bn]<;>omega) (by first | omega | (simp only[dh];omega)) ?_;intro A8 c8 w8 rM cO;have Wc:=cO.size;have dQ:=aa (ct (yw aZ.o _) (ez (dU cO (il.o.alloc _) (by first | omega | (simp only[dh];omega))) (by omega)));have qA:=aa rM;(try simp only[dh] at Wc);clear rM cO) | fail)
 go_ret;exact fT.row (by rw[fk];simp[mM,HI.o,Wa.o]) (by rw[fk];simp[mM,HI.o,Wa.o,fS]) (by omega) qA.o dQ.o
theorem ad6(w:World)(c:Cv)(b:List UInt8)(hv:In w (V.mk 5 0 b [] []) c)(hm:(V.mk 5 0 b [] []).key.length≤1000000) :
 Calls prog 105 #[c.agg] w (fT w (V.key (V.mk 5 0 b [] []))):=by
 obtain⟨aB,aL,aF,cB,cL,cF,rfl,h1,h2,h3,h4,h5,h6,h7,h8,h9,hb0⟩:=lu hv;have hz:(w.alloc (.cells #[.int .i64 5,.int .u64 0,.slice aB b.length cB,.slice aL 0 cL,.slice aF 0 cF] 27)).heap.size=w.heap.size+1:=by simp
 have hrow:=wR (w:=w.alloc (.cells #[.int .i64 5,.int .u64 0,.slice aB b.length cB,.slice aL 0 cL,.slice aF 0 cF] 27)) 64 (e:=64) rfl;rw[hz] at hrow;have dJ:=aa hrow;have yU:=adZ;have bf:=aa ((aH w 27 #[.int .i64 5,.int .u64 0,.slice aB b.length cB,.slice aL 0 cL,.slice aF 0 cF]).alloc (.cells #[.int .u8 64] 5));have aP:=aa (((ah w).alloc (.cells #[.int .i64 5,.int .u64 0,.slice aB b.length cB,.slice aL 0 cL,.slice aF 0 cF] 27)).alloc (.cells #[.int .u8 64] 5));have hbl:b.length≤1000000:=by
  rw[fk] at hm;have:=(pJ b).1;simp[cW] at hm;omega
 have HT:=aa (fun w' (h:Grow w w')=>Pg b aB cB w' (zY hb0 h) (by omega));have hel:(cW b).length≤3000000:=by
  have:=(pJ b).2;unfold cW;simp;omega
 clear hrow hb0 hm;go_enter func105,ntmps105;go_wp2_with fail;refine(HT.o _ aP.o).mono ?_;rintro e w1 ⟨A1,c1,rfl,hr1,hg1⟩;have np:=aa hr1;have aN:=aa (sP aP.o hg1);have ml:=aa (dJ.o.grow hg1);have hz1:=hg1.size
 try simp only[dh] at hz1
 clear hr1 hg1;go_wp2_with (first | (at_builtin;refine fK (ys:=cW b) rfl (.tmp 80) (.tmp 83) _ rfl rfl ml.o _ rfl (ej dP np.o.reads.1 (gM _)) (by omega) (by first | omega | (simp only[dh];omega)) ?_;intro A2 c2 w2 hr2 hg2;have hz2:=hg2.size;have HG2:=aa (ct aN.o (ez (dU hg2 ml.o (by first | omega | (simp only[dh];omega))) (by omega)));have bI:=aa hr2;(try simp only[dh] at hz2);clear hr2 hg2) | fail);go_ret;exact fT.row (by rw[fk];rfl) (by rw[fk];simp;omega) (by omega) bI.o HG2.o
theorem ad7(w:World)(c:Cv)(b:List UInt8)(hv:In w (V.mk 6 0 b [] []) c)(hm:(V.mk 6 0 b [] []).key.length≤1000000) :
 Calls prog 105 #[c.agg] w (fT w (V.key (V.mk 6 0 b [] []))):=by
 obtain⟨aB,aL,aF,cB,cL,cF,rfl,h1,h2,h3,h4,h5,h6,h7,h8,h9,hb0⟩:=lu hv;have hz:(w.alloc (.cells #[.int .i64 6,.int .u64 0,.slice aB b.length cB,.slice aL 0 cL,.slice aF 0 cF] 27)).heap.size=w.heap.size+1:=by simp
 have hrow:=wR (w:=w.alloc (.cells #[.int .i64 6,.int .u64 0,.slice aB b.length cB,.slice aL 0 cL,.slice aF 0 cF] 27)) 80 (e:=80) rfl;rw[hz] at hrow;have dJ:=aa hrow;have yU:=ad0;have bf:=aa ((aH w 27 #[.int .i64 6,.int .u64 0,.slice aB b.length cB,.slice aL 0 cL,.slice aF 0 cF]).alloc (.cells #[.int .u8 80] 5));have aP:=aa (((ah w).alloc (.cells #[.int .i64 6,.int .u64 0,.slice aB b.length cB,.slice aL 0 cL,.slice aF 0 cF] 27)).alloc (.cells #[.int .u8 80] 5));have hbl:b.length≤1000000:=by
  rw[fk] at hm;have:=(pJ b).1;simp[cW] at hm;omega
 have HT:=aa (fun w' (h:Grow w w')=>Pg b aB cB w' (zY hb0 h) (by omega));have hel:(cW b).length≤3000000:=by
  have:=(pJ b).2;unfold cW;simp;omega
 clear hrow hb0 hm;go_enter func105,ntmps105;go_wp2_with fail;refine(HT.o _ aP.o).mono ?_;rintro e w1 ⟨A1,c1,rfl,hr1,hg1⟩;have np:=aa hr1;have aN:=aa (sP aP.o hg1);have ml:=aa (dJ.o.grow hg1);have hz1:=hg1.size
 try simp only[dh] at hz1
 clear hr1 hg1;go_wp2_with (first | (at_builtin;refine fK (ys:=cW b) rfl (.tmp 80) (.tmp 83) _ rfl rfl ml.o _ rfl (ej dP np.o.reads.1 (gM _)) (by omega) (by first | omega | (simp only[dh];omega)) ?_;intro A2 c2 w2 hr2 hg2;have hz2:=hg2.size;have HG2:=aa (ct aN.o (ez (dU hg2 ml.o (by first | omega | (simp only[dh];omega))) (by omega)));have bI:=aa hr2;(try simp only[dh] at hz2);clear hr2 hg2) | fail);go_ret;exact fT.row (by rw[fk];rfl) (by rw[fk];simp;omega) (by omega) bI.o HG2.o
theorem ad8(w:World)(c:Cv)(n:Nat)(hv:In w (V.mk 4 n [] [] []) c)(oC:dX n=true) :
 Calls prog 105 #[c.agg] w (fT w (V.key (V.mk 4 n [] [] []))):=by
 obtain⟨aB,aL,aF,cB,cL,cF,rfl,h1,h2,h3,h4,h5,h6,h7,h8,h9,hb0⟩:=lu hv;have hz:(w.alloc (.cells #[.int .i64 4,.int .u64 n,.slice aB 0 cB,.slice aL 0 cL,.slice aF 0 cF] 27)).heap.size=w.heap.size+1:=by simp
 have hrow:=wR (w:=w.alloc (.cells #[.int .i64 4,.int .u64 n,.slice aB 0 cB,.slice aL 0 cL,.slice aF 0 cF] 27)) 48 (e:=48) rfl;rw[hz] at hrow;have dJ:=aa hrow;have yU:=V_;have bf:=aa ((aH w 27 #[.int .i64 4,.int .u64 n,.slice aB 0 cB,.slice aL 0 cL,.slice aF 0 cF]).alloc (.cells #[.int .u8 48] 5));have aP:=aa (((ah w).alloc (.cells #[.int .i64 4,.int .u64 n,.slice aB 0 cB,.slice aL 0 cL,.slice aF 0 cF] 27)).alloc (.cells #[.int .u8 48] 5));have hnb:=V8 n h3;rw[oC] at hnb;have ky:=aa hnb;have hx1:bits .and .u64 ((n:Int) / 4503599627370496) 2047=((n / 4503599627370496 % 2048:Nat):Int):=by
  have h:=u64_and_nat (n / 4503599627370496) 2047 (by omega) (by decide);rw[show (n / 4503599627370496) &&& 2047=n / 4503599627370496 % 2048 from Cs _ 11] at h;rw[← h];rfl
 have hx2:bits .and .u64 (n:Int) 4503599627370495=((n % 4503599627370496:Nat):Int):=by
  have h:=u64_and_nat n 4503599627370495 h3 (by decide);rw[show n &&& 4503599627370495=n % 4503599627370496 from Cs _ 52] at h;exact h
 have HT:=aa (fun w=>Pf n w h3);have HH:=aa (fun w=>Ds (eT n) 8 w (by omega) (AK n h3));have Wd:=aa (fun w=>Ds n 8 w (by omega) h3);obtain⟨E,hE⟩:∃E,n / 4503599627370496 % 2048=E:=⟨_,rfl⟩;obtain⟨M,hM⟩:∃M,n % 4503599627370496=M:=⟨_,rfl⟩;rw[hE] at hx1;rw[hM] at hx2;rw[hE,hM] at ky;clear hrow hb0 hnb hE hM;have Pp:E=2047∧M≠0:=by
  have h:=ky.o.symm;rw[gV,iy,iy] at h;exact h
 obtain⟨rfl,hM0⟩:=Pp;have Uf:((M:Int) != 0)=true:=by simpa using hM0
 have hbl:(be 8 n).length=8:=fS _ _;go_enter func105,ntmps105;go_upto_region 12 with fail;have yX:=aa dJ.o;have We:=aa aP.o;change Code.wp _ _ _ _ ((w.alloc (.cells #[.int .i64 4,.int .u64 n,.slice aB 0 cB,.slice aL 0 cL,.slice aF 0 cF] 27)).alloc (.cells #[.int .u8 48] 5));generalize (w.alloc (.cells #[.int .i64 4,.int .u64 n,.slice aB 0 cB,.slice aL 0 cL,.slice aF 0 cF] 27)).alloc (.cells #[.int .u8 48] 5)=wr at yX We bf ⊢;have Dv:w.heap.size+1≤wr.heap.size:=bf.o.lt;have iN:=aa (show ∀W',Below (w.heap.size+1) wr W'→W'.cell? ⟨w.heap.size,1,none⟩=some (.int .u64 n) from fun W' h=>(Blk.below bf.o h (by omega)).cell 1);refine dN ?_
 refine dO (S:=fun w'=>w'.cell? ⟨w.heap.size,1,none⟩=some (.int .u64 n)) (by kernel_rfl) (iN.o _ (zM (j3 _ _))) (fun hHeld=>?_);refine aj 0 ?_;refine aj 3 ?_;refine aj 4 ?_;have hb:Below (w.heap.size+1) wr wr.drew:=zM (j3 _ _);clear hHeld;have hr:=yX.o.drew;have hz:w.heap.size+1≤wr.drew.heap.size:=Dv;generalize wr.drew=mQ at hb hr hz ⊢;refine b_ [1] ?_;refine bl rfl (fun K hK=>?_) bZ;go_simp;have hl:=aH mQ 5 #[.int .u8 0];replace hb:=nT hb hz (.cells #[.int .u8 0] 5);replace hr:=Row.alloc hr (.cells #[.int .u8 0] 5);replace hz:w.heap.size+1≤(mQ.alloc (.cells #[.int .u8 0] 5)).heap.size:=by rw[dh];omega
 refine hK.out _ _ (iN.o _ hb) (fun hHeld=>?_);clear hK K hHeld
 try simp only[ak]
 generalize mQ.alloc (.cells #[.int .u8 0] 5)=vH at hl hb hz hr ⊢;generalize mQ.heap.size=gl at hl ⊢;refine b_ [2] ?_;refine bl rfl (fun K hK=>?_) bZ;refine n_ (ys:=[0]) (by rfl) (.tmp 59) (.tmp 60) _ (by rfl) (by rfl) hr _ (by rfl) (j6 0 rfl hl) (by simp only[aU,bn];omega) hz ?_;intro A1 c1 Dw hr2 hg2;replace hb:=ct hb (dU hg2 hr hz);replace hz:=a_ hz hg2.size;clear hr hg2 hl;have hr:=hr2;clear hr2;refine hK.out _ _ (iN.o _ hb) (fun hHeld=>?_);clear hK K hHeld
 try simp only[ak]
 refine b_ [5] ?_;refine bl rfl (fun K hK=>?_) bZ;go_simp;refine(Wd.o _).mono ?_;rintro e KE ⟨A2,c2,rfl,hk,dS⟩;replace hr:=Cx hr dS;replace hb:=ct hb (ez dS hz);replace hz:=a_ hz dS.size
 try go_simp
 refine hK.out _ _ (iN.o _ hb) (fun hHeld=>?_);clear hK K hHeld dS
 try simp only[ak]
 refine b_ [6] ?_;refine bl rfl (fun K hK=>?_) bZ;refine n_ (ys:=be 8 n) (by rfl) (.tmp 61) (.tmp 64) _ (by rfl) (by rfl) hr _ (by rfl) (ej dP hk.reads.1 (gM _)) (by first | omega | (simp only[aU,bn];omega)) hz ?_;intro A3 c3 Pq hr3 hg3;replace hb:=ct hb (dU hg3 hr hz);replace hz:=a_ hz hg3.size;refine hK.out _ _ (iN.o _ hb) (fun hHeld=>?_);clear hK K hr hk hg3
 try simp only[ak]
 refine aj 7 ?_;refine cz ?_;clear hHeld;have d_:=aa hr3;have aX:=aa hb;clear hr3 hb;go_wp2_with fail;go_ret;exact fT.row (by rw[fk];simp[ki,oC]) (by rw[fk];simp[ki,oC,fS]) (fg _) d_.o (ct We.o (ez aX.o (fg _)))
theorem ad9(w:World)(c:Cv)(n:Nat)(hv:In w (V.mk 4 n [] [] []) c)(oC:dX n=false) :
 Calls prog 105 #[c.agg] w (fT w (V.key (V.mk 4 n [] [] []))):=by
 obtain⟨aB,aL,aF,cB,cL,cF,rfl,h1,h2,h3,h4,h5,h6,h7,h8,h9,hb0⟩:=lu hv;have hz:(w.alloc (.cells #[.int .i64 4,.int .u64 n,.slice aB 0 cB,.slice aL 0 cL,.slice aF 0 cF] 27)).heap.size=w.heap.size+1:=by simp
 have hrow:=wR (w:=w.alloc (.cells #[.int .i64 4,.int .u64 n,.slice aB 0 cB,.slice aL 0 cL,.slice aF 0 cF] 27)) 48 (e:=48) rfl;rw[hz] at hrow;have dJ:=aa hrow;have yU:=V_;have bf:=aa ((aH w 27 #[.int .i64 4,.int .u64 n,.slice aB 0 cB,.slice aL 0 cL,.slice aF 0 cF]).alloc (.cells #[.int .u8 48] 5));have aP:=aa (((ah w).alloc (.cells #[.int .i64 4,.int .u64 n,.slice aB 0 cB,.slice aL 0 cL,.slice aF 0 cF] 27)).alloc (.cells #[.int .u8 48] 5));have hnb:=V8 n h3;rw[oC] at hnb;have ky:=aa hnb;have hx1:bits .and .u64 ((n:Int) / 4503599627370496) 2047=((n / 4503599627370496 % 2048:Nat):Int):=by
  have h:=u64_and_nat (n / 4503599627370496) 2047 (by omega) (by decide);rw[show (n / 4503599627370496) &&& 2047=n / 4503599627370496 % 2048 from Cs _ 11] at h;rw[← h];rfl
 have hx2:bits .and .u64 (n:Int) 4503599627370495=((n % 4503599627370496:Nat):Int):=by
  have h:=u64_and_nat n 4503599627370495 h3 (by decide);rw[show n &&& 4503599627370495=n % 4503599627370496 from Cs _ 52] at h;exact h
 have HT:=aa (fun w=>Pf n w h3);have HH:=aa (fun w=>Ds (eT n) 8 w (by omega) (AK n h3));have Wd:=aa (fun w=>Ds n 8 w (by omega) h3);obtain⟨E,hE⟩:∃E,n / 4503599627370496 % 2048=E:=⟨_,rfl⟩;obtain⟨M,hM⟩:∃M,n % 4503599627370496=M:=⟨_,rfl⟩;rw[hE] at hx1;rw[hM] at hx2;rw[hE,hM] at ky;clear hrow hb0 hnb hE hM;have Pp:E=2047→M=0:=fun hE=>by
  have h:=ky.o.symm;rw[hE,bT rfl,sK,jO] at h;exact Decidable.of_not_not h
 go_enter func105,ntmps105;by_cases hE:E=2047
 ·have hM:=Pp hE;subst hE hM;go_wp2_with (first | (at_builtin;refine fK (ys:=[1]) rfl (.tmp 66) (.tmp 67) _ rfl rfl (dJ.o.alloc _) _ rfl (j6 1 rfl (df (by simp) _ _)) (by simp only[fS,aU,bn]<;>omega) (by first | omega | (simp only[dh];omega)) ?_;intro A2 c2 w2 hr2 hg2;have hz2:=hg2.size;have HG2:=aa (ct (yw aP.o _) (ez (dU hg2 (dJ.o.alloc _) (by first | omega | (simp only[dh];omega))) (by omega)));have bI:=aa hr2;(try simp only[dh] at hz2);have Wf:=(hg2.blk (bf.o.alloc _) (p_ dJ.o bf.o (by decide))).cell;clear hr2 hg2) | fail);refine(HT.o _).mono ?_;rintro e w3 ⟨rfl,rfl⟩;go_wp2_with fail;refine(HH.o _).mono ?_;rintro e w4 ⟨A4,c4,rfl,hr4,hg4⟩;have cN:=aa hr4
  have bz:=aa (sP HG2.o hg4);have ml:=aa (bI.o.grow hg4);have wP:=hg4.size;clear hr4 hg4
  go_wp2_with (first | (at_builtin;refine fK (ys:=be 8 (eT n)) rfl (.tmp 69) (.tmp 73) _ rfl rfl ml.o _ rfl (ej dP cN.o.reads.1 (gM _)) (by simp only[fS,aU,bn]<;>omega) (by first | omega | (simp only[dh];omega)) ?_;intro A5 c5 w5 gZ cr;have sS:=cr.size;have bC:=aa (ct bz.o (ez (dU cr ml.o (by first | omega | (simp only[dh];omega))) (by omega)));have gP:=aa gZ;(try simp only[dh] at sS);clear gZ cr) | (at_builtin;refine fK (ys:=[0,0,1]) rfl (.tmp 74) (.tmp 75) _ rfl rfl (gP.o.alloc _) _ rfl (ej dP (ba.blk (xs:=[0,0,1]) (df (by simp) _ _)) (gM _)) (by simp only[fS,aU,bn]<;>omega) (by first | omega | (simp only[dh];omega)) ?_;intro A6 c6 w6 mI bU;have CN:=bU.size;have bR:=aa (ct (yw bC.o _) (ez (dU bU (gP.o.alloc _) (by first | omega | (simp only[dh];omega))) (by omega)));have wQ:=aa mI;(try simp only[dh] at CN);clear mI bU) | fail)
  go_ret;exact fT.row (by rw[fk];simp[ki,oC]) (by rw[fk];simp[ki,oC,fS]) (by omega) wQ.o bR.o
 have hEb:((E:Int)==2047)=false:=by simp;omega
 have hEn:¬ ((E:Int)=2047):=by omega
 go_wp2_with (first | (at_builtin;refine fK (ys:=[1]) rfl (.tmp 66) (.tmp 67) _ rfl rfl (dJ.o.alloc _) _ rfl (j6 1 rfl (df (by simp) _ _)) (by simp only[fS,aU,bn]<;>omega) (by first | omega | (simp only[dh];omega)) ?_;intro A2 c2 w2 hr2 hg2;have hz2:=hg2.size;have HG2:=aa (ct (yw aP.o _) (ez (dU hg2 (dJ.o.alloc _) (by first | omega | (simp only[dh];omega))) (by omega)));have bI:=aa hr2;(try simp only[dh] at hz2);have Wf:=(hg2.blk (bf.o.alloc _) (p_ dJ.o bf.o (by decide))).cell;clear hr2 hg2) | fail);refine(HT.o _).mono ?_;rintro e w3 ⟨rfl,rfl⟩;go_wp2_with fail;refine(HH.o _).mono ?_;rintro e w4 ⟨A4,c4,rfl,hr4,hg4⟩;have cN:=aa hr4;have bz:=aa (sP HG2.o hg4)
 have ml:=aa (bI.o.grow hg4);have wP:=hg4.size;clear hr4 hg4
 go_wp2_with (first | (at_builtin;refine fK (ys:=be 8 (eT n)) rfl (.tmp 69) (.tmp 73) _ rfl rfl ml.o _ rfl (ej dP cN.o.reads.1 (gM _)) (by simp only[fS,aU,bn]<;>omega) (by first | omega | (simp only[dh];omega)) ?_;intro A5 c5 w5 gZ cr;have sS:=cr.size;have bC:=aa (ct bz.o (ez (dU cr ml.o (by first | omega | (simp only[dh];omega))) (by omega)));have gP:=aa gZ;(try simp only[dh] at sS);clear gZ cr) | (at_builtin;refine fK (ys:=[0,0,1]) rfl (.tmp 74) (.tmp 75) _ rfl rfl (gP.o.alloc _) _ rfl (ej dP (ba.blk (xs:=[0,0,1]) (df (by simp) _ _)) (gM _)) (by simp only[fS,aU,bn]<;>omega) (by first | omega | (simp only[dh];omega)) ?_;intro A6 c6 w6 mI bU;have CN:=bU.size;have bR:=aa (ct (yw bC.o _) (ez (dU bU (gP.o.alloc _) (by first | omega | (simp only[dh];omega))) (by omega)));have wQ:=aa mI;(try simp only[dh] at CN);clear mI bU) | fail)
 go_ret;exact fT.row (by rw[fk];simp[ki,oC]) (by rw[fk];simp[ki,oC,fS]) (by omega) wQ.o bR.o
theorem ad_(w:World)(c:Cv)(l:List V)(hl:∀x∈l,Pn x)(hv:In w (V.mk 7 0 [] l []) c)(hm:(V.mk 7 0 [] l []).key.length≤1000000) :
 Calls prog 105 #[c.agg] w (fT w (V.key (V.mk 7 0 [] l []))):=by
 obtain⟨aB,aL,aF,cB,cL,cF,rfl,h1,h2,h3,h4,h5,h6,h7,h8,h9,hb0⟩:=lu hv;have hz:(w.alloc (.cells #[.int .i64 7,.int .u64 0,.slice aB 0 cB,.slice aL l.length cL,.slice aF 0 cF] 27)).heap.size=w.heap.size+1:=by simp
 have hrow:=wR (w:=w.alloc (.cells #[.int .i64 7,.int .u64 0,.slice aB 0 cB,.slice aL l.length cL,.slice aF 0 cF] 27)) 96 (e:=96) rfl;rw[hz] at hrow;have dJ:=aa hrow;have yU:=ad1;have bf:=aa ((aH w 27 #[.int .i64 7,.int .u64 0,.slice aB 0 cB,.slice aL l.length cL,.slice aF 0 cF]).alloc (.cells #[.int .u8 96] 5));have aP:=aa (((ah w).alloc (.cells #[.int .i64 7,.int .u64 0,.slice aB 0 cB,.slice aL l.length cL,.slice aF 0 cF] 27)).alloc (.cells #[.int .u8 96] 5));have HV:=aa hv;have Hl:=aa hl;have ig:(l.map V.dY).flatten.length≤1000000:=by
  rw[fk] at hm;simp only[show ¬ ((7:Int)=1) by decide,show ¬ ((7:Int)=2) by decide,show ¬ ((7:Int)=3) by decide,show ¬ ((7:Int)=4) by decide,show ¬ ((7:Int)=5) by decide,show ¬ ((7:Int)=6) by decide,iJ,iK,aU,bD] at hm;omega
 clear hrow hb0 hm hl;go_enter func105,ntmps105;go_wp2_with fail;go_loopg [3,6] (l.length+1) (fun gk v' i wr=>∃(j:Nat) (A':Option Addr) (c':Nat),j≤l.length∧gk+j=l.length+1∧i=.int .i64 j∧v'=.slice A' (1+((l.take j).map V.dY).flatten.length) c'∧Row wr (w.heap.size+1) (.slice A' (1+((l.take j).map V.dY).flatten.length) c') (1+((l.take j).map V.dY).flatten.length) (96::((l.take j).map V.dY).flatten)∧Grow w wr∧Blk wr w.heap.size 27 #[.int .i64 7,.int .u64 0,.slice aB 0 cB,.slice aL l.length cL,.slice aF 0 cF]);exact⟨0,_,_,aS _,by omega,rfl,rfl,dJ.o,aP.o,bf.o⟩;obtain⟨j,A',c',hj,hg,rfl,rfl,hr,hgr,hB⟩:=hrel;obtain⟨gk',rfl⟩:=bP gk (by omega);have hc:=hB.cell;have l8:=aa hB;have Dv:w.heap.size+1≤wr.heap.size:=hB.lt;by_cases hlt:j<l.length
 ·obtain⟨bk,o,x,ha,hbk,e0,e1,e2,e3,e4,hx⟩:=HV.o.fJ j hlt;dsimp only at ha;subst ha;have hcb:∀i,wr.cell? ⟨bk,i,none⟩=w.cell? ⟨bk,i,none⟩:=fun i=>hgr.below.cell (p:=⟨bk,i,none⟩) hbk
  rw[← hcb] at e0 e1 e2 e3 e4;have bG:=yr V.dY l j hlt;have hm2:=cT List.length bG;rw[bD] at hm2;have hle:=yt V.dY l (j+1);rw[hm2] at hle;have hkl:(V.dY l[j]).length=1+l[j].key.length:=by unfold V.dY;simp;omega
  rw[hkl] at hm2 hle;have iC:=aa bG;have l_:=aa hm2;have ru:=aa hgr;have HX:=aa hx;obtain⟨S,hS⟩:∃S,S=((l.take j).map V.dY).flatten:=⟨_,rfl⟩;have yX:=aa hr;rw[← hS] at hle yX iC l_ ⊢
  have iN:=aa (show ∀W',Below (w.heap.size+1) wr W'→(fun w'=>w'.cell? ⟨w.heap.size,3,none⟩=some (.slice (some ⟨bk,o,none⟩) l.length cL)∧w'.cell? ⟨bk,o+j*5,none⟩=some (.int .i64 x.k)∧w'.cell? ⟨bk,o+j*5+1,none⟩=some (.int .u64 x.n)∧w'.cell? ⟨bk,o+j*5+2,none⟩=some (.slice x.aB x.nB x.cB)∧w'.cell? ⟨bk,o+j*5+3,none⟩=some (.slice x.aL x.nL x.cL)∧w'.cell? ⟨bk,o+j*5+4,none⟩=some (.slice x.aF x.nF x.cF)) W' from fun W' h=>⟨(h.cell (by show w.heap.size<_;omega)).trans (hc 3),(h.cell (by show bk<_;omega)).trans e0,(h.cell (by show bk<_;omega)).trans e1,(h.cell (by show bk<_;omega)).trans e2,(h.cell (by show bk<_;omega)).trans e3,(h.cell (by show bk<_;omega)).trans e4⟩)
  have js:=aa (fun W' (h:Below (w.heap.size+1) wr W')=>Hl.o _ (aY hlt) W' x (HX.o.grow (ct ru.o (ez h (fg _)))) (by omega));clear hr hgr hx bG hm2 hS hB e0 e1 e2 e3 e4 hcb;go_upto_region 22 with fail;refine dN ?_;refine dO (S:=fun w'=>w'.cell? ⟨w.heap.size,3,none⟩=some (.slice (some ⟨bk,o,none⟩) l.length cL)∧w'.cell? ⟨bk,o+j*5,none⟩=some (.int .i64 x.k)∧w'.cell? ⟨bk,o+j*5+1,none⟩=some (.int .u64 x.n)∧w'.cell? ⟨bk,o+j*5+2,none⟩=some (.slice x.aB x.nB x.cB)∧w'.cell? ⟨bk,o+j*5+3,none⟩=some (.slice x.aL x.nL x.cL)∧w'.cell? ⟨bk,o+j*5+4,none⟩=some (.slice x.aF x.nF x.cF)) (by kernel_rfl) (iN.o _ (zM (j3 _ _))) (fun hHeld=>?_)
  refine aj 0 (hy:=bj fun w ax=>by (try obtain⟨hs0,hs1,hs2,hs3,hs4,hs5⟩:=ax);go_simp;try rfl) ?_;refine aj 3 (hy:=bj fun w ax=>by (try obtain⟨hs0,hs1,hs2,hs3,hs4,hs5⟩:=ax);go_simp;try rfl) ?_;refine aj 4 (hy:=bj fun w ax=>by (try obtain⟨hs0,hs1,hs2,hs3,hs4,hs5⟩:=ax);go_simp;try rfl) ?_;refine aj 5 (hy:=bj fun w ax=>by (try obtain⟨hs0,hs1,hs2,hs3,hs4,hs5⟩:=ax);go_simp;try rfl) ?_;refine aj 6 (hy:=bj fun w ax=>by (try obtain⟨hs0,hs1,hs2,hs3,hs4,hs5⟩:=ax);go_simp;try rfl) ?_;refine aj 7 (hy:=bj fun w ax=>by (try obtain⟨hs0,hs1,hs2,hs3,hs4,hs5⟩:=ax);go_simp;try rfl) ?_;have hb:Below (w.heap.size+1) wr wr.drew:=zM (j3 _ _);clear hHeld;have hr:=yX.o.drew;have hz:w.heap.size+1≤wr.drew.heap.size:=Dv;generalize wr.drew=mQ at hb hr hz ⊢
  refine b_ [1] ?_;refine bl rfl (fun K hK=>?_) bZ;go_simp;have hl:=aH mQ 5 #[.int .u8 1];replace hb:=nT hb hz (.cells #[.int .u8 1] 5);replace hr:=Row.alloc hr (.cells #[.int .u8 1] 5);replace hz:w.heap.size+1≤(mQ.alloc (.cells #[.int .u8 1] 5)).heap.size:=by rw[dh];omega
  refine hK.out _ _ (iN.o _ hb) (fun hHeld=>?_);clear hK K hHeld
  try simp only[ak]
  generalize mQ.alloc (.cells #[.int .u8 1] 5)=vH at hl hb hz hr ⊢;generalize mQ.heap.size=gl at hl ⊢;refine b_ [2] ?_;refine bl rfl (fun K hK=>?_) bZ;refine n_ (ys:=[1]) (by rfl) (.tmp 94) (.tmp 95) _ (by rfl) (by rfl) hr _ (by rfl) (j6 1 rfl hl) (by simp only[aU,bn];omega) hz ?_;intro A1 c1 Dw hr2 hg2;replace hb:=ct hb (dU hg2 hr hz);replace hz:=a_ hz hg2.size;clear hr hg2 hl;have hr:=hr2;clear hr2;refine hK.out _ _ (iN.o _ hb) (fun hHeld=>?_);clear hK K hHeld
  try simp only[ak]
  refine b_ [8] ?_;refine bl rfl (fun K hK=>?_) bZ;go_simp;refine(js.o _ hb).mono ?_;rintro e KE ⟨A2,c2,rfl,hk,dS⟩;replace hr:=Cx hr dS;replace hb:=ct hb (ez dS hz);replace hz:=a_ hz dS.size
  try go_simp
  refine hK.out _ _ (iN.o _ hb) (fun hHeld=>?_);clear hK K hHeld dS
  try simp only[ak]
  refine b_ [9] ?_;refine bl rfl (fun K hK=>?_) bZ;refine n_ (ys:=l[j].key) (by rfl) (.tmp 96) (.tmp 102) _ (by rfl) (by rfl) hr _ (by rfl) (ej dP hk.reads.1 (gM _)) (by first | omega | (simp only[aU,bn];omega)) hz ?_;intro A3 c3 Pq hr3 hg3;replace hb:=ct hb (dU hg3 hr hz);replace hz:=a_ hz hg3.size;refine hK.out _ _ (iN.o _ hb) (fun hHeld=>?_);clear hK K hr hk hg3
  try simp only[ak]
  refine aj 10 (hy:=bj fun w ax=>by (try obtain⟨hs0,hs1,hs2,hs3,hs4,hs5⟩:=ax);go_simp;try rfl) ?_;refine cz ?_;clear hHeld;have d_:=aa hr3;have aX:=aa hb;clear hr3 hb;go_wp2_with fail;go_roundg gk';have e1:1+S.length+[1].length+l[j].key.length=1+((l.take (j+1)).map V.dY).flatten.length:=by rw[l_.o];simp;omega
  refine⟨j+1,A3,c3,by omega,by omega,by go_num,by rw[← e1];rfl,?_,ct ru.o (ez aX.o (fg _)),Blk.below l8.o aX.o (by omega)⟩;rw[← e1,iC.o];simpa [V.dY] using d_.o;omega
 obtain rfl:j=l.length:=by omega
 rw[fC] at hr ⊢;obtain⟨S,hS⟩:∃S,S=(l.map V.dY).flatten:=⟨_,rfl⟩;rw[← hS] at hr ig ⊢;have tz:=aa hS;have dJ:=aa hr;have aP:=aa hgr;clear hr hgr hB hS;go_wp2_with (first | (at_builtin;refine fK (ys:=[0]) rfl (.tmp 104) (.tmp 105) _ rfl rfl (dJ.o.alloc _) _ rfl (j6 0 rfl (df (by simp) _ _)) (by simp only[fS,aU,bn]<;>omega) (by first | omega | (simp only[dh];omega)) ?_;intro A7 c7 w7 ji bW;have AO:=bW.size;have aZ:=aa (ct (yw aP.o _) (ez (dU bW (dJ.o.alloc _) (by first | omega | (simp only[dh];omega))) (by omega)));have il:=aa ji;(try simp only[dh] at AO);clear ji bW) | fail);go_ret;have hkey:(V.mk 7 0 [] l []).key=96::(S++[0]):=by rw[fk,tz.o];rfl
 rw[hkey];exact fT.row (show 96::S++[0]=_ from rfl) (by simp only[aU,bD,bn];omega) (fg _) il.o aZ.o
theorem aea(w:World)(c:Cv)(f:List (ByteArray×V))(hl:∀x∈f,Pn x.2)(hv:In w (V.mk 8 0 [] [] f) c)(hm:(V.mk 8 0 [] [] f).key.length≤1000000) :
 Calls prog 105 #[c.agg] w (fT w (V.key (V.mk 8 0 [] [] f))):=by
 obtain⟨aB,aL,aF,cB,cL,cF,rfl,h1,h2,h3,h4,h5,h6,h7,h8,h9,hb0⟩:=lu hv;have hz:(w.alloc (.cells #[.int .i64 8,.int .u64 0,.slice aB 0 cB,.slice aL 0 cL,.slice aF f.length cF] 27)).heap.size=w.heap.size+1:=by simp
 have hrow:=wR (w:=w.alloc (.cells #[.int .i64 8,.int .u64 0,.slice aB 0 cB,.slice aL 0 cL,.slice aF f.length cF] 27)) 112 (e:=112) rfl;rw[hz] at hrow;have dJ:=aa hrow;have yU:=ad2;have bf:=aa ((aH w 27 #[.int .i64 8,.int .u64 0,.slice aB 0 cB,.slice aL 0 cL,.slice aF f.length cF]).alloc (.cells #[.int .u8 112] 5));have aP:=aa (((ah w).alloc (.cells #[.int .i64 8,.int .u64 0,.slice aB 0 cB,.slice aL 0 cL,.slice aF f.length cF] 27)).alloc (.cells #[.int .u8 112] 5));have HV:=aa hv;have Hl:=aa hl;have ig:(f.map V.dZ).flatten.length≤1000000:=by
  rw[fk] at hm;simp only[show ¬ ((8:Int)=1) by decide,show ¬ ((8:Int)=2) by decide,show ¬ ((8:Int)=3) by decide,show ¬ ((8:Int)=4) by decide,show ¬ ((8:Int)=5) by decide,show ¬ ((8:Int)=6) by decide,show ¬ ((8:Int)=7) by decide,iJ,iK,aU,bD] at hm;omega
 clear hrow hb0 hm hl;go_enter func105,ntmps105;go_wp2_with fail;go_loopg [3,7] (f.length+1) (fun gk v' i wr=>∃(j:Nat) (A':Option Addr) (c':Nat),j≤f.length∧gk+j=f.length+1∧i=.int .i64 j∧v'=.slice A' (1+((f.take j).map V.dZ).flatten.length) c'∧Row wr (w.heap.size+1) (.slice A' (1+((f.take j).map V.dZ).flatten.length) c') (1+((f.take j).map V.dZ).flatten.length) (112::((f.take j).map V.dZ).flatten)∧Grow w wr∧Blk wr w.heap.size 27 #[.int .i64 8,.int .u64 0,.slice aB 0 cB,.slice aL 0 cL,.slice aF f.length cF]);exact⟨0,_,_,aS _,by omega,rfl,rfl,dJ.o,aP.o,bf.o⟩;obtain⟨j,A',c',hj,hg,rfl,rfl,hr,hgr,hB⟩:=hrel;obtain⟨gk',rfl⟩:=bP gk (by omega);have hc:=hB.cell;have l8:=aa hB;have Dv:w.heap.size+1≤wr.heap.size:=hB.lt;by_cases hlt:j<f.length
 ·obtain⟨bk,o,x,ha,hbk,es,iA,e0,e1,e2,e3,e4,hx⟩:=HV.o.iR j hlt;dsimp only at ha;subst ha;have bG:=yr V.dZ f j hlt;have hm2:=cT List.length bG;rw[bD] at hm2;have hle:=yt V.dZ f (j+1);rw[hm2] at hle;have hkl:(V.dZ f[j]).length=1+((cW f[j].1.data.toList).length+f[j].2.key.length):=by unfold V.dZ;simp;omega
  rw[hkl] at hm2 hle;have iC:=aa bG;have l_:=aa hm2;have ru:=aa hgr;obtain⟨s,hs⟩:∃s,s=f[j].1:=⟨_,rfl⟩;obtain⟨y,hy⟩:∃y,y=f[j].2:=⟨_,rfl⟩;have Pr:=Hl.o _ (aY hlt);have CU:V.dZ f[j]=1::(cW s.data.toList++y.key):=by rw[hs,hy];rfl
  rw[CU] at iC;rw[← hs] at es iA hle l_;rw[← hy] at hx hle l_ Pr;have HLY:=aa Pr;have HX:=aa hx;have qb:=aa (show w.cell? ⟨bk,o+j*6,none⟩=some (.string s) from es);have nK:=aa e0;have KF:=aa e1;have HE2:=aa e2;have HE3:=aa e3;have HE4:=aa e4;obtain⟨S,hS⟩:∃S,S=((f.take j).map V.dZ).flatten:=⟨_,rfl⟩;have yX:=aa hr;rw[← hS] at hle yX iC l_ ⊢;have hel:s.data.toList.length≤(cW s.data.toList).length:=by unfold cW;rw[bD];have:=(pJ s.data.toList).1;omega
  have iN:=aa (show ∀W',Below (w.heap.size+1) wr W'→(fun w'=>w'.cell? ⟨w.heap.size,4,none⟩=some (.slice (some ⟨bk,o,none⟩) f.length cF)∧w'.cell? ⟨bk,o+j*6,none⟩=some (.string s)) W' from fun W' h=>⟨(h.cell (by show w.heap.size<_;omega)).trans (hc 4),(h.cell (by show bk<_;omega)).trans ((hgr.below.cell (p:=⟨bk,o+j*6,none⟩) hbk).trans qb.o)⟩);clear hr hgr hx bG hm2 hS hB e0 e1 e2 e3 e4 es hs hy CU Pr hkl;go_upto_region 28 with fail;refine dN ?_;refine dO (S:=fun w'=>w'.cell? ⟨w.heap.size,4,none⟩=some (.slice (some ⟨bk,o,none⟩) f.length cF)∧w'.cell? ⟨bk,o+j*6,none⟩=some (.string s)) (by kernel_rfl) (iN.o _ (zM (j3 _ _))) (fun hHeld=>?_);refine aj 0 (hy:=bj fun w ax=>by (try obtain⟨hs0,hs1⟩:=ax);go_simp;try rfl) ?_
  refine aj 3 (hy:=bj fun w ax=>by (try obtain⟨hs0,hs1⟩:=ax);go_simp;try rfl) ?_;refine aj 4 (hy:=bj fun w ax=>by (try obtain⟨hs0,hs1⟩:=ax);go_simp;try rfl) ?_;refine aj 5 (hy:=bj fun w ax=>by (try obtain⟨hs0,hs1⟩:=ax);go_simp;try rfl) ?_;refine aj 6 (hy:=bj fun w ax=>by (try obtain⟨hs0,hs1⟩:=ax);go_simp;try rfl) ?_;refine aj 7 (hy:=bj fun w ax=>by (try obtain⟨hs0,hs1⟩:=ax);go_simp;try rfl) ?_;refine aj 8 (hy:=bj fun w ax=>by (try obtain⟨hs0,hs1⟩:=ax);go_simp;try rfl) ?_;have hb:Below (w.heap.size+1) wr wr.drew:=zM (j3 _ _);clear hHeld;have hr:=yX.o.drew;have hz:w.heap.size+1≤wr.drew.heap.size:=Dv;generalize wr.drew=mQ at hb hr hz ⊢;refine adV (some 117) (some 118) (some 125) 1 2 9 (fun _ y z W=>CvC w wr (1+S.length) (112::S) 1 s.data.toList y z W) ?_ ?_
  rotate_left 1
  ·intro rest;simp only[ak] at rest;refine b_ [1,9] ?_;refine bl rfl (fun K hK=>?_) ?_
   ·go_simp;have hl:=aH mQ 5 #[.int .u8 1];replace hb:=nT hb hz (.cells #[.int .u8 1] 5);replace hr:=Row.alloc hr (.cells #[.int .u8 1] 5);replace hz:w.heap.size+1≤(mQ.alloc (.cells #[.int .u8 1] 5)).heap.size:=by rw[dh];omega
    refine hK.out _ _ (iN.o _ hb) (fun hHeld=>?_);clear hK K hHeld
    try simp only[ak]
    generalize mQ.alloc (.cells #[.int .u8 1] 5)=vH at hl hb hz hr ⊢;generalize mQ.heap.size=gl at hl ⊢;refine b_ [2,9] ?_;refine bl rfl (fun K hK=>?_) ?_
    ·refine n_ (ys:=[1]) (by rfl) (.tmp 116) (.tmp 117) _ (by rfl) (by rfl) hr _ (by rfl) (j6 1 rfl hl) (by simp only[aU,bn];omega) hz ?_;intro A1 c1 Dw hr2 hg2;replace hb:=ct hb (dU hg2 hr hz);replace hz:=a_ hz hg2.size;clear hr hg2 hl;have hr:=hr2;clear hr2;refine hK.out _ _ (iN.o _ hb) (fun hHeld=>?_);clear hK K hHeld
     try simp only[ak]
     refine b_ [9] ?_;refine bl rfl (fun K hK=>?_) bZ;obtain⟨cn,KE,hcv,hcn,dS,hv⟩:=Al Dw s;go_simp;replace hr:=Cx hr dS;replace hb:=ct hb (ez dS hz);replace hz:=a_ hz dS.size;refine hK.out _ _ (iN.o _ hb) (fun hHeld=>?_);clear hK K hHeld dS hcv
     try simp only[ak]
     generalize Dw.heap.size=gv at hv ⊢;exact rest _ _ _ _ ⟨A1,c1,cn,gv,rfl,rfl,hr,hcn,hv,hb⟩
    refine bl rfl (fun K hK=>?_) bZ;obtain⟨cn,Dw,hcv,hcn,dS,hv⟩:=Al vH s;go_simp;have Gt:∀k,Value.ownBlock (.slice A' (1+S.length) c')=some k→k<vH.heap.size:=fun k e1=>(bO hr k e1).2
    replace hr:=Cx hr dS;replace hl:=Blk.grow hl dS;replace hb:=ct hb (ez dS hz);replace hz:=a_ hz dS.size;refine hK.out _ _ (iN.o _ hb) (fun hHeld=>?_);clear hK K hHeld dS hcv
    try simp only[ak]
    generalize vH.heap.size=gv at hv Gt ⊢;refine b_ [2] ?_;refine bl rfl (fun K hK=>?_) bZ;refine n_ (ys:=[1]) (by rfl) (.tmp 116) (.tmp 117) _ (by rfl) (by rfl) hr _ (by rfl) (j6 1 rfl hl) (by simp only[aU,bn];omega) hz ?_;intro A1 c1 KE hr2 hg2;replace hv:=V9 hv hg2.grow Gt;replace hb:=ct hb (dU hg2 hr hz);replace hz:=a_ hz hg2.size;clear hr hg2 hl;have hr:=hr2;clear hr2;refine hK.out _ _ (iN.o _ hb) (fun hHeld=>?_);clear hK K hHeld
    try simp only[ak]
    rw[M6 (i:=9) (j:=2) _ _ (by decide)];exact rest _ _ _ _ ⟨A1,c1,cn,gv,rfl,rfl,hr,hcn,hv,hb⟩
   refine bl rfl (fun K hK=>?_) bZ;obtain⟨cn,vH,hcv,hcn,dS,hv⟩:=Al mQ s;go_simp;have Gt:∀k,Value.ownBlock (.slice A' (1+S.length) c')=some k→k<mQ.heap.size:=fun k e1=>(bO hr k e1).2
   replace hr:=Cx hr dS;replace hb:=ct hb (ez dS hz);replace hz:=a_ hz dS.size;refine hK.out _ _ (iN.o _ hb) (fun hHeld=>?_);clear hK K hHeld dS hcv
   try simp only[ak]
   generalize mQ.heap.size=gv at hv Gt ⊢;refine b_ [1] ?_;refine bl rfl (fun K hK=>?_) bZ;go_simp;have hl:=aH vH 5 #[.int .u8 1];replace hb:=nT hb hz (.cells #[.int .u8 1] 5);replace hr:=Row.alloc hr (.cells #[.int .u8 1] 5);replace hv:=zY hv ((ah _).alloc (.cells #[.int .u8 1] 5));replace hz:w.heap.size+1≤(vH.alloc (.cells #[.int .u8 1] 5)).heap.size:=by rw[dh];omega
   refine hK.out _ _ (iN.o _ hb) (fun hHeld=>?_);clear hK K hHeld
   try simp only[ak]
   generalize vH.alloc (.cells #[.int .u8 1] 5)=Dw at hl hb hz hr hv ⊢;generalize vH.heap.size=gl at hl ⊢;refine b_ [2] ?_;refine bl rfl (fun K hK=>?_) bZ;refine n_ (ys:=[1]) (by rfl) (.tmp 116) (.tmp 117) _ (by rfl) (by rfl) hr _ (by rfl) (j6 1 rfl hl) (by simp only[aU,bn];omega) hz ?_;intro A1 c1 KE hr2 hg2;replace hv:=V9 hv hg2.grow Gt;replace hb:=ct hb (dU hg2 hr hz);replace hz:=a_ hz hg2.size;clear hr hg2 hl;have hr:=hr2;clear hr2;refine hK.out _ _ (iN.o _ hb) (fun hHeld=>?_);clear hK K hHeld
   try simp only[ak]
   rw[M6 (i:=9) (j:=1) _ _ (by decide),M6 (i:=9) (j:=2) _ _ (by decide)];exact rest _ _ _ _ ⟨A1,c1,cn,gv,rfl,rfl,hr,hcn,hv,hb⟩
  clear hr hb hz;rintro x0 x1 x2 w30 ⟨A1,c1,cn,gv,rfl,rfl,hr,hcn,hv,hb⟩
  try simp only[ak]
  have hz:w.heap.size+1≤w30.heap.size:=a_ Dv hb.size;refine b_ [10] ?_;refine bl rfl (fun K hK=>?_) bZ;go_simp;refine(Pg s.data.toList (some ⟨gv,0,none⟩) cn _ hv (by omega)).mono ?_;rintro e w31 ⟨A2,c2,rfl,hk,dS⟩;replace hr:=Cx hr dS;replace hb:=ct hb (ez dS hz);replace hz:=a_ hz dS.size
  try go_simp
  refine hK.out _ _ (iN.o _ hb) (fun hHeld=>?_);clear hK K hHeld dS
  try simp only[ak]
  refine b_ [11] ?_;refine bl rfl (fun K hK=>?_) bZ;refine n_ (ys:=cW s.data.toList) (by rfl) (.tmp 118) (.tmp 126) _ (by rfl) (by rfl) hr _ (by rfl) (ej dP hk.reads.1 (gM _)) (by first | omega | (simp only[aU,bn];omega)) hz ?_;intro A3 c3 Pq hr3 hg3;replace hb:=ct hb (dU hg3 hr hz);replace hz:=a_ hz hg3.size;refine hK.out _ _ (iN.o _ hb) (fun hHeld=>?_);clear hK K hr hk hg3
  try simp only[ak]
  refine aj 12 (hy:=bj fun w ax=>by (try obtain⟨hs0,hs1⟩:=ax);go_simp;try rfl) ?_;refine cz ?_;clear hHeld;have d_:=aa hr3;have aX:=aa hb;clear hr3 hb;have bC:=aa (ct ru.o (ez aX.o (fg _)));have ay:=aa (Blk.below l8.o aX.o (by omega));have E_:=ay.o.cell;have e0:=(bC.o.cell (p:=⟨bk,o+j*6+1,none⟩) hbk).trans nK.o;have e1:=(bC.o.cell (p:=⟨bk,o+j*6+1+1,none⟩) hbk).trans KF.o;have e2:=(bC.o.cell (p:=⟨bk,o+j*6+1+2,none⟩) hbk).trans HE2.o;have e3:=(bC.o.cell (p:=⟨bk,o+j*6+1+3,none⟩) hbk).trans HE3.o;have e4:=(bC.o.cell (p:=⟨bk,o+j*6+1+4,none⟩) hbk).trans HE4.o;clear hc;go_wp2_with fail;refine(HLY.o Pq x (HX.o.grow bC.o) (by omega)).mono ?_;rintro e w60 ⟨A6,c6,rfl,mI,bU⟩;have wQ:=aa mI
  have bR:=aa (sP bC.o bU);have ml:=aa (d_.o.grow bU);have ma:=aa (ay.o.grow bU);have CN:=bU.size;clear mI bU e0 e1 e2 e3 e4 E_;go_wp2_with (first | (at_builtin;refine fK (ys:=y.key) rfl (.tmp 128) (.tmp 135) _ rfl rfl ml.o _ rfl (ej dP wQ.o.reads.1 (gM _)) (by first | omega | (simp only[aU,bn];omega)) (by first | omega | (simp only[dh];omega)) ?_;intro A7 c7 w7 ji bW;have AO:=bW.size;have aZ:=aa (ct bR.o (ez (dU bW ml.o (by first | omega | (simp only[dh];omega))) (by omega)));have il:=aa ji;(try simp only[dh] at AO);have jf:=aa (bW.blk ma.o (p_ ml.o ma.o (by decide)));clear ji bW) | fail);go_roundg gk'
  have e1:1+S.length+[1].length+(cW s.data.toList).length+y.key.length=1+((f.take (j+1)).map V.dZ).flatten.length:=by rw[l_.o];simp only[aU,bn];omega
  refine⟨j+1,A7,c7,by omega,by omega,by go_num,by rw[← e1];rfl,?_,aZ.o,jf.o⟩;rw[← e1,iC.o];simpa using il.o;omega
 obtain rfl:j=f.length:=by omega
 rw[fC] at hr ⊢;obtain⟨S,hS⟩:∃S,S=(f.map V.dZ).flatten:=⟨_,rfl⟩;rw[← hS] at hr ig ⊢;have tz:=aa hS;have dJ:=aa hr;have aP:=aa hgr;clear hr hgr hB hS;go_wp2_with (first | (at_builtin;refine fK (ys:=[0]) rfl (.tmp 137) (.tmp 138) _ rfl rfl (dJ.o.alloc _) _ rfl (j6 0 rfl (df (by simp) _ _)) (by simp only[fS,aU,bn]<;>omega) (by first | omega | (simp only[dh];omega)) ?_;intro A7 c7 w7 ji bW;have AO:=bW.size;have aZ:=aa (ct (yw aP.o _) (ez (dU bW (dJ.o.alloc _) (by first | omega | (simp only[dh];omega))) (by omega)));have il:=aa ji;(try simp only[dh] at AO);clear ji bW) | fail);go_ret;have hkey:(V.mk 8 0 [] [] f).key=112::(S++[0]):=by rw[fk,tz.o];rfl
 rw[hkey];exact fT.row (show 112::S++[0]=_ from rfl) (by simp only[aU,bD,bn];omega) (fg _) il.o aZ.o
theorem aeb(v:V):v.formed=true→Pn v:=by
 induction v using V.ind with
 | h k n b l f hl hf =>
  intro fh w c hv hm;rcases u_ fh with h | ⟨_,_,h⟩ | ⟨_,h⟩ | ⟨_,h⟩ | ⟨_,_,h⟩ | ⟨_,h⟩ | ⟨l',hl',h⟩ | ⟨f',hf',hnd,h⟩
  ·cases h;exact ad3 w c hv
  ·cases h;exact ad4 w c _ hv
  ·cases h;exact ad5 w c _ hv
  ·cases h
   by_cases hn:dX n=true
   ·exact ad8 w c _ hv hn
   exact ad9 w c _ hv (by simpa using hn)
  ·cases h;exact ad6 w c _ hv hm
  ·cases h;exact ad7 w c _ hv hm
  ·cases h;exact ad_ w c _ (fun x hx=>hl x hx (hl' x hx)) hv hm
  cases h;exact aea w c _ (fun x hx=>hf x hx (hf' x hx).2) hv hm
theorem aec(v:V)(c:Cv)(hg:v.good=0):∀W,In W v c→Calls prog 105 #[c.agg] W (fT W v.key):=fun W hv=>by
 have hf:=mJ hg;have hk:=UJ v hf.1;exact aeb v hf.1 W c hv (by have:=hf.2;omega)
end
abbrev alQ:=@fT.row
section
open Go.Shelf Go.RowKit Go.Lib Go.Sort
theorem Grow.trans'{a b c:World}(h:Grow a b)(k:Below a.heap.size b c):Grow a c:=ct h k
def AtY(Y:Nat→Prop)(w:World)(dG:Nat)(p:Addr)(u:Value):Prop:=w.cell? p=some u∧p.block<dG∧¬ Y p.block
abbrev kT(Y:Nat→Prop)(w:World)(dG:Nat)(v:V)(c:Cv):Prop:=IsV (AtY Y w dG) v c
theorem kT.keep{Y K:Nat→Prop}{w w':World}{dG:Nat}{v:V}{c:Cv}(h:kT Y w dG v c)(hk:Kept K w w')(hd:dG≤w.heap.size)(hs:∀q,K q→dG≤q):kT Y w' dG v c:=
 iL (fun p u hp=>⟨(uQ (hk.block p.block (cU hp.2.1 hd) (fun hq=>by have:=hs _ hq;have:=hp.2.1;omega))).trans hp.1,hp.2.1,hp.2.2⟩) _ _ h
theorem kT.below{Y:Nat→Prop}{w w':World}{dG:Nat}{v:V}{c:Cv}(h:kT Y w dG v c)(hg:Grow w w')(hd:dG≤w.heap.size):kT Y w' dG v c:=kT.keep h (jh (S:=fun _=>False) hg) hd (fun _ h=>h.elim)
theorem kT.nj{Y:Nat→Prop}{w:World}{dG:Nat}{v:V}{c:Cv}(h:kT Y w dG v c)(hd:dG≤w.heap.size):In w v c:=iL (fun p u hp=>⟨hp.1,aS _,cU hp.2.1 hd⟩) _ _ h
theorem kT.fJ{Y:Nat→Prop}{w:World}{hi:Nat}{k:Int}{n:Nat}{b:List UInt8}{l:List V}{f:List (ByteArray×V)}{c:Cv}(h:kT Y w hi (.mk k n b l f) c)(i:Nat)(hil:i<l.length) :
 ∃bk o x,c.aL=some ⟨bk,o,none⟩∧bk<hi∧w.cell? ⟨bk,o+i*5,none⟩=some (.int .i64 x.k)∧w.cell? ⟨bk,o+i*5+1,none⟩=some (.int .u64 x.n) ∧
  w.cell? ⟨bk,o+i*5+2,none⟩=some (.slice x.aB x.nB x.cB)∧w.cell? ⟨bk,o+i*5+3,none⟩=some (.slice x.aL x.nL x.cL) ∧
  w.cell? ⟨bk,o+i*5+4,none⟩=some (.slice x.aF x.nF x.cF)∧kT Y w hi l[i] x:=by
 unfold kT at h;rw[IsV] at h;obtain⟨bk,o,x,e,⟨h0,h1,h2,h3,h4⟩,hx⟩:=h.2.2.2.2.2.2.2.2.2.2.2.2.2.2.2.1 i hil;exact⟨bk,o,x,e,h0.2.1,h0.1,h1.1,h2.1,h3.1,h4.1,hx⟩
structure xo (Y:Nat→Prop) (w:World) (lo dG:Nat) (e:iO) (x:EN):Prop where
 b:e.b=x.1
 sz:e.sz=x.2.1
 doc:kT Y w dG x.2.2 e.d
 row:∃base,lo≤base∧Row w base (.slice e.A e.b.length e.c) e.b.length e.b
def cellsE(es:List iO):List Value:=(es.map fun e=>e.cells.toList).flatten
theorem KG(es:List iO):(cellsE es).length=es.length*7:=De _ 7 (fun _=>rfl) es
theorem xo.keep{S:Nat→Prop}{w w':World}{Y:Nat→Prop}{lo dG:Nat}{e:iO}{x:EN}(h:xo Y w lo dG e x)(hk:Kept S w w')(hlo:lo≤w.heap.size)(dE:dG≤lo)(hs:∀q,S q→lo≤q)(hd:∀g,bM e.A=some g→¬ S g):xo Y w' lo dG e x:=by
 obtain⟨base,hb,hr⟩:=h.row;exact⟨h.b,h.sz,kT.keep h.doc hk (a_ dE hlo) (fun q hq=>a_ dE (hs q hq)),base,hb,gD hr hk hd⟩
theorem xo.grow{w w':World}{Y:Nat→Prop}{lo dG:Nat}{e:iO}{x:EN}(h:xo Y w lo dG e x)(hg:Grow w w')(hlo:lo≤w.heap.size)(dE:dG≤lo):xo Y w' lo dG e x:=
 h.keep (jh (S:=fun _=>False) hg) hlo dE (fun _ h=>h.elim) (fun _ _ h=>h)
structure nM (Y:Nat→Prop) (w:World) (lo dG:Nat) (A:Option Addr) (c:Nat) (es:List iO) (l:List EN):Prop where
 row:w.ownsRow lo 115 7 (.slice A es.length c) es.length (cellsE es)
 two:Two (xo Y w lo dG) es l
 dl:dG≤lo
theorem nM.ne{w:World}{Y:Nat→Prop}{lo dG c:Nat}{A:Option Addr}{es:List iO}{l:List EN}(h:nM Y w lo dG A c es l){e:iO}{x:EN}(he:xo Y w lo dG e x):∀g,bM e.A=some g→¬ Value.ownBlock (.slice A es.length c)=some g:=by
 intro g hg hA;obtain⟨base,hb,hr⟩:=he.row;rw[cE] at hA;exact Di h.row hr (by decide) g hA hg
theorem nM.grow{w w':World}{Y:Nat→Prop}{lo dG c:Nat}{A:Option Addr}{es:List iO}{l:List EN}(h:nM Y w lo dG A c es l)(hg:Grow w w')(hlo:lo≤w.heap.size):nM Y w' lo dG A c es l:=
 ⟨kr h.row hg,h.two.mono fun e x he=>he.grow hg hlo h.dl,h.dl⟩
theorem nM.add{w w':World}{Y:Nat→Prop}{lo dG c c':Nat}{A A':Option Addr}{es:List iO}{l:List EN}(h:nM Y w lo dG A c es l)(hlo:lo≤w.heap.size){e:iO}{x:EN}(he:xo Y w lo dG e x)
 (hr:w'.ownsRow lo 115 7 (.slice A' (es.length+1) c') (es.length+1) (cellsE es++e.cells.toList)) (hg:w.grownBy w' (Value.ownBlock (.slice A es.length c))):nM Y w' lo dG A' c' (es++[e]) (l++[x]):=by
 have hk:=Gr hg;have hS:∀q,Value.ownBlock (.slice A es.length c)=some q→lo≤q:=fun q hq=>(bO h.row q hq).1
 refine⟨?_,(Two.append (h.two.mono fun e x he=>he.keep hk hlo h.dl hS (h.ne he)) (Two.one (he.keep hk hlo h.dl hS (h.ne he)))),h.dl⟩;rw[bD,MR,cellsE,lZ,zP,eW,mZ,l5,Jj,mD];exact hr
theorem nM.nil(Y:Nat→Prop)(w:World)(lo dG:Nat)(h:dG≤lo):nM Y w lo dG none 0 [] []:=⟨iH _ _ _ _,Two.nil,h⟩
def Ps(Y:Nat→Prop)(w:World)(dG:Nat)(path:ByteArray)(ag:List V)(e:Ending)(w':World):Prop:=
 Grow w w'∧((fW path ag≠0∧e=.returned (.tuple #[.slice none 0 0,.int .i64 (fW path ag)])) ∨
  (fW path ag=0∧∃A c es,e=.returned (.tuple #[.slice A (jr path ag).length c,.int .i64 0])∧nM Y w' w.heap.size dG A c es (jr path ag)))
theorem Wh:prog.underlying 111=some (.slice 115):=by kernel_rfl
theorem aed:(prog.info? 115).map (fun i=>(i.zero,i.size,i.bytes))=some (some (.agg #[.slice none 0 0,.int .i64 0,.int .i64 0,.int .u64 0,.slice none 0 0,.slice none 0 0,.slice none 0 0]),7,120):=by kernel_rfl
theorem Src.ent{w:World}(e:iO)(t:TypeId){g:Nat}(hg:g=w.heap.size):Src prog 7 111 (.slice (some ⟨g,0,none⟩) 1 1) 1 e.cells.toList (w.alloc (.cells e.cells t)):=by
 subst hg;exact Src.ofSlice _ Wh ⟨w.heap.size,0,none⟩ 1 1 _ rfl (fun j u hu=>by
  rw[add_lit,dg,(aH w t e.cells).cell j,← hu,pg]) (fun u hu=>by
  simp only[iw,wD,wE] at hu;rcases hu with rfl | rfl | rfl | rfl | rfl | rfl | rfl<;>rfl)
theorem aee{α:Type}[Inhabited α](enc:α→List Value)(k:Nat)(w:World)(g n:Nat)(d:Array α)(os:Array Obj){cur:Array Value}{T:TypeId}{fr:Nat×Nat}(hg:w.heap[g]?=some (.cells cur T fr)) :
 (sortWorldK enc k w g 0 n d os).heap[g]?=some (.cells (putCells id 0 (flatK enc k d) cur) T fr):=by
 have hl:=(pn.1 hg).1;unfold sortWorldK grow putRowK putRow mapBlock Sort.ahead;dsimp only;rw[Array.getElem?_append_left (by rw[Array.size_modify];exact hl),BX,ar rfl,hg];rfl
theorem aef{α:Type}[Inhabited α](enc:α→List Value)(k:Nat)(w:World)(g n:Nat)(d:Array α)(os:Array Obj){q:Nat}(hq:q<w.heap.size)(hne:q≠g) :
 (sortWorldK enc k w g 0 n d os).heap[q]?=w.heap[q]?:=by
 unfold sortWorldK grow putRowK putRow mapBlock Sort.ahead;dsimp only;rw[Array.getElem?_append_left (by rw[Array.size_modify];exact hq),BX,ai (fun e=>hne e.symm)]
theorem aeg{α:Type}[Inhabited α](enc:α→List Value)(k:Nat)(w:World)(g n:Nat)(d:Array α)(os:Array Obj):Kept (fun q=>q=g) w (sortWorldK enc k w g 0 n d os):=
 ⟨rfl,rfl,rfl,size_sortWorldK_c _ _ _ _ _ _ _ _,fun q hq hne=>aef enc k w g n d os hq hne⟩
theorem aeh{α β:Type}{R:α→β→Prop}{l m:List α}(hp:l.Perm m):∀{k:List β},Two R m k→∃k',k'.Perm k∧Two R l k':=by
 induction hp with
 | nil=>intro k h;exact⟨k,Cr _,h⟩
 | cons x hp ih =>
  intro k h
  cases k with
  | nil=>have:=h.1;simp at this
  | cons y k =>
   have hxy:R x y:=h.2 0 x y rfl rfl;have ht:Two R _ k:=⟨by have:=h.1;simpa using this,fun j a b ha hb=>h.2 (j+1) a b (by simpa using ha) (by simpa using hb)⟩;obtain⟨k',h1,h2⟩:=ih ht;exact⟨y::k',h1.cons y,Two.cons hxy h2⟩
 | swap x y l =>
  intro k h
  match k,h with
  | [],h=>have:=h.1;simp at this
  | [a],h=>have:=h.1;simp at this
  | a::b::k,h =>
   have h0:R x a:=h.2 0 x a rfl rfl;have h1:R y b:=h.2 1 y b rfl rfl;have ht:Two R l k:=⟨by have:=h.1;simpa using this,fun j c d hc hd=>h.2 (j+2) c d (by simpa using hc) (by simpa using hd)⟩;exact⟨b::a::k,List.Perm.swap a b k,Two.cons h1 (Two.cons h0 ht)⟩
 | trans _ _ ih1 ih2 =>
  intro k h;obtain⟨k1,p1,t1⟩:=ih2 h;obtain⟨k2,p2,t2⟩:=ih1 t1;exact⟨k2,p2.trans p1,t2⟩
theorem aei(Y:Nat→Prop)(lo dG c:Nat)(A:Option Addr)(es:List iO)(l:List EN)(w:World)(h:nM Y w lo dG A c es l)(hlo:lo≤w.heap.size)(hn:es.length<1152921504606846976) :
 Calls prog 107 #[.slice A es.length c,.func (.func 108) #[] #[]] w fun e w'=>e=.returned (.tuple #[])∧Below lo w w'∧∃es' l',nM Y w' lo dG A c es' l'∧l'.Perm l∧rL l':=by
 rcases uN es.length with h0 | h0
 ·rw[h0];refine(aej A c _ w).mono ?_;rintro e w' ⟨rfl,rfl⟩;have hes:es=[]:=j4 h0;subst hes;have hl:l=[]:=j4 h.two.1.symm;subst hl;exact⟨rfl,j3 _ _,[],[],h,Cr _,List.Pairwise.nil⟩
 obtain⟨g,cur,hA,hb,hg,hnc,hcm,hcs,ht,-⟩:=mP h.row h0;subst hA;have hin:∀e∈es,KH w g e:=fun e he=>by
  obtain⟨j,hj,rfl⟩:=kH he;have hj':j<l.length:=by rw[← h.two.1];exact hj
  have hv:=h.two.at_ hj hj';obtain⟨base,hbase,hr⟩:=hv.row;have:=ku (S:=fun q=>q=g) hr (fun q hq Pt=>by
   subst Pt;exact h.ne hv q hq rfl)
  exact this
 have hi:Inhabited (yY w g):=⟨⟨es[0],hin _ (aY h0)⟩⟩;obtain⟨d,hd⟩:∃d:Array (yY w g),d=(es.attach.map fun e=>(⟨e.1,hin e.1 e.2⟩:yY w g)).toArray:=⟨_,rfl⟩;have hsz:d.size=es.length:=by rw[hd];simp
 have hval:d.toList.map Subtype.val=es:=by
  rw[hd];simp[List.attach_map_subtype_val,kG,Function.comp_def]
 have hat:∀j (hj:j<es.length),(d[j]!).1=es[j]:=fun j hj=>by
  rw[getElem!_pos d j (by omega)];simp[hd]
 have HR:RowK (oD (w:=w) (blk:=g)) 7 w g 0 d:=by
  refine⟨aek,ael,?_,(pn.1 hg).1⟩;intro t htl;have hts:(flatK (oD (w:=w) (blk:=g)) 7 d).size=es.length*7:=by rw[size_flatK,hsz]
  have Pv:t<es.length*7:=by rw[← hts];exact htl
  have hcell:=vC hg ht t ((cellsE es)[t]'(by rw[KG];exact Pv)) (bN _);have hfr:=(mn hg t (by rw[hcs];have:=iu 7 hnc;omega)).2;rw[dg];refine⟨?_,hfr⟩;rw[hcell,get_flatK _ _ _ _ (by rw[hsz];exact Pv)];have hq:t / 7<es.length:=by omega
  have hfz:=ow (fun e:iO=>e.cells.toList) 7 (fun _=>rfl) es (t / 7) (t % 7) (by omega) es[t / 7] (bN hq);have hte:t / 7*7+t % 7=t:=by omega
  rw[hte] at hfz;have hfz':(cellsE es)[t]?=es[t / 7].cells.toList[t % 7]?:=hfz;rw[bN (by rw[KG];exact Pv)] at hfz';rw[hfz',show oD d[t / 7]! = es[t / 7].cells.toList by unfold oD;rw[hat _ hq]];simp only[id];rw[getElem!_pos es[t / 7].cells.toList (t % 7) (show t % 7<es[t / 7].cells.toList.length from uT _ (by decide)),bN]
 have HS:=aem 7 (fun w=>by kernel_rfl) (oD (w:=w) (blk:=g)) KI aen 108 #[] (fun args w=>by kernel_rfl) g 0 c d w HR (aeo w g 0 d.size) (by omega);rw[hsz] at HS;refine HS.mono ?_;rintro e w' ⟨rfl,d',hp,hs,hW⟩;have hsz':d'.size=es.length:=by rw[hp.1,hsz]
 obtain⟨n,os,hw'⟩:=hW;have Dx:Kept (fun q=>q=g) w w':=by rw[hw'];exact aeg _ _ _ _ _ _ _
 have hblk:=aee (oD (w:=w) (blk:=g)) 7 w g n d' os hg;rw[← hw'] at hblk;obtain⟨es',Pw⟩:∃es',d'.toList.map Subtype.val=es':=⟨_,rfl⟩;have hlen':es'.length=es.length:=by rw[← Pw];simp[hsz']
 have hat':∀j (hj:j<es'.length),(d'[j]!).1=es'[j]:=fun j hj=>by
  rw[getElem!_pos d' j (by omega)];simp[← Pw]
 have hperm:es'.Perm es:=by
  have Dy:=hp.2.2;have e1:d'.extract 0 es.length=d':=by rw[← hsz'];exact Array.extract_size
  have e2:d.extract 0 es.length=d:=by rw[← hsz];exact Array.extract_size
  rw[e1,e2] at Dy;rw[← Pw,← hval];exact Dy.map _
 have Wi:(putCells id 0 (flatK (oD (w:=w) (blk:=g)) 7 d') cur).size=cur.size:=by unfold putCells;simp
 have hfl:(flatK (oD (w:=w) (blk:=g)) 7 d').size=es.length*7:=by rw[size_flatK,hsz']
 have hbig:es.length*7≤cur.size:=by rw[hcs];exact iu 7 hnc
 have htake:(putCells id 0 (flatK (oD (w:=w) (blk:=g)) 7 d') cur).toList.take (es.length*7)=cellsE es':=by
  apply List.ext_getElem?;intro t;rw[Cn];split
  ·rename_i ht7;have hq:t / 7<es'.length:=by omega
   have hfz:=ow (fun e:iO=>e.cells.toList) 7 (fun _=>rfl) es' (t / 7) (t % 7) (by omega) es'[t / 7] (bN hq);have hte:t / 7*7+t % 7=t:=by omega
   rw[hte] at hfz;have hfz':(cellsE es')[t]?=es'[t / 7].cells.toList[t % 7]?:=hfz;rw[hfz',pg,Array.getElem?_eq_getElem (by rw[Wi];omega)];unfold putCells;rw[Array.getElem_mapIdx,ar ⟨aS _,by rw[hfl];omega⟩];rw[Nat.sub_zero,get_flatK _ _ _ _ (by rw[hsz'];exact ht7)];have:oD d'[t / 7]! = es'[t / 7].cells.toList:=by unfold oD;rw[hat' _ hq]
   rw[this,getElem!_pos es'[t / 7].cells.toList (t % 7) (show t % 7<es'[t / 7].cells.toList.length from uT _ (by decide)),bN];rfl
  rw[EK (by rw[KG];omega)]
 have hrow':w'.ownsRow lo 115 7 (.slice (some ⟨g,0,none⟩) es'.length c) es'.length (cellsE es'):=
  Gd hb hblk (by rw[hlen'];exact hnc) hcm (by rw[Wi];exact hcs) (by rw[hlen'];exact htake) (KG es')
 have hlB:∀q,q=g→lo≤q:=fun q hq=>hq ▸ hb
 obtain⟨l',aep,Gu⟩:=aeh hperm h.two;refine⟨rfl,?_,es',l',⟨hrow',Gu.mono fun e x he=>he.keep Dx hlo h.dl hlB fun q hq Pt=>?_,h.dl⟩,aep,?_⟩
 ·exact⟨Dx.os,Dx.tape,Dx.output,Dx.size,fun q hq=>Dx.block q (cU hq hlo) (fun e=>by omega)⟩
 ·exact h.ne he q hq (by rw[Pt];rfl)
 refine Cq.2 fun i j hi hj hij=>?_
 have hi':i<es'.length:=by rw[Gu.1];exact hi
 have hj':j<es'.length:=by rw[Gu.1];exact hj
 have e1:=(Gu.at_ hi' hi).b;have e2:=(Gu.at_ hj' hj).b;rw[← e1,← e2];have:=hs i j (aS _) hij (by omega);unfold ltOf KI at this;rw[hat' _ hi',hat' _ hj'] at this;exact this
theorem Wj{path:ByteArray}(ag:List V)(j:Nat):(jV path (ag.take j)).length≤j:=by
 unfold jV;refine a_ (M7 _ _) ?_;rw[eD];omega
theorem Wk{path:ByteArray}{d:V}(h:eu d)(he:(cH path d).2.2=0):(cH path d).1.length≤96:=by
 cases hp:gB d path with
 | none=>rw[(Kt h hp).1];simp
 | some u =>
  obtain⟨i,hi,hu,hK,hkey,e,hent⟩:=Gl h hp he;unfold cH at he ⊢;rw[ai (by simpa using h.key),hp] at he ⊢;dsimp only at he ⊢;rw[hi,ni] at he ⊢;by_cases h0:(iX [u,i] [false,false]).2=0
  ·rw[ai (by simpa using h0)];exact(VN (b:=(iX [u,i] [false,false]).1) (by rw[← h0])).2.2.2
  rw[ar h0] at he;exact absurd he h0
theorem aeq(Y:Nat→Prop)(dG:Nat)(nm:ByteArray)(ag:List V)(dA xA:Option Addr)(dc xn xc:Nat)(x:Ix)(w:World)(hd:kT Y w dG (.mk 7 0 [] ag []) (kf dA ag.length dc))(dE:dG≤w.heap.size)(hx:x.path.size<4294967281)(hok:∀d∈ag,eu d)(hr:eQ (iZ ag))(hl:ag.length≤1000000000)(hT:eo w)(hM:kO w) :
 Calls prog 60 #[.agg #[.string nm,.slice dA ag.length dc,.slice xA xn xc],.agg x.cells] w (Ps Y w dG x.path ag):=by
 have aP:=aa (((ah w).alloc (.cells #[.string nm,.slice dA ag.length dc,.slice xA xn xc] 48)).alloc (.cells x.cells 64));have Fu:=aa ((aH w 48 #[.string nm,.slice dA ag.length dc,.slice xA xn xc]).alloc (.cells x.cells 64));have C_:=aa (df (w:=w.alloc (.cells #[.string nm,.slice dA ag.length dc,.slice xA xn xc] 48)) (g:=w.heap.size+1) (by simp) 64 x.cells);have HV:=aa hd;have od:=aa dE;have HT:=aa hT;have HM:=aa hM;have cJ:=aa hok;have HR:=aa hr;have HX:=aa hx;have HL:=aa hl;have hcc:=Fu.o.cell;have pI:=C_.o.cell;have lM:=aa (fun(v:V) (c:Cv) (W:World) (eP:v.count≤20000) (hg:Grow w W) (hv:In W v c)=>OH x v c W hx eP (hT.grow hg) (hM.grow hg) hv);clear hd dE hT hM hok hr hx hl;go_enter func60,ntmps60;go_wp2_with fail
 go_loopg [6,8,9,10,11,12,13,14,15,19] (ag.length+1) (fun gk o _ _ _ _ _ _ _ _ i wr=>∃(j:Nat) (A:Option Addr) (c:Nat) (es:List iO),j≤ag.length∧gk+j=ag.length+1∧i=.int .i64 j∧o=.slice A es.length c ∧
  nM Y wr w.heap.size dG A c es (jV x.path (ag.take j))∧(∀i (hi:i<ag.length),i<j→(cH x.path ag[i]).2.2=0)∧Blk wr (w.heap.size+1) 64 x.cells∧Grow w wr)
 exact⟨0,none,0,[],aS _,rfl,rfl,rfl,nM.nil _ _ _ _ od.o,fun _ _ h=>absurd h (by omega),C_.o,aP.o⟩;obtain⟨j,A,c,es,hj,hg,rfl,rfl,hrow,hz,fq,hgr⟩:=hrel;obtain⟨gk',rfl⟩:=bP gk (by omega);have iU:=aa hrow;have HZ:=aa hz;have cG:=aa fq;have HG:=aa hgr;have hel:es.length≤j:=by rw[hrow.two.1];exact Wj ag j
 have lN:=aa hel;have hl2:=HL.o;clear hrow hz fq hgr hel;by_cases hlt:j<ag.length
 ·obtain⟨bk,o,y,ha,vd,e0,e1,e2,e3,e4,hy⟩:=kT.fJ HV.o j hlt;have hbk:=cU vd od.o;dsimp only[kf] at ha;subst ha;have HY:=aa hy;have hD:=cJ.o _ (aY hlt);have HD:=aa hD;have h0:=(HG.o.below.cell (p:=⟨bk,o+j*5,none⟩) hbk).trans e0;have h1:=(HG.o.below.cell (p:=⟨bk,o+j*5+1,none⟩) hbk).trans e1;have h2:=(HG.o.below.cell (p:=⟨bk,o+j*5+2,none⟩) hbk).trans e2;have h3:=(HG.o.below.cell (p:=⟨bk,o+j*5+3,none⟩) hbk).trans e3;have h4:=(HG.o.below.cell (p:=⟨bk,o+j*5+4,none⟩) hbk).trans e4;have hx1:=(cG.o.alloc (.cells y.cells 27)).cell;have hy1:=(aH wr 27 y.cells).cell;have aN:=aa (HG.o.alloc (.cells y.cells 27));have Px:=aa (lM.o ag[j] y _ hD.count aN.o ((kT.nj hy od.o).grow aN.o))
  obtain⟨eb,et,ee,Py⟩:∃a b c,cH x.path ag[j]=(a,b,c):=⟨_,_,_,rfl⟩;rw[Py] at Px;have xt:=aa Py;clear hy hD e0 e1 e2 e3 e4 Py;go_wp2_with fail;refine Px.o.mono ?_;rintro e w2 ⟨C4,B,bc,rfl,hb2,hr2,hg2⟩;dsimp only at hr2 ⊢;have bI:=aa hr2;have aG:=aa (show w.heap.size≤C4 from a_ aN.o.size hb2);have HG2:=aa (aN.o.trans hg2);have Wl:=aa ((iU.o.grow ((ah wr).alloc (.cells y.cells 27)) HG.o.size).grow hg2 aN.o.size);have Wm:=aa ((cG.o.alloc (.cells y.cells 27)).grow hg2);have Wn:=aa ((aH wr 27 y.cells).grow hg2);clear hr2 hb2 hg2 h0 h1 h2 h3 h4 hx1 hy1;by_cases xw:ee=0
  ·subst xw;have hz':∀i (hi:i<ag.length),i<j+1→(cH x.path ag[i]).2.2=0:=fun i hi hij=>by
    rcases MZ.1 hij with h | rfl
    ·exact HZ.o i hi h
    rw[xt.o]
   have vw:=aa hz';clear hz'
   cases et with
   | false =>
    go_wp2_with fail;go_roundg gk';have hno:nG x.path ag[j]=none:=by unfold nG;rw[xt.o];rfl
    exact⟨j+1,A,c,es,by omega,by omega,by go_num,rfl,by rw[OO hlt,hno];simpa using Wl.o,vw.o,Wm.o,HG2.o⟩;omega
   | true =>
    obtain⟨i,hi,hK,hkey,-,-⟩:=HD.o.id;have hid:=Od ag[j] y w w2 HG2.o (kT.nj HY.o od.o);rw[hi] at hid;have pL:=aa hid;have HI:=aa hi;have HK:=aa hK;have aer:=a_ (FL hi) HD.o.count;have hy2:=Wn.o.cell;clear hid hi hkey;go_wp2_with fail;refine pL.o.mono ?_;rintro e w3 ⟨hg3,ci,t,u,rfl,hu,Wo⟩;have xy:u=i∧t=true:=by
     rcases Wo with ⟨h,ht⟩ | ⟨h,-⟩
     ·injection h with h;exact⟨h.symm,ht⟩
     cases h
    obtain⟨rfl,rfl⟩:=xy;have HU:=aa hu;have aJ:=aa (HG2.o.trans hg3);have aes:=aa (Wm.o.grow hg3);have aet:=aa (Wn.o.grow hg3);have aeu:=aa (Wl.o.grow hg3 HG2.o.size);have d_:=aa (bI.o.grow hg3);have kQ:=aa (UN u ci (w3.alloc (.cells ci.cells 27)) HK.o.fit aer (HT.o.grow (aJ.o.alloc _)) (hu.grow (aJ.o.alloc _)));rw[HK.o.bK] at kQ;have hc3:=(aH w3 27 ci.cells).cell;clear hu Wo hg3 hy2;go_wp2_with fail;refine kQ.o.mono ?_;rintro e w4 ⟨alR,K,kc,rfl,hb4,hr4,hg4⟩;dsimp only at hr4 ⊢;have bz:=aa ((aJ.o.alloc (.cells ci.cells 27)).trans hg4);have Gv:=((ah w3).alloc (.cells ci.cells 27)).trans hg4;have Wp:=aa (aes.o.grow Gv);have aev:=aa (aet.o.grow Gv);have KJ:=aa (aeu.o.grow Gv aJ.o.size);have cN:=aa (d_.o.grow Gv)
    have hy4:=aev.o.cell;have hkl:u.key.length≤96:=HK.o.short;have hel:eb.length≤96:=by have:=Wk HD.o (by rw[xt.o]);rw[xt.o] at this;exact this
    have Dz:=lN.o;obtain⟨i0,hi0,hz0,hz1,hz2⟩:=info_parts aed;have fX:=aa hi0;have fY:=aa hz0;have fZ:=aa hz1;have f_:=aa hz2;clear hr4 hb4 hg4 Gv hc3 hi0 hz0 hz1 hz2;go_wp2_with (first | (at_builtin;refine sO rfl (.tmp 47) (.tmp 56) 111 111 rfl w.heap.size 115 i0 _ 7 120 Wh fX.o fY.o fZ.o f_.o rfl (.slice A es.length c) es.length (cellsE es) rfl (KJ.o.row.alloc _) _ 1 (iO.cells ⟨eb,B,bc,(eb.length:Int)-(u.key.length:Int),y⟩).toList rfl (Src.ent ⟨eb,B,bc,(eb.length:Int)-(u.key.length:Int),y⟩ _ rfl) (by omega) (by simp only[maxLen];omega) (by simp;have:=bz.o.size;omega) ?_;intro A5 c5 w5 yZ rN AP) | fail)
    have aew:=aa (nM.add (KJ.o.grow ((ah w4).alloc (.cells (iO.cells ⟨eb,B,bc,(eb.length:Int)-(u.key.length:Int),y⟩) 115)) bz.o.size) (a_ bz.o.size (by simp)) (x:=(eb,(eb.length:Int)-(u.key.length:Int),ag[j])) (e:=⟨eb,B,bc,(eb.length:Int)-(u.key.length:Int),y⟩)
     ⟨rfl,rfl,(kT.below HY.o (bz.o.alloc _) od.o),C4,aG.o,cN.o.alloc _⟩ yZ rN)
    have bC:=aa ((bz.o.alloc (.cells (iO.cells ⟨eb,B,bc,(eb.length:Int)-(u.key.length:Int),y⟩) 115)).grown rN (fun k hk=>(bO KJ.o.row k hk).1));have aex:=aa ((Wp.o.alloc (.cells (iO.cells ⟨eb,B,bc,(eb.length:Int)-(u.key.length:Int),y⟩) 115)).own rN (fun k hk e=>by rw[cE,e] at hk;exact fH KJ.o.row Wp.o (by decide) hk));clear yZ rN AP;go_roundg gk';have JO:nG x.path ag[j]=some (eb,(eb.length:Int)-(u.key.length:Int),ag[j]):=by unfold nG;rw[xt.o,HI.o,ni,HK.o.bK];rfl
    exact⟨j+1,A5,c5,es++[⟨eb,B,bc,(eb.length:Int)-(u.key.length:Int),y⟩],by omega,by omega,by go_num,by simp,by rw[OO hlt,JO];exact aew.o,vw.o,aex.o,bC.o⟩;omega
  go_wp2_with fail;go_ret2;exact⟨HG2.o,.inl ⟨by rw[Kk hlt HZ.o (by rw[xt.o];exact xw),xt.o];exact xw,by rw[Kk hlt HZ.o (by rw[xt.o];exact xw),xt.o];rfl⟩⟩
 have hjl:j=ag.length:=by omega
 subst hjl;have htk:ag.take ag.length=ag:=fC;have np:=iU.o;rw[htk] at np;have HLN:=aa np.two.1;have HS:=aa (aei Y w.heap.size dG c A es _ wr np HG.o.size (by have:=lN.o;omega));have mo:=OM (path:=x.path) (ag:=ag) (fun j hj=>HZ.o j hj hj);have nK:=aa mo;clear np mo;go_wp2_with fail;refine HS.o.mono ?_;rintro e w2 ⟨rfl,hb2,es',l',hrow2,hp,ho⟩;have hl':l'=jr x.path ag:=by
  unfold jr;rw[ar nK.o];exact adC hp ho (VP cJ.o nK.o HR.o)
 have hlen:es.length=(jr x.path ag).length:=by rw[HLN.o,← hl',hp.length_eq]
 have hg2:Grow w w2:=HG.o.trans' hb2;subst hl';have HRR:=aa hrow2;have HLEN:=aa hlen;clear hrow2 hp ho hb2 hlen;go_wp2_with fail;go_ret2;exact⟨hg2,.inr ⟨nK.o,A,c,es',by rw[← HLEN.o];rfl,HRR.o⟩⟩
theorem Wq(nm:ByteArray)(ag:List V)(dA xA:Option Addr)(dc xn xc:Nat)(x:Ix)(w:World)(hd:InL w dA dc ag)(hx:x.path.size<4294967281)(hok:∀d∈ag,eu d)(hr:eQ (iZ ag))(hl:ag.length≤1000000000)(hT:eo w)(hM:kO w) :
 Calls prog 60 #[.agg #[.string nm,.slice dA ag.length dc,.slice xA xn xc],.agg x.cells] w (Ps (fun _=>False) w w.heap.size x.path ag):=
 aeq (fun _=>False) w.heap.size nm ag dA xA dc xn xc x w (iL (fun p u h=>⟨h.1,h.2.2,fun h=>h⟩) _ _ hd) (av _) hx hok hr hl hT hM
end

section
open Go.RowKit
theorem aey(S:Nat)(hS:S≤1000000000):∃cur:Array Value,cur.size=S*3∧∀w:World,(Instr.makeSlice 42 (.int .i64 0) (.int .i64 (S:Int))).run prog w=.ok (.slice (some ⟨w.heap.size,0,none⟩) 0 S) (w.alloc (.cells cur 48)):=by
 obtain⟨i0,hi0,hz0,hz1,hz2⟩:=info_parts Gw;refine⟨madeCells (Value.agg #[.string ⟨#[]⟩,.slice none 0 0,.slice none 0 0]).cells (S*i0.size),?_,fun w=>?_⟩
 ·rw[hz1];simp[madeCells]
 have h:=run_make (P:=prog) (w:=w) 42 48 i0 _ mq hi0 hz0 .i64 .i64 0 (S:Int) (by omega) (by omega) (by rw[hz2];omega) (by omega);exact h
theorem aez(S:Nat)(hS:S≤1000000000):∃cur:Array Value,cur.size=S*3∧∀w:World,(Instr.makeSlice 46 (.int .i64 0) (.int .i64 (S:Int))).run prog w=.ok (.slice (some ⟨w.heap.size,0,none⟩) 0 S) (w.alloc (.cells cur 64)):=by
 obtain⟨i0,hi0,hz0,hz1,hz2⟩:=info_parts Pz;refine⟨madeCells (Value.agg #[.string ⟨#[]⟩,.string ⟨#[]⟩,.bool false]).cells (S*i0.size),?_,fun w=>?_⟩
 ·rw[hz1];simp[madeCells]
 have h:=run_make (P:=prog) (w:=w) 46 64 i0 _ tU hi0 hz0 .i64 .i64 0 (S:Int) (by omega) (by omega) (by rw[hz2];omega) (by omega);exact h
theorem aeA{F:Func}{W:World}{vb:Nat}{tmps:Array Value}{u:Value}(hF:F.results=#[ResultVar.cell 2 44])(h2:tmps.getD 2 undef=.pointer (some ⟨vb,0,none⟩))(hv:Blk W vb 44 #[u]) :
 (results F tmps).run prog W=.ok (.agg #[u]) W:=by
 have wV:=hv.cell;have h2':tmps[2]?.getD undef=.pointer (some ⟨vb,0,none⟩):=by simpa using h2
 simp[results,hF,go_sem,h2',wV]
def aeB(w:World)(st:List Co)(e:Ending)(w':World):Prop:=Grow w w'∧∃A c es,e=.returned (.agg #[.slice A st.length c])∧CR (fun q=>q<w.heap.size) w' w.heap.size A c es st
structure Ws (c:Co):Prop where
 ag:c.ag.length≤1000000000
 aq:c.aq.length≤1000000000
 nC:∀d∈c.ag,d.nC
theorem Gx{α:Type}{l xs:List α}{j:Nat}(h:j<l.length)(e:xs=l.take j):xs++[l[j]]=l.take (j+1):=by rw[e,px l j h]
theorem Src.aD{w:World}(e:Cc)(t:TypeId){g:Nat}(hg:g=w.heap.size):Src prog 3 42 (.slice (some ⟨g,0,none⟩) 1 1) 1 e.cells.toList (w.alloc (.cells e.cells t)):=by
 subst hg;exact Src.ofSlice _ mq ⟨w.heap.size,0,none⟩ 1 1 _ rfl (fun j u hu=>by
  rw[add_lit,dg,(aH w t e.cells).cell j,← hu,pg]) (fun u hu=>by
  simp only[iw,wD,wE] at hu;rcases hu with rfl | rfl | rfl<;>rfl)
theorem KL{W:World}{lo c6 c7:Nat}{S0:Nat→Prop}{A6 A7 A':Option Addr}{cs:List Cv}{cd:List V}{cx:List Ix}(h:VR (fun q=>S0 q∨bM A'=some q) W lo A6 c6 cs cd)(h7:W.ownsRow lo 64 3 (.slice A7 cx.length c7) cx.length (gm cx))(hB:∀q,S0 q→q<lo)(hA:∀g,bM A'=some g→g<lo)(hl:cd.length≤140737488355328)(cn:ByteArray) :
 vB (fp W (fun q=>bM A'=some q∨S0 q)) ⟨cn,A6,cd.length,c6,A7,cx.length,c7⟩ ⟨cn,cd,cx⟩:=by
 have hs:∀q,(S0 q∨bM A'=some q)→q<lo:=fun q hq=>by
  rcases hq with hq | hq
  ·exact hB q hq
  exact hA q hq
 have ho:∀(q:Nat),(bM A'=some q∨S0 q)→(S0 q∨bM A'=some q):=fun q hq=>hq.symm
 refine⟨rfl,rfl,rfl,(nH h7).1,?_,?_⟩
 ·refine(h.list (fun g hg hq=>?_) hl).mono (fp.sub ho);have:=(bO h.row g (by rw[cE];exact hg)).1;have:=hs g hq;omega
 refine(ku (S:=fun q=>S0 q∨bM A'=some q) h7 (fun g hg hq=>?_)).mono (fp.sub ho);have:=(bO h7 g (by rw[cE];exact hg)).1;have:=hs g hq;omega
def rO(w:World)(q:Nat):Prop:=q=w.heap.size+1+1+1∨q=w.heap.size+1∨q<w.heap.size
theorem aeC(st:List Co)(A:Option Addr)(cap:Nat)(w:World)(hst:dR w A cap st)(hn:st.length≤1000000000)(hs:∀c∈st,Ws c) :
 Calls prog 37 #[.agg #[.slice A st.length cap]] w (aeB w st):=by
 obtain⟨hcap,jT,oF,qB⟩:=hst;have rP:=aa oF;have qC:=aa qB;have HSM:=aa hs;obtain⟨Gy,Wt,hmC⟩:=aey st.length hn;have HN:=aa hn;have aQ:=aa (((df (w:=w.alloc (.cells #[.slice A st.length cap] 44)) (g:=w.heap.size+1) (by simp) 44 #[.slice none 0 0]).alloc (.cells Gy 48)).alloc (.cells #[.slice (some ⟨w.heap.size+1+1,0,none⟩) 0 st.length] 44));have au:=aa (df (w:=((w.alloc (.cells #[.slice A st.length cap] 44)).alloc (.cells #[.slice none 0 0] 44)).alloc (.cells Gy 48)) (g:=w.heap.size+1+1+1) (by simp) 44 #[.slice (some ⟨w.heap.size+1+1,0,none⟩) 0 st.length]);have Wu:=((((ah w).alloc (.cells #[.slice A st.length cap] 44)).alloc (.cells #[.slice none 0 0] 44)).alloc (.cells Gy 48)).alloc (.cells #[.slice (some ⟨w.heap.size+1+1,0,none⟩) 0 st.length] 44)
 have Wv:(((w.alloc (.cells #[.slice A st.length cap] 44)).alloc (.cells #[.slice none 0 0] 44)).alloc (.cells Gy 48)).ownsRow w.heap.size 48 3 (.slice (some ⟨w.heap.size+1+1,0,none⟩) 0 st.length) 0 []:=by
  have:=qU (base:=w.heap.size) (e:=48) (size:=3) ((w.alloc (.cells #[.slice A st.length cap] 44)).alloc (.cells #[.slice none 0 0] 44)) Gy st.length (by simp;omega) (by simp only[maxLen];omega) Wt;rw[show ((w.alloc (.cells #[.slice A st.length cap] 44)).alloc (.cells #[.slice none 0 0] 44)).heap.size=w.heap.size+1+1 by simp] at this;exact this
 have aeD:=aa (GR.made (f:=cF) (β:=Co) (z:=3) (T:=48) (R:=cR) (S:=rO w) (Wv.alloc (.cells #[.slice (some ⟨w.heap.size+1+1,0,none⟩) 0 st.length] 44)));have aP:=aa Wu;clear hs oF qB Wt Wu Wv;go_enter func37,ntmps37;go_wp2_with fail;go_loopg [17] (st.length+1) (fun gk i wr=>∃(j:Nat) (A':Option Addr) (c':Nat) (es':List Cc),j≤st.length∧gk+j=st.length+1∧i=.int .i64 j∧CR (rO w) wr w.heap.size A' c' es' (st.take j) ∧
  Blk wr (w.heap.size+1+1+1) 44 #[.slice A' es'.length c']∧Blk wr (w.heap.size+1) 44 #[.slice none 0 0]∧Grow w wr)
 exact⟨0,_,_,[],aS _,rfl,rfl,aeD.o,au.o,aQ.o,aP.o⟩;obtain⟨j,A',c',es',hj,hg,rfl,hcr,hb4,hb1,hgr⟩:=hrel;obtain⟨gk',rfl⟩:=bP gk (by omega);have hel:es'.length=j:=by rw[hcr.two.1,eD];omega
 have lN:=aa hel;have pO:=aa hcr;have rQ:=aa hb4;have rR:=aa hb1;have HG:=aa hgr;clear hcr hb4 hb1 hgr hel;by_cases hlt:j<st.length
 ·have y7:j<jT.length:=by rw[rP.o.1];exact hlt
  have aW:=rP.o.at_ y7 hlt;have hsm:=HSM.o _ (aY hlt);obtain⟨bk,o,hA,hcell⟩:=qC.o.2 (by omega);have hf:∀k v,jT[j].cells.toList[k]?=some v→k<3→w.cell? ⟨bk,o+j*3+k,none⟩=some v∧bk<w.heap.size:=fun k v hv hk=>by
   have:=hcell (j*3+k) v (by rw[dw,ow _ 3 (fun _=>rfl) jT j k hk jT[j] (bN y7)];exact hv);rw[← lh] at this;exact⟨this.1,this.2.2⟩
  obtain⟨⟨nm,dA,dn,dc,xA,xn,xc⟩,he⟩:∃e,jT[j]=e:=⟨_,rfl⟩;obtain⟨⟨cn,cd,cx⟩,hc⟩:∃c,st[j]=c:=⟨_,rfl⟩;rw[he] at hf aW;rw[hc] at aW hsm;obtain⟨q1,q2,q3,q4,vG,PA⟩:=aW;obtain⟨dE,hxl,PB⟩:=hsm;dsimp only at q1 q2 q3 q4 vG PA dE hxl PB;subst q1 q2 q3 hA;have f0:=(HG.o.below.cell (p:=⟨bk,o+j*3,none⟩) (hf 0 _ rfl (by omega)).2).trans (hf 0 _ rfl (by omega)).1;have f1:=(HG.o.below.cell (p:=⟨bk,o+j*3+1,none⟩) (hf 1 _ rfl (by omega)).2).trans (hf 1 _ rfl (by omega)).1;have f2:=(HG.o.below.cell (p:=⟨bk,o+j*3+2,none⟩) (hf 2 _ rfl (by omega)).2).trans (hf 2 _ rfl (by omega)).1;obtain⟨KM,Ww,hmV⟩:=NJ cd.length dE;obtain⟨vI,Wx,hmX⟩:=aez cx.length hxl;have HC:=aa hc;have HD:=aa (show InL w dA dc cd from vG);have fe:=aa PA;have PC:=aa PB
  have vk:=(aH wr 48 #[.string nm,.slice dA cd.length dc,.slice xA cx.length xc]).alloc (.cells KM 27);have ay:=aa vk;have KN:((wr.alloc (.cells #[.string nm,.slice dA cd.length dc,.slice xA cx.length xc] 48)).alloc (.cells KM 27)).ownsRow wr.heap.size 27 5 (.slice (some ⟨wr.heap.size+1,0,none⟩) 0 cd.length) 0 []:=by
   have:=qU (base:=wr.heap.size) (e:=27) (size:=5) (wr.alloc (.cells #[.string nm,.slice dA cd.length dc,.slice xA cx.length xc] 48)) KM cd.length (by simp) (by simp only[maxLen];omega) Ww;rw[show (wr.alloc (.cells #[.string nm,.slice dA cd.length dc,.slice xA cx.length xc] 48)).heap.size=wr.heap.size+1 by simp] at this;exact this
  have HV0:=aa (GR.made (f:=vF) (β:=V) (z:=5) (T:=27) (R:=vR) (S:=fun q=>rO w q∨bM A'=some q) KN);have bC:=aa (((ah wr).alloc (.cells #[.string nm,.slice dA cd.length dc,.slice xA cx.length xc] 48)).alloc (.cells KM 27));have dt:=vk.cell;have HCX:=aa Wx;clear hf vG PA hcell PB vk KN Ww he hc Wx;go_wp2_with fail;clear f0 f1 f2 dt;obtain⟨wo,hwo⟩:∃wo:World,wo=wr:=⟨_,rfl⟩;subst hwo;go_loopg [6,28] (cd.length+1) (fun gk o i wi=>∃(k:Nat) (A6:Option Addr) (c6:Nat) (cs:List Cv),k≤cd.length∧gk+k=cd.length+1∧i=.int .i64 k∧o=.slice A6 cs.length c6 ∧
   VR (fun q=>rO w q∨bM A'=some q) wi wo.heap.size A6 c6 cs (cd.take k)∧Blk wi wo.heap.size 48 #[.string nm,.slice dA cd.length dc,.slice xA cx.length xc]∧Grow wo wi)
  exact⟨0,_,_,[],aS _,rfl,rfl,rfl,HV0.o,ay.o,bC.o⟩;obtain⟨k,A6,c6,cs,hk,iB,rfl,rfl,fM,dt,hgo⟩:=hrel;have DA:=aa fM;have tV:=aa dt;have iF:=aa hgo;have hcl:cs.length=k:=by rw[fM.two.1,eD];omega
  have js:=aa hcl;clear hcl;have qw:=aa (fun g (hg:bM A'=some g)=>(bO pO.o.row g (by rw[cE];exact hg)).2);have xz:=aa (show w.heap.size+1+1+1<wo.heap.size from rQ.o.lt);have Gz:=aa (fun q (hq:rO w q)=>show q<wo.heap.size from by
   have:=xz.o;rcases hq with rfl | rfl | hq<;>omega)
  have aeE:=aa (fun q (hq:rO w q∨bM A'=some q)=>show q<wo.heap.size from by
   rcases hq with hq | hq
   ·exact Gz.o q hq
   exact qw.o q hq)
  clear fM dt hgo;by_cases hkl:k<cd.length
  ·obtain⟨tv,rfl⟩:∃g,gk=g+1:=⟨gk-1,by omega⟩;obtain⟨vh,o2,y,ha,hbk2,e0,e1,e2,e3,e4,hy⟩:=HD.o.fJ k hkl;dsimp only[kf] at ha;subst ha;have tL:=aa (HG.o.trans iF.o);have d0:=(tL.o.below.cell (p:=⟨vh,o2+k*5,none⟩) hbk2).trans e0;have d1:=(tL.o.below.cell (p:=⟨vh,o2+k*5+1,none⟩) hbk2).trans e1;have d2:=(tL.o.below.cell (p:=⟨vh,o2+k*5+2,none⟩) hbk2).trans e2;have d3:=(tL.o.below.cell (p:=⟨vh,o2+k*5+3,none⟩) hbk2).trans e3;have d4:=(tL.o.below.cell (p:=⟨vh,o2+k*5+4,none⟩) hbk2).trans e4;have aeF:=aa (JT cd[k] (PC.o _ (aY hkl)) (wr.alloc (.cells y.cells 27)) y (hy.grow (tL.o.alloc _)));have hy1:=(aH wr 27 y.cells).cell;obtain⟨PD,hi0,hz0,hz1,hz2⟩:=info_parts ry;have fX:=aa hi0;have fY:=aa hz0
   have fZ:=aa hz1;have f_:=aa hz2;clear e0 e1 e2 e3 e4 hy hi0 hz0 hz1 hz2;go_wp2_with fail;refine aeF.o.mono ?_;rintro e w3 ⟨cv,rfl,hin,hg3⟩;have AQ:=aa hin;have aJ:=aa (((ah wr).alloc (.cells y.cells 27)).trans hg3);have Wy:=aa (iF.o.trans aJ.o);have hzz:wr.heap.size<(wr.alloc (.cells y.cells 27)).heap.size:=by simp
   have PE:=aa ((DA.o.grow pN aJ.o).grow pN ((ah w3).alloc (.cells cv.cells 27)));have aeG:=aa (show IsV (fp (w3.alloc (.cells cv.cells 27)) (fun q=>bM A6=some q∨(rO w q∨bM A'=some q))) cd[k] cv from by
    refine iL (xg (Kept.none_ ((ah w3).alloc _)) (fun _ h=>h.elim)) _ _ (iL (fp.OT (av _) fun q hq=>?_) _ _ hin.CY);left;rcases hq with hq | hq
    ·have:=(bO DA.o.row q (by rw[cE];exact hq)).2;omega
    have:=aeE.o q hq;have:=iF.o.size;omega)
   clear hin hg3 d0 d1 d2 d3 d4 hy1 hzz;have Oy:wo.heap.size≤(w3.alloc (.cells cv.cells 27)).heap.size:=a_ Wy.o.size (by simp);go_wp2_with (first | (at_builtin;refine sO rfl (.tmp 32) (.tmp 35) 24 24 rfl wo.heap.size 27 PD _ 5 88 lF fX.o fY.o fZ.o f_.o rfl (.slice A6 cs.length c6) cs.length (fD cs) rfl PE.o.row _ 1 cv.cells.toList rfl (Src.ab3 (W:=w3) cv _ rfl) (by have:=js.o;omega) (by simp only[maxLen];have:=js.o;omega) Oy ?_;intro A7 c7 w7 fI qD y8) | fail);have HV7:=aa (GR.add (f:=vF) (z:=5) pN PE.o aeG.o fI qD y8);have aeH:=aa ((Wy.o.alloc (.cells cv.cells 27)).grown qD (fun q hq=>(bO PE.o.row q hq).1))
   have aeI:=aa (((tV.o.grow aJ.o).alloc (.cells cv.cells 27)).own qD (fun q hq e=>by rw[cE,e] at hq;exact fH DA.o.row tV.o (by decide) hq));clear fI qD y8;go_roundg tv;exact⟨k+1,A7,c7,cs++[cv],by omega,by omega,by go_num,by simp,by rw[← Gx hkl rfl];exact HV7.o,aeI.o,aeH.o⟩;omega
  have hkc:k=cd.length:=by omega
  subst hkc;have hcl:=js.o;have N2:es'.length≤1000000000:=by have:=lN.o;omega
  have fM:=DA.o;rw[fC] at fM;have KO:=aa fM;have dt:=tV.o.cell;have HS:=aa (fun(W:World) (hg:Grow wr W)=>show W.cell? ⟨wo.heap.size,0,none⟩=some (.string nm)∧W.cell? ⟨wo.heap.size,2,none⟩=some (.slice xA cx.length xc) from
   ⟨(hg.below.cell (p:=⟨wo.heap.size,0,none⟩) tV.o.lt).trans (tV.o.cell 0),(hg.below.cell (p:=⟨wo.heap.size,2,none⟩) tV.o.lt).trans (tV.o.cell 2)⟩)
  have vJ:=aa (fun(W:World) (hg:Grow wr W)=>((rQ.o.grow iF.o).grow hg).cell 0);have Wz:=aa (fun(W:World) (hg:Grow wr W)=>show (W.alloc (.cells vI 64)).ownsRow wo.heap.size 64 3 (.slice (some ⟨W.heap.size,0,none⟩) 0 cx.length) 0 []∧Reads (bE (W.alloc (.cells vI 64)) 0 (W.alloc (.cells vI 64)).heap.size) 3 xA cx.length (gm cx) from
   ⟨qU (base:=wo.heap.size) (e:=64) (size:=3) W vI cx.length (a_ iF.o.size hg.size) (by simp only[maxLen];omega) HCX.o,dW (eO (((HG.o.trans iF.o).trans hg).alloc _).below (av _) (av _) (((HG.o.trans iF.o).trans hg).alloc _).size) fe.o⟩)
  have od:=aa (show cd.length≤140737488355328 by omega);obtain⟨PF,hx0,hx1,hx2,hx3⟩:=info_parts Pz;have PG:=aa hx0;have PH:=aa hx1;have PI:=aa hx2;have PJ:=aa hx3;obtain⟨i0,hi0,hz0,hz1,hz2⟩:=info_parts Gw;have fX:=aa hi0;have fY:=aa hz0;have fZ:=aa hz1;have f_:=aa hz2;clear fM hx0 hx1 hx2 hx3 hi0 hz0 hz1 hz2 dt;have alS:=HS.o _ (ah wr);go_wp2_with fail;refine dN ?_;refine dO (S:=fun w'=>w'.cell? ⟨wo.heap.size,0,none⟩=some (.string nm)∧w'.cell? ⟨wo.heap.size,2,none⟩=some (.slice xA cx.length xc)) (by kernel_rfl) (HS.o _ ((ah _).drew)) (fun hHeld=>?_);have HG2:=aa ((ah wr).drew);generalize wr.drew=W2 at HG2 hHeld ⊢;have PK:=aa (Wz.o _ HG2.o).1;have qq:=aa (Wz.o _ HG2.o).2
  have PL:=aa (show wo.heap.size≤(W2.alloc (.cells vI 64)).heap.size from a_ iF.o.size (HG2.o.alloc _).size);refine aj 0 ?_;refine aj 2 ?_;refine gW 3 ?_;refine aj 4 ?_;refine aj 5 ?_;refine gW 6 ?_;refine aj 7 ?_;refine aj 9 ?_;refine gW 10 ?_;refine b_ [1,8] ?_;refine iz (fun K hK=>?_) (iz (fun K hK=>?_) bZ)
  ·have hbb:=vJ.o _ HG2.o;go_simp;refine hK.out _ _ (HS.o _ HG2.o) (fun hHeld=>?_);clear hbb;clear hK K
   try simp only[ak]
   refine aR 8 (fun K hK=>?_);go_simp;refine aV hK (HS.o _ (HG2.o.alloc _)) (fun hHeld=>?_);clear hK K;refine aR 11 (fun K hK=>?_);refine jP (by rfl) (.tmp 46) (.tmp 48) 46 46 (by rfl) wo.heap.size 64 PF _ 3 40 tU PG.o PH.o PI.o PJ.o (by rfl) (.slice (some ⟨W2.heap.size,0,none⟩) 0 cx.length) 0 [] (by rfl) PK.o (.slice xA cx.length xc) cx.length (gm cx) (by rfl) (ej tU qq.o (Dg cx)) (by omega) (by simp only[maxLen];omega) PL.o ?_;intro A7 c7 w7 fI qD y8;have aZ:=aa ((HG2.o.alloc (.cells vI 64)).grown qD (fun k hk=>by simp[Value.ownBlock] at hk;have:=HG2.o.size;omega));rw[mF] at fI;simp only[dg] at fI;have tW:=aa fI;clear fI qD y8;refine aV hK (HS.o _ aZ.o) (fun hHeld=>?_);clear hK K;refine aj 12 ?_
   refine aR 13 (fun K hK=>?_);go_simp;refine aV hK (HS.o _ (aZ.o.alloc _)) (fun hHeld=>?_);clear hK K;refine aR 14 (fun K hK=>?_);have HE:=aa (KL (KO.o.grow pN (aZ.o.alloc (.cells (Cc.cells ⟨nm,A6,cd.length,c6,A7,cx.length,c7⟩) 48))) (tW.o.alloc (.cells (Cc.cells ⟨nm,A6,cd.length,c6,A7,cx.length,c7⟩) 48)) (A':=A') Gz.o qw.o od.o nm);have oG:=aa ((pO.o.grow lL iF.o).grow lL (aZ.o.alloc (.cells (Cc.cells ⟨nm,A6,cd.length,c6,A7,cx.length,c7⟩) 48)));have xB:=aa (show w.heap.size≤(w7.alloc (.cells (Cc.cells ⟨nm,A6,cd.length,c6,A7,cx.length,c7⟩) 48)).heap.size from a_ (HG.o.trans iF.o).size (aZ.o.alloc _).size)
   refine jP (by rfl) (.tmp 39) (.tmp 51) 42 42 (by rfl) w.heap.size 48 i0 _ 3 64 mq fX.o fY.o fZ.o f_.o (by rfl) (.slice A' es'.length c') es'.length (dw es') (by rfl) oG.o.row _ 1 (Cc.cells ⟨nm,A6,cd.length,c6,A7,cx.length,c7⟩).toList (by rfl) (Src.aD ⟨nm,A6,cd.length,c6,A7,cx.length,c7⟩ _ rfl) (by omega) (by simp only[maxLen];omega) xB.o ?_;intro A8 c8 w8 cX dz tX;have lO:=aa (GR.add (f:=cF) (z:=3) lL oG.o HE.o cX dz tX);have lQ:=aa ((((rQ.o.grow iF.o).grow aZ.o).alloc (.cells (Cc.cells ⟨nm,A6,cd.length,c6,A7,cx.length,c7⟩) 48)).own dz (fun q hq e=>by rw[cE,e] at hq;exact fH pO.o.row rQ.o (by decide) hq))
   have tY:=aa ((((rR.o.grow iF.o).grow aZ.o).alloc (.cells (Cc.cells ⟨nm,A6,cd.length,c6,A7,cx.length,c7⟩) 48)).own dz (fun q hq e=>by rw[cE,e] at hq;exact fH pO.o.row rR.o (by decide) hq));have oH:=aa ((((tV.o).grow aZ.o).alloc (.cells (Cc.cells ⟨nm,A6,cd.length,c6,A7,cx.length,c7⟩) 48)).own dz (fun q hq e=>by rw[cE,e] at hq;have:=qw.o _ hq;omega));have dQ:=aa (((HG.o.trans iF.o).trans (aZ.o.alloc (.cells (Cc.cells ⟨nm,A6,cd.length,c6,A7,cx.length,c7⟩) 48))).grown dz (fun q hq=>(bO oG.o.row q hq).1));have AR:=lQ.o.cell;have AU:=lQ.o.frozen;clear cX dz tX;refine hK.out _ _ ⟨oH.o.cell 0,oH.o.cell 2⟩ (fun hHeld=>?_);clear hK K
   try simp only[ak]
   refine aj 15 ?_;refine aR 16 (fun K hK=>?_);go_simp;have vK:=aa (lO.o.kept lL (y9 (S:=rO w) (eK _ w8) (p:=⟨w.heap.size+1+1+1,0,none⟩) (.inl rfl) (.slice A8 (es'.length+1) c8)) (fun _ h=>h) (fun g hg e=>by
    rcases e with rfl | rfl | e
    ·exact fH lO.o.row lQ.o (by decide) hg
    ·exact fH lO.o.row tY.o (by decide) hg
    have:=(bO lO.o.row g (by rw[cE];exact hg)).1;omega))
   have lR:=aa (lQ.o.bg 0 (.slice A8 (es'.length+1) c8));have AV:=aa (tY.o.far (p:=⟨w.heap.size+1+1+1,0,none⟩) (by show w.heap.size+1≠w.heap.size+1+1+1;omega) (.slice A8 (es'.length+1) c8));have gG:=aa (oH.o.far (p:=⟨w.heap.size+1+1+1,0,none⟩) (by show wo.heap.size≠w.heap.size+1+1+1;have:=xz.o;omega) (.slice A8 (es'.length+1) c8));have eN:=aa (dQ.o.setCell (p:=⟨w.heap.size+1+1+1,0,none⟩) (by show w.heap.size≤w.heap.size+1+1+1;omega) (.slice A8 (es'.length+1) c8));refine hK.out _ _ ⟨gG.o.cell 0,gG.o.cell 2⟩ (fun hHeld=>?_);clear hK K
   try simp only[ak]
   refine cz ?_;clear AR AU;go_wp2_with fail;go_roundg gk';have hl:(es'++[(⟨nm,A6,cd.length,c6,A7,cx.length,c7⟩:Cc)]).length=es'.length+1:=by simp
   refine⟨j+1,A8,c8,es'++[⟨nm,A6,cd.length,c6,A7,cx.length,c7⟩],by omega,by omega,by go_num,?_,by rw[hl];exact lR.o,AV.o,eN.o⟩;have h9:=vK.o;rw[← HC.o,Gx hlt rfl] at h9;exact h9;omega
  go_simp;refine aV hK (HS.o _ (HG2.o.alloc _)) (fun hHeld=>?_);clear hK K;refine b_ [1,11] ?_;refine iz (fun K hK=>?_) (iz (fun K hK=>?_) bZ)
  ·have hbb:=vJ.o _ (HG2.o.alloc (.cells vI 64));go_simp;refine hK.out _ _ (HS.o _ (HG2.o.alloc (.cells vI 64))) (fun hHeld=>?_);clear hbb;clear hK K
   try simp only[ak]
   refine aR 11 (fun K hK=>?_);refine jP (by rfl) (.tmp 46) (.tmp 48) 46 46 (by rfl) wo.heap.size 64 PF _ 3 40 tU PG.o PH.o PI.o PJ.o (by rfl) (.slice (some ⟨W2.heap.size,0,none⟩) 0 cx.length) 0 [] (by rfl) PK.o (.slice xA cx.length xc) cx.length (gm cx) (by rfl) (ej tU qq.o (Dg cx)) (by omega) (by simp only[maxLen];omega) PL.o ?_;intro A7 c7 w7 fI qD y8;have aZ:=aa ((HG2.o.alloc (.cells vI 64)).grown qD (fun k hk=>by simp[Value.ownBlock] at hk;have:=HG2.o.size;omega));rw[mF] at fI;simp only[dg] at fI;have tW:=aa fI;clear fI qD y8;refine aV hK (HS.o _ aZ.o) (fun hHeld=>?_);clear hK K;refine aj 12 ?_;refine aR 13 (fun K hK=>?_);go_simp;refine aV hK (HS.o _ (aZ.o.alloc _)) (fun hHeld=>?_);clear hK K
   refine aR 14 (fun K hK=>?_);have HE:=aa (KL (KO.o.grow pN (aZ.o.alloc (.cells (Cc.cells ⟨nm,A6,cd.length,c6,A7,cx.length,c7⟩) 48))) (tW.o.alloc (.cells (Cc.cells ⟨nm,A6,cd.length,c6,A7,cx.length,c7⟩) 48)) (A':=A') Gz.o qw.o od.o nm);have oG:=aa ((pO.o.grow lL iF.o).grow lL (aZ.o.alloc (.cells (Cc.cells ⟨nm,A6,cd.length,c6,A7,cx.length,c7⟩) 48)));have xB:=aa (show w.heap.size≤(w7.alloc (.cells (Cc.cells ⟨nm,A6,cd.length,c6,A7,cx.length,c7⟩) 48)).heap.size from a_ (HG.o.trans iF.o).size (aZ.o.alloc _).size)
   refine jP (by rfl) (.tmp 39) (.tmp 51) 42 42 (by rfl) w.heap.size 48 i0 _ 3 64 mq fX.o fY.o fZ.o f_.o (by rfl) (.slice A' es'.length c') es'.length (dw es') (by rfl) oG.o.row _ 1 (Cc.cells ⟨nm,A6,cd.length,c6,A7,cx.length,c7⟩).toList (by rfl) (Src.aD ⟨nm,A6,cd.length,c6,A7,cx.length,c7⟩ _ rfl) (by omega) (by simp only[maxLen];omega) xB.o ?_;intro A8 c8 w8 cX dz tX;have lO:=aa (GR.add (f:=cF) (z:=3) lL oG.o HE.o cX dz tX);have lQ:=aa ((((rQ.o.grow iF.o).grow aZ.o).alloc (.cells (Cc.cells ⟨nm,A6,cd.length,c6,A7,cx.length,c7⟩) 48)).own dz (fun q hq e=>by rw[cE,e] at hq;exact fH pO.o.row rQ.o (by decide) hq))
   have tY:=aa ((((rR.o.grow iF.o).grow aZ.o).alloc (.cells (Cc.cells ⟨nm,A6,cd.length,c6,A7,cx.length,c7⟩) 48)).own dz (fun q hq e=>by rw[cE,e] at hq;exact fH pO.o.row rR.o (by decide) hq));have oH:=aa ((((tV.o).grow aZ.o).alloc (.cells (Cc.cells ⟨nm,A6,cd.length,c6,A7,cx.length,c7⟩) 48)).own dz (fun q hq e=>by rw[cE,e] at hq;have:=qw.o _ hq;omega));have dQ:=aa (((HG.o.trans iF.o).trans (aZ.o.alloc (.cells (Cc.cells ⟨nm,A6,cd.length,c6,A7,cx.length,c7⟩) 48))).grown dz (fun q hq=>(bO oG.o.row q hq).1));have AR:=lQ.o.cell;have AU:=lQ.o.frozen;clear cX dz tX;refine hK.out _ _ ⟨oH.o.cell 0,oH.o.cell 2⟩ (fun hHeld=>?_);clear hK K
   try simp only[ak]
   refine aj 15 ?_;refine aR 16 (fun K hK=>?_);go_simp;have vK:=aa (lO.o.kept lL (y9 (S:=rO w) (eK _ w8) (p:=⟨w.heap.size+1+1+1,0,none⟩) (.inl rfl) (.slice A8 (es'.length+1) c8)) (fun _ h=>h) (fun g hg e=>by
    rcases e with rfl | rfl | e
    ·exact fH lO.o.row lQ.o (by decide) hg
    ·exact fH lO.o.row tY.o (by decide) hg
    have:=(bO lO.o.row g (by rw[cE];exact hg)).1;omega))
   have lR:=aa (lQ.o.bg 0 (.slice A8 (es'.length+1) c8));have AV:=aa (tY.o.far (p:=⟨w.heap.size+1+1+1,0,none⟩) (by show w.heap.size+1≠w.heap.size+1+1+1;omega) (.slice A8 (es'.length+1) c8));have gG:=aa (oH.o.far (p:=⟨w.heap.size+1+1+1,0,none⟩) (by show wo.heap.size≠w.heap.size+1+1+1;have:=xz.o;omega) (.slice A8 (es'.length+1) c8));have eN:=aa (dQ.o.setCell (p:=⟨w.heap.size+1+1+1,0,none⟩) (by show w.heap.size≤w.heap.size+1+1+1;omega) (.slice A8 (es'.length+1) c8));refine hK.out _ _ ⟨gG.o.cell 0,gG.o.cell 2⟩ (fun hHeld=>?_);clear hK K
   try simp only[ak]
   refine cz ?_;clear AR AU;go_wp2_with fail;go_roundg gk';have hl:(es'++[(⟨nm,A6,cd.length,c6,A7,cx.length,c7⟩:Cc)]).length=es'.length+1:=by simp
   refine⟨j+1,A8,c8,es'++[⟨nm,A6,cd.length,c6,A7,cx.length,c7⟩],by omega,by omega,by go_num,?_,by rw[hl];exact lR.o,AV.o,eN.o⟩;have h9:=vK.o;rw[← HC.o,Gx hlt rfl] at h9;exact h9;omega
  refine jP (by rfl) (.tmp 46) (.tmp 48) 46 46 (by rfl) wo.heap.size 64 PF _ 3 40 tU PG.o PH.o PI.o PJ.o (by rfl) (.slice (some ⟨W2.heap.size,0,none⟩) 0 cx.length) 0 [] (by rfl) PK.o (.slice xA cx.length xc) cx.length (gm cx) (by rfl) (ej tU qq.o (Dg cx)) (by omega) (by simp only[maxLen];omega) PL.o ?_;intro A7 c7 w7 fI qD y8;have aZ:=aa ((HG2.o.alloc (.cells vI 64)).grown qD (fun k hk=>by simp[Value.ownBlock] at hk;have:=HG2.o.size;omega));rw[mF] at fI;simp only[dg] at fI;have tW:=aa fI;clear fI qD y8;refine aV hK (HS.o _ aZ.o) (fun hHeld=>?_);clear hK K;refine aj 12 ?_;refine b_ [1,13] ?_;refine iz (fun K hK=>?_) (iz (fun K hK=>?_) bZ)
  ·have hbb:=vJ.o _ aZ.o;go_simp;refine hK.out _ _ (HS.o _ aZ.o) (fun hHeld=>?_);clear hbb;clear hK K
   try simp only[ak]
   refine aR 13 (fun K hK=>?_);go_simp;refine aV hK (HS.o _ (aZ.o.alloc _)) (fun hHeld=>?_);clear hK K;refine aR 14 (fun K hK=>?_);have HE:=aa (KL (KO.o.grow pN (aZ.o.alloc (.cells (Cc.cells ⟨nm,A6,cd.length,c6,A7,cx.length,c7⟩) 48))) (tW.o.alloc (.cells (Cc.cells ⟨nm,A6,cd.length,c6,A7,cx.length,c7⟩) 48)) (A':=A') Gz.o qw.o od.o nm);have oG:=aa ((pO.o.grow lL iF.o).grow lL (aZ.o.alloc (.cells (Cc.cells ⟨nm,A6,cd.length,c6,A7,cx.length,c7⟩) 48)));have xB:=aa (show w.heap.size≤(w7.alloc (.cells (Cc.cells ⟨nm,A6,cd.length,c6,A7,cx.length,c7⟩) 48)).heap.size from a_ (HG.o.trans iF.o).size (aZ.o.alloc _).size)
   refine jP (by rfl) (.tmp 39) (.tmp 51) 42 42 (by rfl) w.heap.size 48 i0 _ 3 64 mq fX.o fY.o fZ.o f_.o (by rfl) (.slice A' es'.length c') es'.length (dw es') (by rfl) oG.o.row _ 1 (Cc.cells ⟨nm,A6,cd.length,c6,A7,cx.length,c7⟩).toList (by rfl) (Src.aD ⟨nm,A6,cd.length,c6,A7,cx.length,c7⟩ _ rfl) (by omega) (by simp only[maxLen];omega) xB.o ?_;intro A8 c8 w8 cX dz tX;have lO:=aa (GR.add (f:=cF) (z:=3) lL oG.o HE.o cX dz tX);have lQ:=aa ((((rQ.o.grow iF.o).grow aZ.o).alloc (.cells (Cc.cells ⟨nm,A6,cd.length,c6,A7,cx.length,c7⟩) 48)).own dz (fun q hq e=>by rw[cE,e] at hq;exact fH pO.o.row rQ.o (by decide) hq))
   have tY:=aa ((((rR.o.grow iF.o).grow aZ.o).alloc (.cells (Cc.cells ⟨nm,A6,cd.length,c6,A7,cx.length,c7⟩) 48)).own dz (fun q hq e=>by rw[cE,e] at hq;exact fH pO.o.row rR.o (by decide) hq));have oH:=aa ((((tV.o).grow aZ.o).alloc (.cells (Cc.cells ⟨nm,A6,cd.length,c6,A7,cx.length,c7⟩) 48)).own dz (fun q hq e=>by rw[cE,e] at hq;have:=qw.o _ hq;omega));have dQ:=aa (((HG.o.trans iF.o).trans (aZ.o.alloc (.cells (Cc.cells ⟨nm,A6,cd.length,c6,A7,cx.length,c7⟩) 48))).grown dz (fun q hq=>(bO oG.o.row q hq).1));have AR:=lQ.o.cell;have AU:=lQ.o.frozen;clear cX dz tX;refine hK.out _ _ ⟨oH.o.cell 0,oH.o.cell 2⟩ (fun hHeld=>?_);clear hK K
   try simp only[ak]
   refine aj 15 ?_;refine aR 16 (fun K hK=>?_);go_simp;have vK:=aa (lO.o.kept lL (y9 (S:=rO w) (eK _ w8) (p:=⟨w.heap.size+1+1+1,0,none⟩) (.inl rfl) (.slice A8 (es'.length+1) c8)) (fun _ h=>h) (fun g hg e=>by
    rcases e with rfl | rfl | e
    ·exact fH lO.o.row lQ.o (by decide) hg
    ·exact fH lO.o.row tY.o (by decide) hg
    have:=(bO lO.o.row g (by rw[cE];exact hg)).1;omega))
   have lR:=aa (lQ.o.bg 0 (.slice A8 (es'.length+1) c8));have AV:=aa (tY.o.far (p:=⟨w.heap.size+1+1+1,0,none⟩) (by show w.heap.size+1≠w.heap.size+1+1+1;omega) (.slice A8 (es'.length+1) c8));have gG:=aa (oH.o.far (p:=⟨w.heap.size+1+1+1,0,none⟩) (by show wo.heap.size≠w.heap.size+1+1+1;have:=xz.o;omega) (.slice A8 (es'.length+1) c8));have eN:=aa (dQ.o.setCell (p:=⟨w.heap.size+1+1+1,0,none⟩) (by show w.heap.size≤w.heap.size+1+1+1;omega) (.slice A8 (es'.length+1) c8));refine hK.out _ _ ⟨gG.o.cell 0,gG.o.cell 2⟩ (fun hHeld=>?_);clear hK K
   try simp only[ak]
   refine cz ?_;clear AR AU;go_wp2_with fail;go_roundg gk';have hl:(es'++[(⟨nm,A6,cd.length,c6,A7,cx.length,c7⟩:Cc)]).length=es'.length+1:=by simp
   refine⟨j+1,A8,c8,es'++[⟨nm,A6,cd.length,c6,A7,cx.length,c7⟩],by omega,by omega,by go_num,?_,by rw[hl];exact lR.o,AV.o,eN.o⟩;have h9:=vK.o;rw[← HC.o,Gx hlt rfl] at h9;exact h9;omega
  go_simp;refine aV hK (HS.o _ (aZ.o.alloc _)) (fun hHeld=>?_);clear hK K;refine aR 1 (fun K hK=>?_);have hbb:=vJ.o _ (aZ.o.alloc (.cells (Cc.cells ⟨nm,A6,cd.length,c6,A7,cx.length,c7⟩) 48));go_simp;refine hK.out _ _ (HS.o _ (aZ.o.alloc (.cells (Cc.cells ⟨nm,A6,cd.length,c6,A7,cx.length,c7⟩) 48))) (fun hHeld=>?_);clear hbb;clear hK K
  try simp only[ak]
  refine aR 14 (fun K hK=>?_);have HE:=aa (KL (KO.o.grow pN (aZ.o.alloc (.cells (Cc.cells ⟨nm,A6,cd.length,c6,A7,cx.length,c7⟩) 48))) (tW.o.alloc (.cells (Cc.cells ⟨nm,A6,cd.length,c6,A7,cx.length,c7⟩) 48)) (A':=A') Gz.o qw.o od.o nm);have oG:=aa ((pO.o.grow lL iF.o).grow lL (aZ.o.alloc (.cells (Cc.cells ⟨nm,A6,cd.length,c6,A7,cx.length,c7⟩) 48)));have xB:=aa (show w.heap.size≤(w7.alloc (.cells (Cc.cells ⟨nm,A6,cd.length,c6,A7,cx.length,c7⟩) 48)).heap.size from a_ (HG.o.trans iF.o).size (aZ.o.alloc _).size)
  refine jP (by rfl) (.tmp 39) (.tmp 51) 42 42 (by rfl) w.heap.size 48 i0 _ 3 64 mq fX.o fY.o fZ.o f_.o (by rfl) (.slice A' es'.length c') es'.length (dw es') (by rfl) oG.o.row _ 1 (Cc.cells ⟨nm,A6,cd.length,c6,A7,cx.length,c7⟩).toList (by rfl) (Src.aD ⟨nm,A6,cd.length,c6,A7,cx.length,c7⟩ _ rfl) (by omega) (by simp only[maxLen];omega) xB.o ?_;intro A8 c8 w8 cX dz tX;have lO:=aa (GR.add (f:=cF) (z:=3) lL oG.o HE.o cX dz tX);have lQ:=aa ((((rQ.o.grow iF.o).grow aZ.o).alloc (.cells (Cc.cells ⟨nm,A6,cd.length,c6,A7,cx.length,c7⟩) 48)).own dz (fun q hq e=>by rw[cE,e] at hq;exact fH pO.o.row rQ.o (by decide) hq))
  have tY:=aa ((((rR.o.grow iF.o).grow aZ.o).alloc (.cells (Cc.cells ⟨nm,A6,cd.length,c6,A7,cx.length,c7⟩) 48)).own dz (fun q hq e=>by rw[cE,e] at hq;exact fH pO.o.row rR.o (by decide) hq));have oH:=aa ((((tV.o).grow aZ.o).alloc (.cells (Cc.cells ⟨nm,A6,cd.length,c6,A7,cx.length,c7⟩) 48)).own dz (fun q hq e=>by rw[cE,e] at hq;have:=qw.o _ hq;omega));have dQ:=aa (((HG.o.trans iF.o).trans (aZ.o.alloc (.cells (Cc.cells ⟨nm,A6,cd.length,c6,A7,cx.length,c7⟩) 48))).grown dz (fun q hq=>(bO oG.o.row q hq).1));have AR:=lQ.o.cell;have AU:=lQ.o.frozen;clear cX dz tX;refine hK.out _ _ ⟨oH.o.cell 0,oH.o.cell 2⟩ (fun hHeld=>?_);clear hK K
  try simp only[ak]
  refine aj 15 ?_;refine aR 16 (fun K hK=>?_);go_simp;have vK:=aa (lO.o.kept lL (y9 (S:=rO w) (eK _ w8) (p:=⟨w.heap.size+1+1+1,0,none⟩) (.inl rfl) (.slice A8 (es'.length+1) c8)) (fun _ h=>h) (fun g hg e=>by
   rcases e with rfl | rfl | e
   ·exact fH lO.o.row lQ.o (by decide) hg
   ·exact fH lO.o.row tY.o (by decide) hg
   have:=(bO lO.o.row g (by rw[cE];exact hg)).1;omega))
  have lR:=aa (lQ.o.bg 0 (.slice A8 (es'.length+1) c8));have AV:=aa (tY.o.far (p:=⟨w.heap.size+1+1+1,0,none⟩) (by show w.heap.size+1≠w.heap.size+1+1+1;omega) (.slice A8 (es'.length+1) c8));have gG:=aa (oH.o.far (p:=⟨w.heap.size+1+1+1,0,none⟩) (by show wo.heap.size≠w.heap.size+1+1+1;have:=xz.o;omega) (.slice A8 (es'.length+1) c8));have eN:=aa (dQ.o.setCell (p:=⟨w.heap.size+1+1+1,0,none⟩) (by show w.heap.size≤w.heap.size+1+1+1;omega) (.slice A8 (es'.length+1) c8));refine hK.out _ _ ⟨gG.o.cell 0,gG.o.cell 2⟩ (fun hHeld=>?_);clear hK K
  try simp only[ak]
  refine cz ?_;clear AR AU;go_wp2_with fail;go_roundg gk';have hl:(es'++[(⟨nm,A6,cd.length,c6,A7,cx.length,c7⟩:Cc)]).length=es'.length+1:=by simp
  refine⟨j+1,A8,c8,es'++[⟨nm,A6,cd.length,c6,A7,cx.length,c7⟩],by omega,by omega,by go_num,?_,by rw[hl];exact lR.o,AV.o,eN.o⟩;have h9:=vK.o;rw[← HC.o,Gx hlt rfl] at h9;exact h9;omega
 have hjl:j=st.length:=by omega
 subst hjl;have hcr:=pO.o;rw[fC] at hcr;have vK:=aa (hcr.kept lL (y9 (S:=rO w) (eK _ wr) (p:=⟨w.heap.size+1,0,none⟩) (.inr (.inl rfl)) (.slice A' es'.length c')) (fun _ h=>h) (fun g hg e=>by
  rcases e with rfl | rfl | e
  ·exact fH hcr.row rQ.o (by decide) hg
  ·exact fH hcr.row rR.o (by decide) hg
  have:=(bO hcr.row g (by rw[cE];exact hg)).1;omega))
 have aeJ:=aa (show es'.length=st.length from lN.o);have qE:=aa rR.o;have hb1:=rR.o.cell;have hb4:=rQ.o.cell;have tZ:=rR.o.frozen;clear hcr;have qF:=aa (HG.o.setCell (p:=⟨w.heap.size+1,0,none⟩) (by show w.heap.size≤w.heap.size+1;omega) (.slice A' es'.length c'));go_wp2_with fail;exact gK (aeA rfl rfl (show Blk _ _ _ #[.slice A' es'.length c'] from qE.o.bg 0 _)) rfl ⟨qF.o,A',c',es',by rw[aeJ.o],vK.o.row,vK.o.two.mono fun a b k=>lL _ _ (fp.sub fun q hq=>hq.imp id fun h=>.inr (.inr h)) a b k⟩
end
end Go.Proofs.YtndjopkdbdcmdaaGreatDoor
