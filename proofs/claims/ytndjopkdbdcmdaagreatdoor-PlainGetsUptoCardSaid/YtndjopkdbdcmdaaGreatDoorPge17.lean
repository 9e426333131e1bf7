/- Part 17 of the proof of pgets_card. -/
import Derived.Test.YtndjopkdbdcmdaaGreatDoorPge14
import Derived.Deep.Onto
set_option linter.unusedVariables false
set_option linter.unusedSimpArgs false
set_option maxRecDepth 100000
set_option maxHeartbeats 12800000
open Go.Proofs.Tryz
open Go.RowKit
namespace Go.Proofs.YtndjopkdbdcmdaaGreatDoor
variable {A:Option Addr}{C:Addr→Value→Prop}{F:Func}{N base c g i j m vb z:Nat}{P:Program}{Q:Exit→Act→World→Prop}{W W' w w' w0:World}{a:Act}{ag:List V}{cs tmps:Array Value}{cx:Cv}{d:Option Tmp}{md:Region.Mode}{news xs:List Value}{ops:Array Oper}{s:ByteArray}{st:List Co}{u v:Value}
section
open Go.RowKit Go.Shelf Go.WideShapes
theorem YT(n:Nat)(hn:n<18446744073709551616):gZ n=(decide (n / 4503599627370496 % 2048=2047)&&decide (n % 4503599627370496≠0)):=by
 have h1:Ieee.double.signWeight=9223372036854775808:=by decide
 have h2:Ieee.double.binade=4503599627370496:=by decide
 have h3:Ieee.double.infRung=9218868437227405312:=by decide
 unfold gZ Ieee.Format.order Ieee.Format.read;rw[h1,h2,h3];simp only;by_cases c1:n % 9223372036854775808<4503599627370496
 ·rw[aD c1,cm (by omega)];simp[Ieee.Datum.order]
 rw[ak c1];by_cases c2:n % 9223372036854775808<9218868437227405312
 ·rw[aD c2,cm (by omega)];simp[Ieee.Datum.order]
 rw[ak c2];by_cases c3:n % 9223372036854775808=9218868437227405312
 ·rw[aD c3,cj (show n / 4503599627370496 % 2048=2047 by omega),cm (show ¬ n % 4503599627370496≠0 by omega)];simp[Ieee.Datum.order]
 rw[ak c3,cj (show n / 4503599627370496 % 2048=2047 by omega),cj (show n % 4503599627370496≠0 by omega)];simp[Ieee.Datum.order]
theorem Row.agG{b1 b2:Nat}{xs:List UInt8}(h:Row w b1 v m xs)(hb:b2≤b1):Row w b2 v m xs:=by
 rcases h.2 with q | ⟨g,cap,cur,hv,hg,r⟩
 ·exact⟨h.1,.inl q⟩
 exact⟨h.1,.inr ⟨g,cap,cur,hv,aV hb hg,r⟩⟩
theorem gm.row{b xs:List UInt8}{n:Nat}(h:xs=b)(hn:n=b.length)(hb:w.heap.size≤base)(hr:Row w' base (.slice A n c) n xs)(hg:Grow w w'):gm w b (.returned (.slice A n c)) w':=
 gm.of h hn (hr.agG hb) hg
theorem agH(i:Int)(h1:-9223372036854775808≤i)(h2:i≤9223372036854775807):(fl i).1<18446744073709551616∧(fl i).2<18446744073709551616:=by
 have hc:=Ru i h1 h2;obtain⟨FLT⟩:=hc;exact⟨by omega,by omega⟩
theorem agI{S:World→Prop}{n:Nat}{l:Array Bool}(di dj dk:Option Tmp)(i j k:Nat)(R:Value→Value→Value→World→Prop)
 (rest:∀x y z W2,R x y z W2→wpAnyH P md ops Q S n (((l.setIfInBounds i true).setIfInBounds j true).setIfInBounds k true) (((a.put di x).put dj y).put dk z) W2)
 (go:(∀x y z W2,R x y z W2→wpAnyH P md ops Q S n (((l.setIfInBounds i true).setIfInBounds j true).setIfInBounds k true) (((a.put di x).put dj y).put dk z) W2)→wpAnyH P md ops Q S (n+3) l a W):wpAnyH P md ops Q S (n+3) l a W:=go rest
def CvC(w wr:World)(m:Nat)(xs:List UInt8)(x:UInt8)(b:List UInt8)(y z:Value)(W:World):Prop:=
 ∃A1 c1 cn gv,y=.slice A1 (m+1) c1∧z=.slice (some ⟨gv,0,none⟩) b.length cn∧Row W (w.heap.size+1) (.slice A1 (m+1) c1) (m+1) (xs++[x])∧b.length≤cn∧bh W (some ⟨gv,0,none⟩) b∧Below (w.heap.size+1) wr W
theorem YU{gv:Nat}{b:List UInt8}(h:bh W (some ⟨gv,0,none⟩) b)(hg:W.grownBy W' v.ownBlock)(hn:∀k,v.ownBlock=some k→k<gv):bh W' (some ⟨gv,0,none⟩) b:=by
 refine⟨h.1,fun hp=>?_⟩;obtain⟨bk,o,e,hc⟩:=h.2 hp;injection e with e;injection e with e1 e2;subst e1 e2;exact⟨gv,0,rfl,fun j u hu=>⟨World.grownBy.cell hg (hc j u hu).1 (fun e=>by have:=hn gv e.symm;omega),aR _,bG (hc j u hu).2.2 hg.size⟩⟩
def Rv(x:V):Prop:=∀(w:World) (c:Cv),In w x c→x.key.length≤1000000→Calls prog 105 #[c.agg] w (gm w x.key)
theorem agJ(W:World):(Instr.index 196 (.agg #[.int .u8 0,.int .u8 16,.int .u8 32,.int .u8 48,.int .u8 48,.int .u8 64,.int .u8 80,.int .u8 96,.int .u8 112]) (.int .i64 1)).run prog W=.ok (.int .u8 16) W:=by kernel_rfl
theorem agK(W:World):(Instr.index 196 (.agg #[.int .u8 0,.int .u8 16,.int .u8 32,.int .u8 48,.int .u8 48,.int .u8 64,.int .u8 80,.int .u8 96,.int .u8 112]) (.int .i64 2)).run prog W=.ok (.int .u8 32) W:=by kernel_rfl
theorem agL(W:World):(Instr.index 196 (.agg #[.int .u8 0,.int .u8 16,.int .u8 32,.int .u8 48,.int .u8 48,.int .u8 64,.int .u8 80,.int .u8 96,.int .u8 112]) (.int .i64 3)).run prog W=.ok (.int .u8 48) W:=by kernel_rfl
theorem YV(W:World):(Instr.index 196 (.agg #[.int .u8 0,.int .u8 16,.int .u8 32,.int .u8 48,.int .u8 48,.int .u8 64,.int .u8 80,.int .u8 96,.int .u8 112]) (.int .i64 4)).run prog W=.ok (.int .u8 48) W:=by kernel_rfl
theorem agM(W:World):(Instr.index 196 (.agg #[.int .u8 0,.int .u8 16,.int .u8 32,.int .u8 48,.int .u8 48,.int .u8 64,.int .u8 80,.int .u8 96,.int .u8 112]) (.int .i64 5)).run prog W=.ok (.int .u8 64) W:=by kernel_rfl
theorem agN(W:World):(Instr.index 196 (.agg #[.int .u8 0,.int .u8 16,.int .u8 32,.int .u8 48,.int .u8 48,.int .u8 64,.int .u8 80,.int .u8 96,.int .u8 112]) (.int .i64 6)).run prog W=.ok (.int .u8 80) W:=by kernel_rfl
theorem agO(W:World):(Instr.index 196 (.agg #[.int .u8 0,.int .u8 16,.int .u8 32,.int .u8 48,.int .u8 48,.int .u8 64,.int .u8 80,.int .u8 96,.int .u8 112]) (.int .i64 7)).run prog W=.ok (.int .u8 96) W:=by kernel_rfl
theorem agP(W:World):(Instr.index 196 (.agg #[.int .u8 0,.int .u8 16,.int .u8 32,.int .u8 48,.int .u8 48,.int .u8 64,.int .u8 80,.int .u8 96,.int .u8 112]) (.int .i64 8)).run prog W=.ok (.int .u8 112) W:=by kernel_rfl
theorem agQ(w:World)(c:Cv)(hv:In w (V.mk 1 0 [] [] []) c) :
 Calls prog 105 #[c.agg] w (gm w (V.key (V.mk 1 0 [] [] []))):=by
 obtain⟨aB,aL,aF,cB,cL,cF,rfl,h1,h2,h3,h4,h5,h6,h7,h8,h9,hb0⟩:=mg hv;have hz:(w.alloc (.cells #[.int .i64 1,.int .u64 0,.slice aB 0 cB,.slice aL 0 cL,.slice aF 0 cF] 27)).heap.size=w.heap.size+1:=by simp
 have hrow:=xY (w:=w.alloc (.cells #[.int .i64 1,.int .u64 0,.slice aB 0 cB,.slice aL 0 cL,.slice aF 0 cF] 27)) 16 (e:=16) rfl;rw[hz] at hrow;have dP:=aa hrow;have yB:=agJ;have bO:=aa ((az w 27 #[.int .i64 1,.int .u64 0,.slice aB 0 cB,.slice aL 0 cL,.slice aF 0 cF]).alloc (.cells #[.int .u8 16] 5));have aN:=aa (((ah w).alloc (.cells #[.int .i64 1,.int .u64 0,.slice aB 0 cB,.slice aL 0 cL,.slice aF 0 cF] 27)).alloc (.cells #[.int .u8 16] 5));clear hrow hb0;go_enter func105,ntmps105;go_wp2_with fail;go_ret;exact gm.row (by rw[fP];rfl) (by rw[fP];rfl) (by omega) dP.o aN.o
theorem agR(w:World)(c:Cv)(n:Nat)(hv:In w (V.mk 2 n [] [] []) c) :
 Calls prog 105 #[c.agg] w (gm w (V.key (V.mk 2 n [] [] []))):=by
 obtain⟨aB,aL,aF,cB,cL,cF,rfl,h1,h2,h3,h4,h5,h6,h7,h8,h9,hb0⟩:=mg hv;have hz:(w.alloc (.cells #[.int .i64 2,.int .u64 n,.slice aB 0 cB,.slice aL 0 cL,.slice aF 0 cF] 27)).heap.size=w.heap.size+1:=by simp
 have hrow:=xY (w:=w.alloc (.cells #[.int .i64 2,.int .u64 n,.slice aB 0 cB,.slice aL 0 cL,.slice aF 0 cF] 27)) 32 (e:=32) rfl;rw[hz] at hrow;have dP:=aa hrow;have yB:=agK;have bO:=aa ((az w 27 #[.int .i64 2,.int .u64 n,.slice aB 0 cB,.slice aL 0 cL,.slice aF 0 cF]).alloc (.cells #[.int .u8 32] 5));have aN:=aa (((ah w).alloc (.cells #[.int .i64 2,.int .u64 n,.slice aB 0 cB,.slice aL 0 cL,.slice aF 0 cF] 27)).alloc (.cells #[.int .u8 32] 5));have hwr:IntKind.u8.wrap (n:Int)=(n:Int) % 256:=Kk _;clear hrow hb0;go_enter func105,ntmps105
 go_wp2_with (first | (at_builtin;refine gA (ys:=[UInt8.ofNat n]) rfl (.tmp 17) (.tmp 21) _ rfl rfl (dP.o.alloc _) _ rfl (lD _ (Gf _) (cM (by simp) _ _)) (by simp only[aU,bT];omega) (by simp) ?_;intro A2 c2 w2 hr2 hg2;have HG2:=aa (cJ (aN.o.alloc _) (eO (ej hg2 (dP.o.alloc _) (by simp)) (by omega)));have bM:=aa hr2;clear hr2 hg2) | fail);go_ret;exact gm.row (by rw[fP];rfl) (by rw[fP];rfl) (by omega) bM.o HG2.o
theorem agS(w:World)(c:Cv)(n:Nat)(hv:In w (V.mk 3 n [] [] []) c) :
 Calls prog 105 #[c.agg] w (gm w (V.key (V.mk 3 n [] [] []))):=by
 obtain⟨aB,aL,aF,cB,cL,cF,rfl,h1,h2,h3,h4,h5,h6,h7,h8,h9,hb0⟩:=mg hv;have hz:(w.alloc (.cells #[.int .i64 3,.int .u64 n,.slice aB 0 cB,.slice aL 0 cL,.slice aF 0 cF] 27)).heap.size=w.heap.size+1:=by simp
 have hrow:=xY (w:=w.alloc (.cells #[.int .i64 3,.int .u64 n,.slice aB 0 cB,.slice aL 0 cL,.slice aF 0 cF] 27)) 48 (e:=48) rfl;rw[hz] at hrow;have dP:=aa hrow;have yB:=agL;have bO:=aa ((az w 27 #[.int .i64 3,.int .u64 n,.slice aB 0 cB,.slice aL 0 cL,.slice aF 0 cF]).alloc (.cells #[.int .u8 48] 5));have aN:=aa (((ah w).alloc (.cells #[.int .i64 3,.int .u64 n,.slice aB 0 cB,.slice aL 0 cL,.slice aF 0 cF] 27)).alloc (.cells #[.int .u8 48] 5));have hcv:IntKind.i64.wrap (n:Int)=i64 n:=by unfold i64;rw[df];split<;>omega
 have hi1:-9223372036854775808≤i64 n∧i64 n≤9223372036854775807:=by unfold i64;split<;>omega
 obtain⟨I,hI⟩:∃I,i64 n=I:=⟨_,rfl⟩;rw[hI] at hcv hi1;have HI:=aa hI;have Hy:=agH I hi1.1 hi1.2;have oz:=aa (fun w=>aeF I hi1.1 hi1.2 w);obtain⟨F,R,Rw⟩:∃F R,fl I=(F,R):=⟨_,_,rfl⟩;rw[Rw] at Hy oz;dsimp only at Hy oz;have YW:=aa Rw;have HT:=aa (fun w=>P_ F w Hy.1);have HH:=aa (fun w=>Eo (jT F) 8 w (by omega) (Hz F Hy.1));have zJ:=aa (fun w=>Eo R 2 w (by omega) Hy.2);clear hrow hb0 hI Rw;go_enter func105,ntmps105;go_wp2_with fail;refine(oz.o _).mono ?_;rintro e w1 ⟨rfl,rfl⟩
 go_wp2_with (first | (at_builtin;refine gA (ys:=[1]) rfl (.tmp 32) (.tmp 33) _ rfl rfl (dP.o.alloc _) _ rfl (lD 1 rfl (cM (by simp) _ _)) (by simp only[g_,aU,bT]<;>omega) (by first | omega | (simp only[ei];omega)) ?_;intro A2 c2 w2 hr2 hg2;have hz2:=hg2.size;have HG2:=aa (cJ (Dv aN.o _) (eO (ej hg2 (dP.o.alloc _) (by first | omega | (simp only[ei];omega))) (by omega)));have bM:=aa hr2;(try simp only[ei] at hz2);clear hr2 hg2) | fail);refine(HT.o _).mono ?_;rintro e w3 ⟨rfl,rfl⟩;go_wp2_with fail;refine(HH.o _).mono ?_;rintro e w4 ⟨A4,c4,rfl,hr4,hg4⟩;have bY:=aa hr4;have bP:=aa (wG HG2.o hg4);have pW:=aa (bM.o.grow hg4);have zq:=hg4.size;clear hr4 hg4
 go_wp2_with (first | (at_builtin;refine gA (ys:=be 8 (jT F)) rfl (.tmp 35) (.tmp 38) _ rfl rfl pW.o _ rfl (eW fk bY.o.reads.1 (iI _)) (by simp only[g_,aU,bT]<;>omega) (by first | omega | (simp only[ei];omega)) ?_;intro A5 c5 w5 iA bK;have xX:=bK.size;have a_:=aa (cJ bP.o (eO (ej bK pW.o (by first | omega | (simp only[ei];omega))) (by omega)));have eP:=aa iA;(try simp only[ei] at xX);clear iA bK) | fail);refine(zJ.o _).mono ?_;rintro e w6 ⟨A6,c6,rfl,uS,bE⟩;have lK:=aa uS;have aW:=aa (wG a_.o bE);have YX:=aa (eP.o.grow bE);have KM:=bE.size;clear uS bE
 go_wp2_with (first | (at_builtin;refine gA (ys:=be 2 R) rfl (.tmp 39) (.tmp 41) _ rfl rfl YX.o _ rfl (eW fk lK.o.reads.1 (iI _)) (by simp only[g_,aU,bT]<;>omega) (by first | omega | (simp only[ei];omega)) ?_;intro A7 c7 w7 mB bw;have CB:=bw.size;have aX:=aa (cJ aW.o (eO (ej bw YX.o (by first | omega | (simp only[ei];omega))) (by omega)));have fR:=aa mB;(try simp only[ei] at CB);clear mB bw) | (at_builtin;refine gA (ys:=[0]) rfl (.tmp 43) (.tmp 44) _ rfl rfl (fR.o.alloc _) _ rfl (lD 0 rfl (cM (by simp) _ _)) (by simp only[g_,aU,bT]<;>omega) (by first | omega | (simp only[ei];omega)) ?_;intro A8 c8 w8 yl bW;have Xa:=bW.size;have bR:=aa (cJ (Dv aX.o _) (eO (ej bW (fR.o.alloc _) (by first | omega | (simp only[ei];omega))) (by omega)));have kJ:=aa yl;(try simp only[ei] at Xa);clear yl bW) | fail)
 go_ret;exact gm.row (by rw[fP];simp[uV,HI.o,YW.o]) (by rw[fP];simp[uV,HI.o,YW.o,g_]) (by omega) kJ.o bR.o
theorem agT(w:World)(c:Cv)(b:List UInt8)(hv:In w (V.mk 5 0 b [] []) c)(hm:(V.mk 5 0 b [] []).key.length≤1000000) :
 Calls prog 105 #[c.agg] w (gm w (V.key (V.mk 5 0 b [] []))):=by
 obtain⟨aB,aL,aF,cB,cL,cF,rfl,h1,h2,h3,h4,h5,h6,h7,h8,h9,hb0⟩:=mg hv;have hz:(w.alloc (.cells #[.int .i64 5,.int .u64 0,.slice aB b.length cB,.slice aL 0 cL,.slice aF 0 cF] 27)).heap.size=w.heap.size+1:=by simp
 have hrow:=xY (w:=w.alloc (.cells #[.int .i64 5,.int .u64 0,.slice aB b.length cB,.slice aL 0 cL,.slice aF 0 cF] 27)) 64 (e:=64) rfl;rw[hz] at hrow;have dP:=aa hrow;have yB:=agM;have bO:=aa ((az w 27 #[.int .i64 5,.int .u64 0,.slice aB b.length cB,.slice aL 0 cL,.slice aF 0 cF]).alloc (.cells #[.int .u8 64] 5));have aN:=aa (((ah w).alloc (.cells #[.int .i64 5,.int .u64 0,.slice aB b.length cB,.slice aL 0 cL,.slice aF 0 cF] 27)).alloc (.cells #[.int .u8 64] 5));have hbl:b.length≤1000000:=by
  rw[fP] at hm;have:=(qF b).1;simp[eH] at hm;omega
 have HT:=aa (fun w' (h:Grow w w')=>Qa b aB cB w' (bh.grow hb0 h) (by omega));have hel:(eH b).length≤3000000:=by
  have:=(qF b).2;unfold eH;simp;omega
 clear hrow hb0 hm;go_enter func105,ntmps105;go_wp2_with fail;refine(HT.o _ aN.o).mono ?_;rintro e w1 ⟨A1,c1,rfl,hr1,hg1⟩;have fO:=aa hr1;have aO:=aa (wG aN.o hg1);have pW:=aa (dP.o.grow hg1);have hz1:=hg1.size
 try simp only[ei] at hz1
 clear hr1 hg1;go_wp2_with (first | (at_builtin;refine gA (ys:=eH b) rfl (.tmp 80) (.tmp 83) _ rfl rfl pW.o _ rfl (eW fk fO.o.reads.1 (iI _)) (by omega) (by first | omega | (simp only[ei];omega)) ?_;intro A2 c2 w2 hr2 hg2;have hz2:=hg2.size;have HG2:=aa (cJ aO.o (eO (ej hg2 pW.o (by first | omega | (simp only[ei];omega))) (by omega)));have bM:=aa hr2;(try simp only[ei] at hz2);clear hr2 hg2) | fail);go_ret;exact gm.row (by rw[fP];rfl) (by rw[fP];simp;omega) (by omega) bM.o HG2.o
theorem agU(w:World)(c:Cv)(b:List UInt8)(hv:In w (V.mk 6 0 b [] []) c)(hm:(V.mk 6 0 b [] []).key.length≤1000000) :
 Calls prog 105 #[c.agg] w (gm w (V.key (V.mk 6 0 b [] []))):=by
 obtain⟨aB,aL,aF,cB,cL,cF,rfl,h1,h2,h3,h4,h5,h6,h7,h8,h9,hb0⟩:=mg hv;have hz:(w.alloc (.cells #[.int .i64 6,.int .u64 0,.slice aB b.length cB,.slice aL 0 cL,.slice aF 0 cF] 27)).heap.size=w.heap.size+1:=by simp
 have hrow:=xY (w:=w.alloc (.cells #[.int .i64 6,.int .u64 0,.slice aB b.length cB,.slice aL 0 cL,.slice aF 0 cF] 27)) 80 (e:=80) rfl;rw[hz] at hrow;have dP:=aa hrow;have yB:=agN;have bO:=aa ((az w 27 #[.int .i64 6,.int .u64 0,.slice aB b.length cB,.slice aL 0 cL,.slice aF 0 cF]).alloc (.cells #[.int .u8 80] 5));have aN:=aa (((ah w).alloc (.cells #[.int .i64 6,.int .u64 0,.slice aB b.length cB,.slice aL 0 cL,.slice aF 0 cF] 27)).alloc (.cells #[.int .u8 80] 5));have hbl:b.length≤1000000:=by
  rw[fP] at hm;have:=(qF b).1;simp[eH] at hm;omega
 have HT:=aa (fun w' (h:Grow w w')=>Qa b aB cB w' (bh.grow hb0 h) (by omega));have hel:(eH b).length≤3000000:=by
  have:=(qF b).2;unfold eH;simp;omega
 clear hrow hb0 hm;go_enter func105,ntmps105;go_wp2_with fail;refine(HT.o _ aN.o).mono ?_;rintro e w1 ⟨A1,c1,rfl,hr1,hg1⟩;have fO:=aa hr1;have aO:=aa (wG aN.o hg1);have pW:=aa (dP.o.grow hg1);have hz1:=hg1.size
 try simp only[ei] at hz1
 clear hr1 hg1;go_wp2_with (first | (at_builtin;refine gA (ys:=eH b) rfl (.tmp 80) (.tmp 83) _ rfl rfl pW.o _ rfl (eW fk fO.o.reads.1 (iI _)) (by omega) (by first | omega | (simp only[ei];omega)) ?_;intro A2 c2 w2 hr2 hg2;have hz2:=hg2.size;have HG2:=aa (cJ aO.o (eO (ej hg2 pW.o (by first | omega | (simp only[ei];omega))) (by omega)));have bM:=aa hr2;(try simp only[ei] at hz2);clear hr2 hg2) | fail);go_ret;exact gm.row (by rw[fP];rfl) (by rw[fP];simp;omega) (by omega) bM.o HG2.o
theorem agV(w:World)(c:Cv)(n:Nat)(hv:In w (V.mk 4 n [] [] []) c)(sB:gZ n=true) :
 Calls prog 105 #[c.agg] w (gm w (V.key (V.mk 4 n [] [] []))):=by
 obtain⟨aB,aL,aF,cB,cL,cF,rfl,h1,h2,h3,h4,h5,h6,h7,h8,h9,hb0⟩:=mg hv;have hz:(w.alloc (.cells #[.int .i64 4,.int .u64 n,.slice aB 0 cB,.slice aL 0 cL,.slice aF 0 cF] 27)).heap.size=w.heap.size+1:=by simp
 have hrow:=xY (w:=w.alloc (.cells #[.int .i64 4,.int .u64 n,.slice aB 0 cB,.slice aL 0 cL,.slice aF 0 cF] 27)) 48 (e:=48) rfl;rw[hz] at hrow;have dP:=aa hrow;have yB:=YV;have bO:=aa ((az w 27 #[.int .i64 4,.int .u64 n,.slice aB 0 cB,.slice aL 0 cL,.slice aF 0 cF]).alloc (.cells #[.int .u8 48] 5));have aN:=aa (((ah w).alloc (.cells #[.int .i64 4,.int .u64 n,.slice aB 0 cB,.slice aL 0 cL,.slice aF 0 cF] 27)).alloc (.cells #[.int .u8 48] 5));have hnb:=YT n h3;rw[sB] at hnb;have jz:=aa hnb;have hx1:bits .and .u64 ((n:Int) / 4503599627370496) 2047=((n / 4503599627370496 % 2048:Nat):Int):=by
  have h:=u64_and_nat (n / 4503599627370496) 2047 (by omega) (by decide);rw[show (n / 4503599627370496) &&& 2047=n / 4503599627370496 % 2048 from Dn _ 11] at h;rw[← h];rfl
 have hx2:bits .and .u64 (n:Int) 4503599627370495=((n % 4503599627370496:Nat):Int):=by
  have h:=u64_and_nat n 4503599627370495 h3 (by decide);rw[show n &&& 4503599627370495=n % 4503599627370496 from Dn _ 52] at h;exact h
 have HT:=aa (fun w=>P_ n w h3);have HH:=aa (fun w=>Eo (jT n) 8 w (by omega) (Hz n h3));have YY:=aa (fun w=>Eo n 8 w (by omega) h3);obtain⟨E,hE⟩:∃E,n / 4503599627370496 % 2048=E:=⟨_,rfl⟩;obtain⟨M,hM⟩:∃M,n % 4503599627370496=M:=⟨_,rfl⟩;rw[hE] at hx1;rw[hM] at hx2;rw[hE,hM] at jz;clear hrow hb0 hnb hE hM;have Rx:E=2047∧M≠0:=by
  have h:=jz.o.symm;rw[ig,iy,iy] at h;exact h
 obtain⟨rfl,hM0⟩:=Rx;have O8:((M:Int) != 0)=true:=by simpa using hM0
 have hbl:(be 8 n).length=8:=g_ _ _;go_enter func105,ntmps105;go_upto_region 12 with fail;have Ab:=aa dP.o;have YZ:=aa aN.o;change Code.wp _ _ _ _ ((w.alloc (.cells #[.int .i64 4,.int .u64 n,.slice aB 0 cB,.slice aL 0 cL,.slice aF 0 cF] 27)).alloc (.cells #[.int .u8 48] 5));generalize (w.alloc (.cells #[.int .i64 4,.int .u64 n,.slice aB 0 cB,.slice aL 0 cL,.slice aF 0 cF] 27)).alloc (.cells #[.int .u8 48] 5)=wr at Ab YZ bO ⊢;have EK:w.heap.size+1≤wr.heap.size:=bO.o.lt;have iM:=aa (show ∀W',Below (w.heap.size+1) wr W'→W'.cell? ⟨w.heap.size,1,none⟩=some (.int .u64 n) from fun W' h=>(Blk.below bO.o h (by omega)).cell 1);refine dg ?_
 refine cW (S:=fun w'=>w'.cell? ⟨w.heap.size,1,none⟩=some (.int .u64 n)) (by kernel_rfl) (iM.o _ (AO (jH _ _))) (fun hHeld=>?_);refine ai 0 ?_;refine ai 3 ?_;refine ai 4 ?_;have hb:Below (w.heap.size+1) wr wr.drew:=AO (jH _ _);clear hHeld;have hr:=Ab.o.drew;have hz:w.heap.size+1≤wr.drew.heap.size:=EK;generalize wr.drew=ng at hb hr hz ⊢;refine bC [1] ?_;refine fg rfl (fun K hK=>?_) dM;go_simp;have hl:=az ng 5 #[.int .u8 0];replace hb:=oY hb hz (.cells #[.int .u8 0] 5);replace hr:=Row.alloc hr (.cells #[.int .u8 0] 5);replace hz:w.heap.size+1≤(ng.alloc (.cells #[.int .u8 0] 5)).heap.size:=by rw[ei];omega
 refine hK.out _ _ (iM.o _ hb) (fun hHeld=>?_);clear hHeld
 try simp only[aH]
 generalize ng.alloc (.cells #[.int .u8 0] 5)=vD at hl hb hz hr ⊢;generalize ng.heap.size=gl at hl ⊢;refine bC [2] ?_;refine fg rfl (fun K hK=>?_) dM;refine pB (ys:=[0]) (by rfl) (.tmp 59) (.tmp 60) _ (by rfl) (by rfl) hr _ (by rfl) (lD 0 rfl hl) (by simp only[aU,bT];omega) hz ?_;intro A1 c1 EL hr2 hg2;replace hb:=cJ hb (ej hg2 hr hz);replace hz:=aV hz hg2.size;clear hr hg2 hl;have hr:=hr2;clear hr2;refine hK.out _ _ (iM.o _ hb) (fun hHeld=>?_);clear hHeld
 try simp only[aH]
 refine bC [5] ?_;refine fg rfl (fun K hK=>?_) dM;go_simp;refine(YY.o _).mono ?_;rintro e Mc ⟨A2,c2,rfl,hk,dK⟩;replace hr:=Dw hr dK;replace hb:=cJ hb (eO dK hz);replace hz:=aV hz dK.size
 try go_simp
 refine hK.out _ _ (iM.o _ hb) (fun hHeld=>?_);clear hHeld dK
 try simp only[aH]
 refine bC [6] ?_;refine fg rfl (fun K hK=>?_) dM;refine pB (ys:=be 8 n) (by rfl) (.tmp 61) (.tmp 64) _ (by rfl) (by rfl) hr _ (by rfl) (eW fk hk.reads.1 (iI _)) (by first | omega | (simp only[aU,bT];omega)) hz ?_;intro A3 c3 Ry hr3 hg3;replace hb:=cJ hb (ej hg3 hr hz);replace hz:=aV hz hg3.size;refine hK.out _ _ (iM.o _ hb) (fun hHeld=>?_);clear hr hk hg3
 try simp only[aH]
 refine ai 7 ?_;refine cG ?_;clear hHeld;have cE:=aa hr3;have bn:=aa hb;clear hr3 hb;go_wp2_with fail;go_ret;exact gm.row (by rw[fP];simp[oC,sB]) (by rw[fP];simp[oC,sB,g_]) (fJ _) cE.o (cJ YZ.o (eO bn.o (fJ _)))
theorem agW(w:World)(c:Cv)(n:Nat)(hv:In w (V.mk 4 n [] [] []) c)(sB:gZ n=false) :
 Calls prog 105 #[c.agg] w (gm w (V.key (V.mk 4 n [] [] []))):=by
 obtain⟨aB,aL,aF,cB,cL,cF,rfl,h1,h2,h3,h4,h5,h6,h7,h8,h9,hb0⟩:=mg hv;have hz:(w.alloc (.cells #[.int .i64 4,.int .u64 n,.slice aB 0 cB,.slice aL 0 cL,.slice aF 0 cF] 27)).heap.size=w.heap.size+1:=by simp
 have hrow:=xY (w:=w.alloc (.cells #[.int .i64 4,.int .u64 n,.slice aB 0 cB,.slice aL 0 cL,.slice aF 0 cF] 27)) 48 (e:=48) rfl;rw[hz] at hrow;have dP:=aa hrow;have yB:=YV;have bO:=aa ((az w 27 #[.int .i64 4,.int .u64 n,.slice aB 0 cB,.slice aL 0 cL,.slice aF 0 cF]).alloc (.cells #[.int .u8 48] 5));have aN:=aa (((ah w).alloc (.cells #[.int .i64 4,.int .u64 n,.slice aB 0 cB,.slice aL 0 cL,.slice aF 0 cF] 27)).alloc (.cells #[.int .u8 48] 5));have hnb:=YT n h3;rw[sB] at hnb;have jz:=aa hnb;have hx1:bits .and .u64 ((n:Int) / 4503599627370496) 2047=((n / 4503599627370496 % 2048:Nat):Int):=by
  have h:=u64_and_nat (n / 4503599627370496) 2047 (by omega) (by decide);rw[show (n / 4503599627370496) &&& 2047=n / 4503599627370496 % 2048 from Dn _ 11] at h;rw[← h];rfl
 have hx2:bits .and .u64 (n:Int) 4503599627370495=((n % 4503599627370496:Nat):Int):=by
  have h:=u64_and_nat n 4503599627370495 h3 (by decide);rw[show n &&& 4503599627370495=n % 4503599627370496 from Dn _ 52] at h;exact h
 have HT:=aa (fun w=>P_ n w h3);have HH:=aa (fun w=>Eo (jT n) 8 w (by omega) (Hz n h3));have YY:=aa (fun w=>Eo n 8 w (by omega) h3);obtain⟨E,hE⟩:∃E,n / 4503599627370496 % 2048=E:=⟨_,rfl⟩;obtain⟨M,hM⟩:∃M,n % 4503599627370496=M:=⟨_,rfl⟩;rw[hE] at hx1;rw[hM] at hx2;rw[hE,hM] at jz;clear hrow hb0 hnb hE hM;have Rx:E=2047→M=0:=fun hE=>by
  have h:=jz.o.symm;rw[hE,cj rfl,pc,lC] at h;exact Decidable.of_not_not h
 go_enter func105,ntmps105;by_cases hE:E=2047
 focus
  have hM:=Rx hE
  subst hE hM
 rotate_left
 focus
  have hEb:((E:Int)==2047)=false:=by simp;omega
  have hEn:¬ ((E:Int)=2047):=by omega
 all_goals
  go_wp2_with (first | (at_builtin;refine gA (ys:=[1]) rfl (.tmp 66) (.tmp 67) _ rfl rfl (dP.o.alloc _) _ rfl (lD 1 rfl (cM (by simp) _ _)) (by simp only[g_,aU,bT]<;>omega) (by first | omega | (simp only[ei];omega)) ?_;intro A2 c2 w2 hr2 hg2;have hz2:=hg2.size;have HG2:=aa (cJ (Dv aN.o _) (eO (ej hg2 (dP.o.alloc _) (by first | omega | (simp only[ei];omega))) (by omega)));have bM:=aa hr2;(try simp only[ei] at hz2);have Pb:=(hg2.blk (bO.o.alloc _) (sY dP.o bO.o (by decide))).cell;clear hr2 hg2) | fail)
  refine(HT.o _).mono ?_
  rintro e w3 ⟨rfl,rfl⟩
  go_wp2_with fail
  refine(HH.o _).mono ?_
  rintro e w4 ⟨A4,c4,rfl,hr4,hg4⟩
  have bY:=aa hr4
  have bP:=aa (wG HG2.o hg4)
  have pW:=aa (bM.o.grow hg4)
  have zq:=hg4.size
  clear hr4 hg4
  go_wp2_with (first | (at_builtin;refine gA (ys:=be 8 (jT n)) rfl (.tmp 69) (.tmp 73) _ rfl rfl pW.o _ rfl (eW fk bY.o.reads.1 (iI _)) (by simp only[g_,aU,bT]<;>omega) (by first | omega | (simp only[ei];omega)) ?_;intro A5 c5 w5 iA bK;have xX:=bK.size;have a_:=aa (cJ bP.o (eO (ej bK pW.o (by first | omega | (simp only[ei];omega))) (by omega)));have eP:=aa iA;(try simp only[ei] at xX);clear iA bK) | (at_builtin;refine gA (ys:=[0,0,1]) rfl (.tmp 74) (.tmp 75) _ rfl rfl (eP.o.alloc _) _ rfl (eW fk (bh.blk (xs:=[0,0,1]) (cM (by simp) _ _)) (iI _)) (by simp only[g_,aU,bT]<;>omega) (by first | omega | (simp only[ei];omega)) ?_;intro A6 c6 w6 uS bE;have KM:=bE.size;have aW:=aa (cJ (Dv a_.o _) (eO (ej bE (eP.o.alloc _) (by first | omega | (simp only[ei];omega))) (by omega)));have lK:=aa uS;(try simp only[ei] at KM);clear uS bE) | fail)
  go_ret
  exact gm.row (by rw[fP];simp[oC,sB]) (by rw[fP];simp[oC,sB,g_]) (by omega) lK.o aW.o
theorem agX(w:World)(c:Cv)(l:List V)(hl:∀x∈l,Rv x)(hv:In w (V.mk 7 0 [] l []) c)(hm:(V.mk 7 0 [] l []).key.length≤1000000) :
 Calls prog 105 #[c.agg] w (gm w (V.key (V.mk 7 0 [] l []))):=by
 obtain⟨aB,aL,aF,cB,cL,cF,rfl,h1,h2,h3,h4,h5,h6,h7,h8,h9,hb0⟩:=mg hv;have hz:(w.alloc (.cells #[.int .i64 7,.int .u64 0,.slice aB 0 cB,.slice aL l.length cL,.slice aF 0 cF] 27)).heap.size=w.heap.size+1:=by simp
 have hrow:=xY (w:=w.alloc (.cells #[.int .i64 7,.int .u64 0,.slice aB 0 cB,.slice aL l.length cL,.slice aF 0 cF] 27)) 96 (e:=96) rfl;rw[hz] at hrow;have dP:=aa hrow;have yB:=agO;have bO:=aa ((az w 27 #[.int .i64 7,.int .u64 0,.slice aB 0 cB,.slice aL l.length cL,.slice aF 0 cF]).alloc (.cells #[.int .u8 96] 5));have aN:=aa (((ah w).alloc (.cells #[.int .i64 7,.int .u64 0,.slice aB 0 cB,.slice aL l.length cL,.slice aF 0 cF] 27)).alloc (.cells #[.int .u8 96] 5));have HV:=aa hv;have Hl:=aa hl;have ir:(l.map V.fE).flatten.length≤1000000:=by
  rw[fP] at hm;simp only[show ¬ ((7:Int)=1) by decide,show ¬ ((7:Int)=2) by decide,show ¬ ((7:Int)=3) by decide,show ¬ ((7:Int)=4) by decide,show ¬ ((7:Int)=5) by decide,show ¬ ((7:Int)=6) by decide,jc,ly,aU,bp] at hm;omega
 clear hrow hb0 hm hl;go_enter func105,ntmps105;go_wp2_with fail;go_loopg [3,6] (l.length+1) (fun gk v' i wr=>∃(j:Nat) (A':Option Addr) (c':Nat),j≤l.length∧gk+j=l.length+1∧i=.int .i64 j∧v'=.slice A' (1+((l.take j).map V.fE).flatten.length) c'∧Row wr (w.heap.size+1) (.slice A' (1+((l.take j).map V.fE).flatten.length) c') (1+((l.take j).map V.fE).flatten.length) (96::((l.take j).map V.fE).flatten)∧Grow w wr∧Blk wr w.heap.size 27 #[.int .i64 7,.int .u64 0,.slice aB 0 cB,.slice aL l.length cL,.slice aF 0 cF]);exact⟨0,_,_,aR _,by omega,rfl,rfl,dP.o,aN.o,bO.o⟩;obtain⟨j,A',c',hj,hg,rfl,rfl,hr,hgr,hB⟩:=hrel;obtain⟨gk',rfl⟩:=bz gk (by omega);have hc:=hB.cell;have mN:=aa hB;have EK:w.heap.size+1≤wr.heap.size:=hB.lt;by_cases hlt:j<l.length
 ·obtain⟨bk,o,x,ha,hbk,e0,e1,e2,e3,e4,hx⟩:=HV.o.fh j hlt;dsimp only at ha;subst ha;have hcb:∀i,wr.cell? ⟨bk,i,none⟩=w.cell? ⟨bk,i,none⟩:=fun i=>hgr.below.cell (p:=⟨bk,i,none⟩) hbk
  rw[← hcb] at e0 e1 e2 e3 e4;have fU:=ze V.fE l j hlt;have hm2:=dJ List.length fU;rw[bp] at hm2;have hle:=zf V.fE l (j+1);rw[hm2] at hle;have hkl:(V.fE l[j]).length=1+l[j].key.length:=by unfold V.fE;simp;omega
  rw[hkl] at hm2 hle;have fD:=aa fU;have iT:=aa hm2;have tF:=aa hgr;have HX:=aa hx;obtain⟨S,hS⟩:∃S,S=((l.take j).map V.fE).flatten:=⟨_,rfl⟩;have Ab:=aa hr;rw[← hS] at hle Ab fD iT ⊢
  have iM:=aa (show ∀W',Below (w.heap.size+1) wr W'→(fun w'=>w'.cell? ⟨w.heap.size,3,none⟩=some (.slice (some ⟨bk,o,none⟩) l.length cL)∧w'.cell? ⟨bk,o+j*5,none⟩=some (.int .i64 x.k)∧w'.cell? ⟨bk,o+j*5+1,none⟩=some (.int .u64 x.n)∧w'.cell? ⟨bk,o+j*5+2,none⟩=some (.slice x.aB x.nB x.cB)∧w'.cell? ⟨bk,o+j*5+3,none⟩=some (.slice x.aL x.nL x.cL)∧w'.cell? ⟨bk,o+j*5+4,none⟩=some (.slice x.aF x.nF x.cF)) W' from fun W' h=>⟨(h.cell (by show w.heap.size<_;omega)).trans (hc 3),(h.cell (by show bk<_;omega)).trans e0,(h.cell (by show bk<_;omega)).trans e1,(h.cell (by show bk<_;omega)).trans e2,(h.cell (by show bk<_;omega)).trans e3,(h.cell (by show bk<_;omega)).trans e4⟩)
  have ib:=aa (fun W' (h:Below (w.heap.size+1) wr W')=>Hl.o _ (aS hlt) W' x (HX.o.grow (cJ tF.o (eO h (fJ _)))) (by omega));clear hr hgr hx fU hm2 hS hB e0 e1 e2 e3 e4 hcb;go_upto_region 22 with fail;refine dg ?_;refine cW (S:=fun w'=>w'.cell? ⟨w.heap.size,3,none⟩=some (.slice (some ⟨bk,o,none⟩) l.length cL)∧w'.cell? ⟨bk,o+j*5,none⟩=some (.int .i64 x.k)∧w'.cell? ⟨bk,o+j*5+1,none⟩=some (.int .u64 x.n)∧w'.cell? ⟨bk,o+j*5+2,none⟩=some (.slice x.aB x.nB x.cB)∧w'.cell? ⟨bk,o+j*5+3,none⟩=some (.slice x.aL x.nL x.cL)∧w'.cell? ⟨bk,o+j*5+4,none⟩=some (.slice x.aF x.nF x.cF)) (by kernel_rfl) (iM.o _ (AO (jH _ _))) (fun hHeld=>?_)
  refine ai 0 (hy:=bU fun w ay=>by (try obtain⟨hs0,hs1,hs2,hs3,hs4,hs5⟩:=ay);go_simp;try rfl) ?_;refine ai 3 (hy:=bU fun w ay=>by (try obtain⟨hs0,hs1,hs2,hs3,hs4,hs5⟩:=ay);go_simp;try rfl) ?_;refine ai 4 (hy:=bU fun w ay=>by (try obtain⟨hs0,hs1,hs2,hs3,hs4,hs5⟩:=ay);go_simp;try rfl) ?_;refine ai 5 (hy:=bU fun w ay=>by (try obtain⟨hs0,hs1,hs2,hs3,hs4,hs5⟩:=ay);go_simp;try rfl) ?_;refine ai 6 (hy:=bU fun w ay=>by (try obtain⟨hs0,hs1,hs2,hs3,hs4,hs5⟩:=ay);go_simp;try rfl) ?_;refine ai 7 (hy:=bU fun w ay=>by (try obtain⟨hs0,hs1,hs2,hs3,hs4,hs5⟩:=ay);go_simp;try rfl) ?_;have hb:Below (w.heap.size+1) wr wr.drew:=AO (jH _ _);clear hHeld;have hr:=Ab.o.drew;have hz:w.heap.size+1≤wr.drew.heap.size:=EK;generalize wr.drew=ng at hb hr hz ⊢
  refine bC [1] ?_;refine fg rfl (fun K hK=>?_) dM;go_simp;have hl:=az ng 5 #[.int .u8 1];replace hb:=oY hb hz (.cells #[.int .u8 1] 5);replace hr:=Row.alloc hr (.cells #[.int .u8 1] 5);replace hz:w.heap.size+1≤(ng.alloc (.cells #[.int .u8 1] 5)).heap.size:=by rw[ei];omega
  refine hK.out _ _ (iM.o _ hb) (fun hHeld=>?_);clear hHeld
  try simp only[aH]
  generalize ng.alloc (.cells #[.int .u8 1] 5)=vD at hl hb hz hr ⊢;generalize ng.heap.size=gl at hl ⊢;refine bC [2] ?_;refine fg rfl (fun K hK=>?_) dM;refine pB (ys:=[1]) (by rfl) (.tmp 94) (.tmp 95) _ (by rfl) (by rfl) hr _ (by rfl) (lD 1 rfl hl) (by simp only[aU,bT];omega) hz ?_;intro A1 c1 EL hr2 hg2;replace hb:=cJ hb (ej hg2 hr hz);replace hz:=aV hz hg2.size;clear hr hg2 hl;have hr:=hr2;clear hr2;refine hK.out _ _ (iM.o _ hb) (fun hHeld=>?_);clear hHeld
  try simp only[aH]
  refine bC [8] ?_;refine fg rfl (fun K hK=>?_) dM;go_simp;refine(ib.o _ hb).mono ?_;rintro e Mc ⟨A2,c2,rfl,hk,dK⟩;replace hr:=Dw hr dK;replace hb:=cJ hb (eO dK hz);replace hz:=aV hz dK.size
  try go_simp
  refine hK.out _ _ (iM.o _ hb) (fun hHeld=>?_);clear hHeld dK
  try simp only[aH]
  refine bC [9] ?_;refine fg rfl (fun K hK=>?_) dM;refine pB (ys:=l[j].key) (by rfl) (.tmp 96) (.tmp 102) _ (by rfl) (by rfl) hr _ (by rfl) (eW fk hk.reads.1 (iI _)) (by first | omega | (simp only[aU,bT];omega)) hz ?_;intro A3 c3 Ry hr3 hg3;replace hb:=cJ hb (ej hg3 hr hz);replace hz:=aV hz hg3.size;refine hK.out _ _ (iM.o _ hb) (fun hHeld=>?_);clear hr hk hg3
  try simp only[aH]
  refine ai 10 (hy:=bU fun w ay=>by (try obtain⟨hs0,hs1,hs2,hs3,hs4,hs5⟩:=ay);go_simp;try rfl) ?_;refine cG ?_;clear hHeld;have cE:=aa hr3;have bn:=aa hb;clear hr3 hb;go_wp2_with fail;go_roundg gk';have e1:1+S.length+[1].length+l[j].key.length=1+((l.take (j+1)).map V.fE).flatten.length:=by rw[iT.o];simp;omega
  refine⟨j+1,A3,c3,by omega,by omega,by go_num,by rw[← e1];rfl,?_,cJ tF.o (eO bn.o (fJ _)),Blk.below mN.o bn.o (by omega)⟩;rw[← e1,fD.o];simpa [V.fE] using cE.o;omega
 obtain rfl:j=l.length:=by omega
 rw[fT] at hr ⊢;obtain⟨S,hS⟩:∃S,S=(l.map V.fE).flatten:=⟨_,rfl⟩;rw[← hS] at hr ir ⊢;have uQ:=aa hS;have dP:=aa hr;have aN:=aa hgr;clear hr hgr hB hS;go_wp2_with (first | (at_builtin;refine gA (ys:=[0]) rfl (.tmp 104) (.tmp 105) _ rfl rfl (dP.o.alloc _) _ rfl (lD 0 rfl (cM (by simp) _ _)) (by simp only[g_,aU,bT]<;>omega) (by first | omega | (simp only[ei];omega)) ?_;intro A7 c7 w7 mB bw;have CB:=bw.size;have aX:=aa (cJ (Dv aN.o _) (eO (ej bw (dP.o.alloc _) (by first | omega | (simp only[ei];omega))) (by omega)));have fR:=aa mB;(try simp only[ei] at CB);clear mB bw) | fail);go_ret;have hkey:(V.mk 7 0 [] l []).key=96::(S++[0]):=by rw[fP,uQ.o];rfl
 rw[hkey];exact gm.row (show 96::S++[0]=_ from rfl) (by simp only[aU,bp,bT];omega) (fJ _) fR.o aX.o
theorem agY(w:World)(c:Cv)(f:List (ByteArray×V))(hl:∀x∈f,Rv x.2)(hv:In w (V.mk 8 0 [] [] f) c)(hm:(V.mk 8 0 [] [] f).key.length≤1000000) :
 Calls prog 105 #[c.agg] w (gm w (V.key (V.mk 8 0 [] [] f))):=by
 obtain⟨aB,aL,aF,cB,cL,cF,rfl,h1,h2,h3,h4,h5,h6,h7,h8,h9,hb0⟩:=mg hv;have hz:(w.alloc (.cells #[.int .i64 8,.int .u64 0,.slice aB 0 cB,.slice aL 0 cL,.slice aF f.length cF] 27)).heap.size=w.heap.size+1:=by simp
 have hrow:=xY (w:=w.alloc (.cells #[.int .i64 8,.int .u64 0,.slice aB 0 cB,.slice aL 0 cL,.slice aF f.length cF] 27)) 112 (e:=112) rfl;rw[hz] at hrow;have dP:=aa hrow;have yB:=agP;have bO:=aa ((az w 27 #[.int .i64 8,.int .u64 0,.slice aB 0 cB,.slice aL 0 cL,.slice aF f.length cF]).alloc (.cells #[.int .u8 112] 5));have aN:=aa (((ah w).alloc (.cells #[.int .i64 8,.int .u64 0,.slice aB 0 cB,.slice aL 0 cL,.slice aF f.length cF] 27)).alloc (.cells #[.int .u8 112] 5));have HV:=aa hv;have Hl:=aa hl;have ir:(f.map V.fF).flatten.length≤1000000:=by
  rw[fP] at hm;simp only[show ¬ ((8:Int)=1) by decide,show ¬ ((8:Int)=2) by decide,show ¬ ((8:Int)=3) by decide,show ¬ ((8:Int)=4) by decide,show ¬ ((8:Int)=5) by decide,show ¬ ((8:Int)=6) by decide,show ¬ ((8:Int)=7) by decide,jc,ly,aU,bp] at hm;omega
 clear hrow hb0 hm hl;go_enter func105,ntmps105;go_wp2_with fail;go_loopg [3,7] (f.length+1) (fun gk v' i wr=>∃(j:Nat) (A':Option Addr) (c':Nat),j≤f.length∧gk+j=f.length+1∧i=.int .i64 j∧v'=.slice A' (1+((f.take j).map V.fF).flatten.length) c'∧Row wr (w.heap.size+1) (.slice A' (1+((f.take j).map V.fF).flatten.length) c') (1+((f.take j).map V.fF).flatten.length) (112::((f.take j).map V.fF).flatten)∧Grow w wr∧Blk wr w.heap.size 27 #[.int .i64 8,.int .u64 0,.slice aB 0 cB,.slice aL 0 cL,.slice aF f.length cF]);exact⟨0,_,_,aR _,by omega,rfl,rfl,dP.o,aN.o,bO.o⟩;obtain⟨j,A',c',hj,hg,rfl,rfl,hr,hgr,hB⟩:=hrel;obtain⟨gk',rfl⟩:=bz gk (by omega);have hc:=hB.cell;have mN:=aa hB;have EK:w.heap.size+1≤wr.heap.size:=hB.lt;by_cases hlt:j<f.length
 ·obtain⟨bk,o,x,ha,hbk,es,ik,e0,e1,e2,e3,e4,hx⟩:=HV.o.gX j hlt;dsimp only at ha;subst ha;have fU:=ze V.fF f j hlt;have hm2:=dJ List.length fU;rw[bp] at hm2;have hle:=zf V.fF f (j+1);rw[hm2] at hle;have hkl:(V.fF f[j]).length=1+((eH f[j].1.data.toList).length+f[j].2.key.length):=by unfold V.fF;simp;omega
  rw[hkl] at hm2 hle;have fD:=aa fU;have iT:=aa hm2;have tF:=aa hgr;obtain⟨s,hs⟩:∃s,s=f[j].1:=⟨_,rfl⟩;obtain⟨y,hy⟩:∃y,y=f[j].2:=⟨_,rfl⟩;have Rz:=Hl.o _ (aS hlt);have DX:V.fF f[j]=1::(eH s.data.toList++y.key):=by rw[hs,hy];rfl
  rw[DX] at fD;rw[← hs] at es ik hle iT;rw[← hy] at hx hle iT Rz;have HLY:=aa Rz;have HX:=aa hx;have tD:=aa (show w.cell? ⟨bk,o+j*6,none⟩=some (.string s) from es);have Md:=aa e0;have HE1:=aa e1;have HE2:=aa e2;have HE3:=aa e3;have HE4:=aa e4;obtain⟨S,hS⟩:∃S,S=((f.take j).map V.fF).flatten:=⟨_,rfl⟩;have Ab:=aa hr;rw[← hS] at hle Ab fD iT ⊢;have hel:s.data.toList.length≤(eH s.data.toList).length:=by unfold eH;rw[bp];have:=(qF s.data.toList).1;omega
  have iM:=aa (show ∀W',Below (w.heap.size+1) wr W'→(fun w'=>w'.cell? ⟨w.heap.size,4,none⟩=some (.slice (some ⟨bk,o,none⟩) f.length cF)∧w'.cell? ⟨bk,o+j*6,none⟩=some (.string s)) W' from fun W' h=>⟨(h.cell (by show w.heap.size<_;omega)).trans (hc 4),(h.cell (by show bk<_;omega)).trans ((hgr.below.cell (p:=⟨bk,o+j*6,none⟩) hbk).trans tD.o)⟩);clear hr hgr hx fU hm2 hS hB e0 e1 e2 e3 e4 es hs hy DX Rz hkl;go_upto_region 28 with fail;refine dg ?_;refine cW (S:=fun w'=>w'.cell? ⟨w.heap.size,4,none⟩=some (.slice (some ⟨bk,o,none⟩) f.length cF)∧w'.cell? ⟨bk,o+j*6,none⟩=some (.string s)) (by kernel_rfl) (iM.o _ (AO (jH _ _))) (fun hHeld=>?_);refine ai 0 (hy:=bU fun w ay=>by (try obtain⟨hs0,hs1⟩:=ay);go_simp;try rfl) ?_
  refine ai 3 (hy:=bU fun w ay=>by (try obtain⟨hs0,hs1⟩:=ay);go_simp;try rfl) ?_;refine ai 4 (hy:=bU fun w ay=>by (try obtain⟨hs0,hs1⟩:=ay);go_simp;try rfl) ?_;refine ai 5 (hy:=bU fun w ay=>by (try obtain⟨hs0,hs1⟩:=ay);go_simp;try rfl) ?_;refine ai 6 (hy:=bU fun w ay=>by (try obtain⟨hs0,hs1⟩:=ay);go_simp;try rfl) ?_;refine ai 7 (hy:=bU fun w ay=>by (try obtain⟨hs0,hs1⟩:=ay);go_simp;try rfl) ?_;refine ai 8 (hy:=bU fun w ay=>by (try obtain⟨hs0,hs1⟩:=ay);go_simp;try rfl) ?_;have hb:Below (w.heap.size+1) wr wr.drew:=AO (jH _ _);clear hHeld;have hr:=Ab.o.drew;have hz:w.heap.size+1≤wr.drew.heap.size:=EK;generalize wr.drew=ng at hb hr hz ⊢;refine agI (some 117) (some 118) (some 125) 1 2 9 (fun _ y z W=>CvC w wr (1+S.length) (112::S) 1 s.data.toList y z W) ?_ ?_
  rotate_left 1
  ·intro rest;simp only[aH] at rest;refine bC [1,9] ?_;refine fg rfl (fun K hK=>?_) ?_
   ·go_simp;have hl:=az ng 5 #[.int .u8 1];replace hb:=oY hb hz (.cells #[.int .u8 1] 5);replace hr:=Row.alloc hr (.cells #[.int .u8 1] 5);replace hz:w.heap.size+1≤(ng.alloc (.cells #[.int .u8 1] 5)).heap.size:=by rw[ei];omega
    refine hK.out _ _ (iM.o _ hb) (fun hHeld=>?_);clear hHeld
    try simp only[aH]
    generalize ng.alloc (.cells #[.int .u8 1] 5)=vD at hl hb hz hr ⊢;generalize ng.heap.size=gl at hl ⊢;refine bC [2,9] ?_;refine fg rfl (fun K hK=>?_) ?_
    ·refine pB (ys:=[1]) (by rfl) (.tmp 116) (.tmp 117) _ (by rfl) (by rfl) hr _ (by rfl) (lD 1 rfl hl) (by simp only[aU,bT];omega) hz ?_;intro A1 c1 EL hr2 hg2;replace hb:=cJ hb (ej hg2 hr hz);replace hz:=aV hz hg2.size;clear hr hg2 hl;have hr:=hr2;clear hr2;refine hK.out _ _ (iM.o _ hb) (fun hHeld=>?_);clear hHeld
     try simp only[aH]
     refine bC [9] ?_;refine fg rfl (fun K hK=>?_) dM;obtain⟨cn,Mc,hcv,hcn,dK,hv⟩:=BF EL s;go_simp;replace hr:=Dw hr dK;replace hb:=cJ hb (eO dK hz);replace hz:=aV hz dK.size;refine hK.out _ _ (iM.o _ hb) (fun hHeld=>?_);clear hHeld dK hcv
     try simp only[aH]
     generalize EL.heap.size=gv at hv ⊢;exact rest _ _ _ _ ⟨A1,c1,cn,gv,rfl,rfl,hr,hcn,hv,hb⟩
    refine fg rfl (fun K hK=>?_) dM;obtain⟨cn,EL,hcv,hcn,dK,hv⟩:=BF vD s;go_simp;have H6:∀k,Value.ownBlock (.slice A' (1+S.length) c')=some k→k<vD.heap.size:=fun k e1=>(bJ hr k e1).2
    replace hr:=Dw hr dK;replace hl:=Blk.grow hl dK;replace hb:=cJ hb (eO dK hz);replace hz:=aV hz dK.size;refine hK.out _ _ (iM.o _ hb) (fun hHeld=>?_);clear hHeld dK hcv
    try simp only[aH]
    generalize vD.heap.size=gv at hv H6 ⊢;refine bC [2] ?_;refine fg rfl (fun K hK=>?_) dM;refine pB (ys:=[1]) (by rfl) (.tmp 116) (.tmp 117) _ (by rfl) (by rfl) hr _ (by rfl) (lD 1 rfl hl) (by simp only[aU,bT];omega) hz ?_;intro A1 c1 Mc hr2 hg2;replace hv:=YU hv hg2.grow H6;replace hb:=cJ hb (ej hg2 hr hz);replace hz:=aV hz hg2.size;clear hr hg2 hl;have hr:=hr2;clear hr2;refine hK.out _ _ (iM.o _ hb) (fun hHeld=>?_);clear hHeld
    try simp only[aH]
    rw[Oc (i:=9) (j:=2) _ _ (by decide)];exact rest _ _ _ _ ⟨A1,c1,cn,gv,rfl,rfl,hr,hcn,hv,hb⟩
   refine fg rfl (fun K hK=>?_) dM;obtain⟨cn,vD,hcv,hcn,dK,hv⟩:=BF ng s;go_simp;have H6:∀k,Value.ownBlock (.slice A' (1+S.length) c')=some k→k<ng.heap.size:=fun k e1=>(bJ hr k e1).2
   replace hr:=Dw hr dK;replace hb:=cJ hb (eO dK hz);replace hz:=aV hz dK.size;refine hK.out _ _ (iM.o _ hb) (fun hHeld=>?_);clear hHeld dK hcv
   try simp only[aH]
   generalize ng.heap.size=gv at hv H6 ⊢;refine bC [1] ?_;refine fg rfl (fun K hK=>?_) dM;go_simp;have hl:=az vD 5 #[.int .u8 1];replace hb:=oY hb hz (.cells #[.int .u8 1] 5);replace hr:=Row.alloc hr (.cells #[.int .u8 1] 5);replace hv:=bh.grow hv ((ah _).alloc (.cells #[.int .u8 1] 5));replace hz:w.heap.size+1≤(vD.alloc (.cells #[.int .u8 1] 5)).heap.size:=by rw[ei];omega
   refine hK.out _ _ (iM.o _ hb) (fun hHeld=>?_);clear hHeld
   try simp only[aH]
   generalize vD.alloc (.cells #[.int .u8 1] 5)=EL at hl hb hz hr hv ⊢;generalize vD.heap.size=gl at hl ⊢;refine bC [2] ?_;refine fg rfl (fun K hK=>?_) dM;refine pB (ys:=[1]) (by rfl) (.tmp 116) (.tmp 117) _ (by rfl) (by rfl) hr _ (by rfl) (lD 1 rfl hl) (by simp only[aU,bT];omega) hz ?_;intro A1 c1 Mc hr2 hg2;replace hv:=YU hv hg2.grow H6;replace hb:=cJ hb (ej hg2 hr hz);replace hz:=aV hz hg2.size;clear hr hg2 hl;have hr:=hr2;clear hr2;refine hK.out _ _ (iM.o _ hb) (fun hHeld=>?_);clear hHeld
   try simp only[aH]
   rw[Oc (i:=9) (j:=1) _ _ (by decide),Oc (i:=9) (j:=2) _ _ (by decide)];exact rest _ _ _ _ ⟨A1,c1,cn,gv,rfl,rfl,hr,hcn,hv,hb⟩
  clear hr hb hz;rintro x0 x1 x2 w30 ⟨A1,c1,cn,gv,rfl,rfl,hr,hcn,hv,hb⟩
  try simp only[aH]
  have hz:w.heap.size+1≤w30.heap.size:=aV EK hb.size;refine bC [10] ?_;refine fg rfl (fun K hK=>?_) dM;go_simp;refine(Qa s.data.toList (some ⟨gv,0,none⟩) cn _ hv (by omega)).mono ?_;rintro e w31 ⟨A2,c2,rfl,hk,dK⟩;replace hr:=Dw hr dK;replace hb:=cJ hb (eO dK hz);replace hz:=aV hz dK.size
  try go_simp
  refine hK.out _ _ (iM.o _ hb) (fun hHeld=>?_);clear hHeld dK
  try simp only[aH]
  refine bC [11] ?_;refine fg rfl (fun K hK=>?_) dM;refine pB (ys:=eH s.data.toList) (by rfl) (.tmp 118) (.tmp 126) _ (by rfl) (by rfl) hr _ (by rfl) (eW fk hk.reads.1 (iI _)) (by first | omega | (simp only[aU,bT];omega)) hz ?_;intro A3 c3 Ry hr3 hg3;replace hb:=cJ hb (ej hg3 hr hz);replace hz:=aV hz hg3.size;refine hK.out _ _ (iM.o _ hb) (fun hHeld=>?_);clear hr hk hg3
  try simp only[aH]
  refine ai 12 (hy:=bU fun w ay=>by (try obtain⟨hs0,hs1⟩:=ay);go_simp;try rfl) ?_;refine cG ?_;clear hHeld;have cE:=aa hr3;have bn:=aa hb;clear hr3 hb;have a_:=aa (cJ tF.o (eO bn.o (fJ _)));have av:=aa (Blk.below mN.o bn.o (by omega));have F9:=av.o.cell;have e0:=(a_.o.cell (p:=⟨bk,o+j*6+1,none⟩) hbk).trans Md.o;have e1:=(a_.o.cell (p:=⟨bk,o+j*6+1+1,none⟩) hbk).trans HE1.o;have e2:=(a_.o.cell (p:=⟨bk,o+j*6+1+2,none⟩) hbk).trans HE2.o;have e3:=(a_.o.cell (p:=⟨bk,o+j*6+1+3,none⟩) hbk).trans HE3.o;have e4:=(a_.o.cell (p:=⟨bk,o+j*6+1+4,none⟩) hbk).trans HE4.o;clear hc;go_wp2_with fail;refine(HLY.o Ry x (HX.o.grow a_.o) (by omega)).mono ?_;rintro e w60 ⟨A6,c6,rfl,uS,bE⟩;have lK:=aa uS
  have aW:=aa (wG a_.o bE);have pW:=aa (cE.o.grow bE);have dh:=aa (av.o.grow bE);have KM:=bE.size;clear uS bE e0 e1 e2 e3 e4 F9;go_wp2_with (first | (at_builtin;refine gA (ys:=y.key) rfl (.tmp 128) (.tmp 135) _ rfl rfl pW.o _ rfl (eW fk lK.o.reads.1 (iI _)) (by first | omega | (simp only[aU,bT];omega)) (by first | omega | (simp only[ei];omega)) ?_;intro A7 c7 w7 mB bw;have CB:=bw.size;have aX:=aa (cJ aW.o (eO (ej bw pW.o (by first | omega | (simp only[ei];omega))) (by omega)));have fR:=aa mB;(try simp only[ei] at CB);have eu:=aa (bw.blk dh.o (sY pW.o dh.o (by decide)));clear mB bw) | fail);go_roundg gk'
  have e1:1+S.length+[1].length+(eH s.data.toList).length+y.key.length=1+((f.take (j+1)).map V.fF).flatten.length:=by rw[iT.o];simp only[aU,bT];omega
  refine⟨j+1,A7,c7,by omega,by omega,by go_num,by rw[← e1];rfl,?_,aX.o,eu.o⟩;rw[← e1,fD.o];simpa using fR.o;omega
 obtain rfl:j=f.length:=by omega
 rw[fT] at hr ⊢;obtain⟨S,hS⟩:∃S,S=(f.map V.fF).flatten:=⟨_,rfl⟩;rw[← hS] at hr ir ⊢;have uQ:=aa hS;have dP:=aa hr;have aN:=aa hgr;clear hr hgr hB hS;go_wp2_with (first | (at_builtin;refine gA (ys:=[0]) rfl (.tmp 137) (.tmp 138) _ rfl rfl (dP.o.alloc _) _ rfl (lD 0 rfl (cM (by simp) _ _)) (by simp only[g_,aU,bT]<;>omega) (by first | omega | (simp only[ei];omega)) ?_;intro A7 c7 w7 mB bw;have CB:=bw.size;have aX:=aa (cJ (Dv aN.o _) (eO (ej bw (dP.o.alloc _) (by first | omega | (simp only[ei];omega))) (by omega)));have fR:=aa mB;(try simp only[ei] at CB);clear mB bw) | fail);go_ret;have hkey:(V.mk 8 0 [] [] f).key=112::(S++[0]):=by rw[fP,uQ.o];rfl
 rw[hkey];exact gm.row (show 112::S++[0]=_ from rfl) (by simp only[aU,bp,bT];omega) (fJ _) fR.o aX.o
theorem agZ(v:V):v.formed=true→Rv v:=by
 induction v using V.ind with
 | h k n b l f hl hf =>
  intro fV w c hv hm;rcases tq fV with h | ⟨_,_,h⟩ | ⟨_,h⟩ | ⟨_,h⟩ | ⟨_,_,h⟩ | ⟨_,h⟩ | ⟨l',hl',h⟩ | ⟨f',hf',hnd,h⟩
  ·cases h;exact agQ w c hv
  ·cases h;exact agR w c _ hv
  ·cases h;exact agS w c _ hv
  ·cases h
   by_cases hn:gZ n=true
   ·exact agV w c _ hv hn
   exact agW w c _ hv (by simpa using hn)
  ·cases h;exact agT w c _ hv hm
  ·cases h;exact agU w c _ hv hm
  ·cases h;exact agX w c _ (fun x hx=>hl x hx (hl' x hx)) hv hm
  cases h;exact agY w c _ (fun x hx=>hf x hx (hf' x hx).2) hv hm
theorem ag0(v:V)(c:Cv)(hg:v.good=0):∀W,In W v c→Calls prog 105 #[c.agg] W (gm W v.key):=fun W hv=>by
 have hf:=mP hg;have hk:=Wi v hf.1;exact agZ v hf.1 W c hv (by have:=hf.2;omega)
end
abbrev anC:=@gm.row
theorem H9(v:V)(c:Cv)(w:World)(hd:v.depth≤1099511627776)(hsz:v.formed=true→v.bytes.length≤140737488355328)(hv:In w v c):Calls prog 57 #[c.agg] w (kY w (bl v)):=
 aeM v c w hd hsz (fun hg=>ag0 v c hg) hv
theorem RA{d:V}(h8:d.k=8):mX d jW=kC d:=by
 obtain⟨k,n,b,l,f⟩:=d;have xR:k=8:=h8;subst xR;unfold mX;rw[ak (by rw[RB];simp),PY (by decide),pH,wQ (by decide)];unfold kC;show Option.bind ((f.find? fun x=>decide (x.1=jW)).map Prod.snd) _=(f.find? fun x=>decide (x.1=jW)).map Prod.snd
 cases (f.find? fun x=>decide (x.1=jW)).map Prod.snd<;>rfl
theorem RD{v:V}(h:v.good=0)(s:ByteArray):mq v s=mX v s:=by rw[mq,aD h,mX]
theorem Y0{d i:V}(hd:d.good=0)(h8:d.k=8)(h:kC d=some i):i.good=0:=by
 rw[← RA h8,← RD hd] at h;exact Lf h
theorem RG(v:V)(c:Cv)(w:World)(dY:v.count≤20000)(hsz:v.formed=true→v.bytes.length≤140737488355328)(hv:In w v c):Calls prog 27 #[c.agg] w (kY w (bV v)):=by
 have aN:=aa ((ah w).alloc (.cells c.cells 27));have bO:=aa (az w 27 c.cells);have hcell:=(az w 27 c.cells).cell;have oD:=aa (Gi v _ c dY hsz (hv.grow aN.o));have HV:=aa hv;obtain⟨g,hg⟩:∃g,v.good=g:=⟨_,rfl⟩;rw[hg] at oD;have aC:=aa hg;have HK:Hid (c.k=v.k):=aa (by obtain⟨k,n,b,l,f⟩:=v;obtain⟨aB,aL,aF,cB,cL,cF,rfl,_⟩:=In.open hv;rfl);clear hv hg hsz;go_enter func27,ntmps27;go_wp2_with fail;refine oD.o.mono ?_;rintro e w1 ⟨rfl,hg1⟩;have fp:=bO.o.grow hg1;have aO:=aa (aN.o.trans hg1);have cP:=aa fp;have hc1:=fp.cell;have ku:=fp.lt;clear hg1 fp hcell;by_cases h0:g=0
 ·subst h0;by_cases h8:c.k=8
  ·have RH:v.k=8:=by rw[← HK.o];exact h8
   have Y1:=RA RH;have oF:=aa (fun w2 (h:Grow w w2)=>BZ w 3 v jW c w2 (by decide) (by decide) (mP aC.o).1 h HV.o);rw[Y1] at oF;have H8:=aa h8;have RI:=aa RH;have DY:(c.k==8)=true:=by rw[h8];rfl
   clear h8 RH Y1;go_wp2_with fail;refine(oF.o w1 aO.o).mono ?_;rintro e w2 ⟨hg2,ci,t,u,rfl,uZ,hres⟩;have HG2:=aa (aO.o.trans hg2);have aG:=aa ((aO.o.trans hg2).alloc (.cells ci.cells 27));have PA:=aa (az w2 27 ci.cells);have Eb:=PA.o.cell;have zC:=aa uZ;clear uZ hg2;rcases hres with ⟨hid,rfl⟩ | ⟨hid,rfl,rfl,rfl⟩
   ·have HP:=aa (show bV v=bl u by unfold bV;rw[ak (by have:=aC.o;omega),ak (by rw[RI.o];simp),hid]);have Ca:=Y0 aC.o RI.o hid;have kB:=aa (H9 u ci _ (DZ (aV (BK hid) dY)) (fun hf=>by have:=(mP Ca).2;omega) (zC.o.grow aG.o));clear hid Ca;go_wp2_with fail;refine kB.o.mono ?_;rintro e w3 ⟨base,A3,c3,rfl,hb3,hr3,hg3⟩;have cE:=aa hr3;have bP:=aa (aG.o.trans hg3);have bn:=aa (aV aG.o.size hb3);clear hr3 hg3 hb3;go_wp2_with fail;go_ret2;rw[HP.o];exact⟨base,A3,c3,rfl,bn.o,cE.o,bP.o⟩
   go_wp2_with fail;go_ret2;rw[show bV v=([],14) by unfold bV;rw[ak (by have:=aC.o;omega),ak (by rw[RI.o];simp),hid]];exact uY aG.o
  go_wp2_with fail;go_ret2;rw[show bV v=([],4) by unfold bV;rw[ak (by have:=aC.o;omega),aD (by rw[← HK.o];exact h8)]];exact uY aO.o
 go_wp2_with fail;go_ret2;rw[show bV v=([],g) by unfold bV;rw[aD (by have:=aC.o;omega),aC.o]];exact uY aO.o
abbrev Ac(v:V):ByteArray:=⟨(bV v).1.toArray⟩
theorem EM(v:V)(c:Cv)(w:World)(dY:v.count≤20000)(hsz:v.formed=true→v.bytes.length≤140737488355328)(hv:In w v c):Calls prog 71 #[c.agg] w fun e w'=>e=.returned (.string (Ac v))∧Grow w w':=by
 have aN:=aa ((ah w).alloc (.cells c.cells 27));have bO:=aa (az w 27 c.cells);have hcell:=(az w 27 c.cells).cell;have HK:=aa (RG v c _ dY hsz (hv.grow aN.o));obtain⟨⟨kb,ke⟩,hk⟩:∃p,bV v=p:=⟨_,rfl⟩;unfold Ac;rw[hk] at HK ⊢;clear hv hk hsz;go_enter func71,ntmps71;go_wp2_with fail;refine HK.o.mono ?_;rintro e w1 ⟨base,A3,c3,rfl,hb3,hr3,hg3⟩;dsimp only at hr3 ⊢;have hcs:=rD c3 hr3.reads.1;have aO:=aa (aN.o.trans hg3);clear hcell hb3 hr3 hg3;go_wp2_with fail;go_ret;exact⟨rfl,aO.o⟩
theorem RJ(x:Ix)(v:V)(c:Cv)(w:World)(hx:x.path.size<4294967281)(dY:v.count≤20000)(hfit:v.fit)(hsz:v.formed=true→v.bytes.length≤140737488355328)(hv:In w v c):Calls prog 29 #[x.agg,c.agg] w (zE w (eB x.path v)):=by
 have aN:=aa (((ah w).alloc (.cells x.cells 64)).alloc (.cells c.cells 27));have Ef:=aa ((az w 64 x.cells).alloc (.cells c.cells 27));have bO:=aa (cM (w:=w.alloc (.cells x.cells 64)) (g:=w.heap.size+1) (by simp) 27 c.cells);have hcell:=bO.o.cell;have HV:=aa hv;have Gr:=aa hfit;have HKEY:=aa (RG v c _ dY hsz (hv.grow aN.o));obtain⟨⟨kb,ke⟩,eQ⟩:∃r,bV v=r:=⟨_,rfl⟩;rw[eQ] at HKEY;have fq:=aa eQ;clear hv eQ hfit hsz;go_enter func29,ntmps29;go_wp2_with fail;refine HKEY.o.mono ?_;rintro e w1 ⟨base,Ak,ck,rfl,hbk,Gz,hg1⟩;dsimp only at Gz ⊢;have cP:=aa (bO.o.grow hg1);have nH:=aa (Ef.o.grow hg1);have hc1:=cP.o.cell;have tz:=cP.o.lt;have aO:=aa (aN.o.trans hg1);clear hg1 Gz hbk hcell HKEY;by_cases h0:ke=0
 ·subst h0;have hok:gh v:=⟨by rw[fq.o],Gr.o,dY⟩;obtain⟨i,hi,hK,hkey,hgd,h8⟩:=hok.id;have fV:=(mP hgd).1;have oF:=aa (fun w2 (h:Grow w w2)=>BZ w 3 v jW c w2 (by decide) (by decide) fV h HV.o);rw[RA h8,hi] at oF;have zF:=aa (fun w2 (h:Grow w w2)=>BZ w x.path.size v x.path c w2 (au _) hx fV h HV.o);rw[← RD hgd] at zF;have HI:=aa hi;have aC:=aa hgd;have H8:=aa h8;have bD:=aa hok;clear hi hK hkey hgd h8 fV hok;go_wp2_with fail;refine(oF.o w1 aO.o).mono ?_;rintro e w3 ⟨hg3,ci,t3,u3,rfl,uU,GA⟩;obtain⟨hu3,rfl⟩:some i=some u3∧t3=true:=by
   rcases GA with h | ⟨h,-⟩
   ·exact h
   cases h
  injection hu3 with hu3;subst hu3;have zA:=aa uU;have aG:=aa ((aO.o.trans hg3).alloc (.cells ci.cells 27));have RL:=hg3.alloc (.cells ci.cells 27);have bn:=aa (cP.o.grow RL);have Y2:=aa (nH.o.grow RL);have zB:=aa (az w3 27 ci.cells);have hc3:=bn.o.cell;have Gc:=bn.o.lt;have hx3:=Y2.o.cell;have ag1:=Y2.o.lt;clear GA oF uU hg3 RL hc1 tz;go_wp2_with fail;refine(zF.o _ aG.o).mono ?_;rintro e w2 ⟨hg2,cu,t,u,rfl,uZ,hres⟩;have zC:=aa uZ;have bP:=aa ((aG.o.trans hg2).alloc (.cells cu.cells 27));have D7:=aa ((zB.o.grow hg2).alloc (.cells cu.cells 27));have Me:=aa (az w2 27 cu.cells);have Eb:=D7.o.cell;have hli:=D7.o.lt;have BN:=Me.o.cell;clear uZ hc3 Gc hx3 ag1 zF hg2;rcases hres with ⟨hp,rfl⟩ | ⟨hp,rfl,rfl,rfl⟩
  ·have HP:=aa hp;have Ca:=Lf hp;have Y3:=Y0 aC.o H8.o HI.o;have HR:=aa (InL.row2 (zC.o.grow bP.o) (zA.o.grow bP.o));have GC:=WC ((w2.alloc (.cells cu.cells 27)).alloc (.cells (cells2 cu ci) 27)) false false;have tL:=((ah (w2.alloc (.cells cu.cells 27))).alloc (.cells (cells2 cu ci) 27));have Eh:=(tL.trans (ah _)).alloc (.cells #[.bool false,.bool false] 4);have tE:=HR.o.grow ((ah _).alloc (.cells #[.bool false,.bool false] 4));have hal:=aeN [u,i] [false,false] _ _ 2 2 _ (fun y hy W cy rU=>by
    have Y4:y.count≤20000∧y.good=0:=by
     rcases jI.1 hy with rfl | hy
     ·exact⟨aV (PF HP.o) dY,Ca⟩
     rw[rz] at hy;subst hy;exact⟨aV (BK HI.o) dY,Y3⟩
    exact H9 y cy W (DZ Y4.1) (fun hf=>by have:=(mP Y4.2).2;omega) rU) tE GC (by simp) (by simp)
   simp only[ei] at hal;have Y5:(jt [u,i] [false,false]).2≠0→eB x.path v=([],false,14):=fun h=>by
    have he:(eB x.path v).2.2=(jt [u,i] [false,false]).2∧eB x.path v=([],false,(eB x.path v).2.2):=by
     unfold eB;rw[fq.o,ak (by simp),HP.o];simp only[HI.o,pq];rw[aD h];exact⟨rfl,rfl⟩
    have h14:=aeK bD.o (by rw[he.1];exact h);rw[he.2,h14]
   have Y6:=aa Y5;obtain⟨⟨ab,ae⟩,qJ⟩:∃r,jt [u,i] [false,false]=r:=⟨_,rfl⟩;rw[qJ] at hal Y6;have ve:=aa hal;have KX:=aa qJ;have aW:=aa (bP.o.trans Eh);clear hal qJ tE GC tL Eh Ca Y3 HR hp Y5;go_wp2_with fail;refine ve.o.mono ?_;rintro e w4 ⟨base,A4,c4,rfl,hb4,hr4,hg4⟩;dsimp only at hr4 ⊢;have a_:=aa (aW.o.trans hg4);have ar:=aa (aV aW.o.size hb4);have bY:=aa hr4;clear hg4 hb4 hr4 Eb hli BN;by_cases he:ae=0
   ·subst he;go_wp2_with fail;go_ret3;rw[show eB x.path v=(ab,true,0) by unfold eB;rw[fq.o,ak (by simp),HP.o];simp only[HI.o,pq,KX.o];rfl];exact⟨base,A4,c4,rfl,ar.o,bY.o,a_.o⟩
   go_wp2_with fail;go_ret3;rw[Y6.o he];exact PI a_.o
  go_wp2_with fail;go_ret3;rw[show eB x.path v=([],false,0) by unfold eB;rw[fq.o,ak (by simp),hp]];exact PI bP.o
 go_wp2_with fail;go_ret3;rw[show eB x.path v=([],false,ke) by unfold eB;rw[fq.o,aD h0]];exact PI aO.o
theorem CC:∀(a b:List UInt8),Op.bytesLess a b=eI a b
 | [],[]=>by simp[eI,Lib.compareBytes,Op.bytesLess]
 | [],_::_=>by simp[eI,Lib.compareBytes,Op.bytesLess]
 | _::_,[]=>by simp[eI,Lib.compareBytes,Op.bytesLess]
 | x::a,y::b=>by
  have ih:=CC a b;unfold eI at ih ⊢;rw[Lib.compareBytes];unfold Op.bytesLess;by_cases h1:x<y
  ·simp[h1]
  by_cases h2:y<x
  ·have h3:¬ x=y:=fun e=>by subst e;exact h1 h2
   simp[h1,h2,h3]
  have h3:x=y:=by
   have:=UInt8.not_lt.1 h1;have:=UInt8.not_lt.1 h2;exact UInt8.le_antisymm ‹x≤y› ‹y≤x›
  subst h3;simpa [h1] using ih
theorem Y7(l:List UInt8):(⟨l.toArray⟩:ByteArray).toList=l:=by rw[toList_data]
theorem RM{keys:List (List UInt8)}(h:fw keys)(k:List UInt8)(hj:j<keys.length):ia (keys.take (j+1)) k=if eI keys[j] k=true then j+1 else ia (keys.take j) k:=by
 have e:keys.take (j+1)=keys.take j++[keys[j]]:=by rw[N5,bH hj];rfl
 split
 ·rename_i hl;unfold ia;have hall:∀x∈keys.take (j+1),eI x k=true:=fun x hx=>by
   obtain⟨i,hi,rfl⟩:=sQ hx;rw[dU] at hi;rw[J5];rcases gp i j with hij | hij
   ·exact zI _ _ _ (h.lt hij hj) hl
   have:i=j:=by omega
   subst this;exact hl
  rw[List.countP_eq_length.2 hall,dU];omega
 rename_i hl;unfold ia;rw[e,List.countP_append];simp[hl]
theorem ag2(h:fw (gf ag))(hj:j<ag.length){k:List UInt8}(e:(bV ag[j]).1=k):gK ag k=j∧gL ag k=true:=by
 have hF:gL ag k=true:=by rw[BX,Ek h];exact mI.2 ⟨ag[j],aS hj,e⟩
 refine⟨?_,hF⟩;have h1:=K1 (by rw[BX] at hF;exact hF);rw[GJ];have hl:kN (gf ag) k<(gf ag).length:=(jd.1 h1).1;rw[bH hl] at h1;injection h1 with h1;exact h.inj hl (by rw[dE];exact hj) (by rw[h1,iO,e])
theorem ag3(h:fw (gf ag)){k:List UInt8}(e:∀i (hi:i<ag.length),(bV ag[i]).1≠k):gL ag k=false:=by
 rcases Dm (gL ag k) with hF | hF
 ·rw[BX,Ek h] at hF;obtain⟨d,hd,hk⟩:=mI.1 hF;obtain⟨i,hi,rfl⟩:=sQ hd;exact absurd hk (e i hi)
 exact hF
theorem gh.bytes{d:V}(h:gh d):d.formed=true→d.bytes.length≤140737488355328:=fun _=>by
 obtain⟨i,-,-,-,hg,-⟩:=h.id;have:=(mP hg).2;omega
theorem H_(nm:ByteArray)(ag:List V)(dA xA:Option Addr)(dc xn xc:Nat)(k:List UInt8)(w:World)(hd:InL w dA dc ag)(hok:∀d∈ag,gh d)(hr:fw (gf ag))(hl:ag.length≤1000000) :
 Calls prog 70 #[.agg #[.string nm,.slice dA ag.length dc,.slice xA xn xc],.string ⟨k.toArray⟩] w fun e w'=>e=.returned (.tuple #[.int .i64 (gK ag k),.bool (gL ag k)])∧Grow w w':=by
 have HD:=aa hd;have bD:=aa hok;have HR:=aa hr;have HL:=aa hl;have HB:=aa (az w 48 #[.string nm,.slice dA ag.length dc,.slice xA xn xc]);have HG:=aa ((ah w).alloc (.cells #[.string nm,.slice dA ag.length dc,.slice xA xn xc] 48));obtain⟨kS,lT⟩:∃s,(⟨k.toArray⟩:ByteArray)=s:=⟨_,rfl⟩;have EN:=aa (show kS.toList=k by rw[← lT];exact Y7 k);rw[lT];have fH:=HB.o.cell;clear hd hok hr hl lT;go_enter func70,ntmps70;go_wp2_with fail;clear fH;go_loopg [6,7] (ag.length+1) (fun gk n i wr=>∃j:Nat,j≤ag.length∧gk+j=ag.length+1∧i=.int .i64 j∧n=.int .i64 (ia ((gf ag).take j) k:Nat)∧(∀i (hi:i<ag.length),i<j→(bV ag[i]).1≠k)∧Grow w wr∧Blk wr w.heap.size 48 #[.string nm,.slice dA ag.length dc,.slice xA xn xc])
 exact⟨0,aR _,rfl,rfl,by simp[ia],fun _ _ h=>absurd h (by omega),HG.o,HB.o⟩;obtain⟨j,hj,hg,rfl,rfl,hne,hgr,hb⟩:=hrel;obtain⟨gk',rfl⟩:=bz gk (by omega);have hl0:=HL.o;have HN:=aa hne;have aJ:=aa hgr;have qO:=aa hb;have fH:=hb.cell;obtain⟨N,hN⟩:∃N,ia ((gf ag).take j) k=N:=⟨_,rfl⟩;rw[hN];have vE:=aa hN;clear hne hb hN;by_cases hlt:j<ag.length
 ·obtain⟨bk,o,x,ha,hbk,e0,e1,e2,e3,e4,hx⟩:=(HD.o.grow hgr).fh j hlt;dsimp only[js] at ha;subst ha;have ni:=bD.o ag[j] (aS hlt);have Af:=aa (RM HR.o k (j:=j) (by rw[dE];exact hlt));have HK:=aa (EM ag[j] x wr ni.count ni.bytes hx);unfold Ac at HK;obtain⟨q,hq⟩:∃q,(bV ag[j]).1=q:=⟨_,rfl⟩;obtain⟨qS,RO⟩:∃s,(⟨(bV ag[j]).1.toArray⟩:ByteArray)=s:=⟨_,rfl⟩;rw[RO] at HK;have Mf:=aa (show qS.toList=q by rw[← RO,Y7,hq]);have HQ:=aa hq;clear ni hx hgr hq RO;go_wp2_with fail;refine HK.o.mono ?_;rintro e w2 ⟨rfl,hg2⟩;have HG2:=aa (aJ.o.trans hg2);have bf:=aa (qO.o.grow hg2);clear hg2 e0 e1 e2 e3 e4 fH;by_cases he:q=k
  ·have om:(qS.toList==kS.toList)=true:=by rw[Mf.o,EN.o,he];simp
   have HE:=aa he;clear he;go_wp2_with fail;go_ret2;obtain⟨r1,r2⟩:=ag2 HR.o hlt (HQ.o.trans HE.o);rw[r1,r2];exact⟨rfl,HG2.o⟩
  have om:(qS.toList==kS.toList)=false:=by rw[Mf.o,EN.o];simpa using he
  have HE:=aa he;clear he;have od:∀i (hi:i<ag.length),i<j+1→(bV ag[i]).1≠k:=fun i hi hij=>by
   by_cases pJ:i=j
   ·subst pJ;rw[HQ.o];exact HE.o
   exact HN.o i hi (by omega)
  have Y8:=aa od;clear od;by_cases hls:eI q k=true
  ·have hl2:Op.bytesLess qS.toList kS.toList=true:=by rw[CC,Mf.o,EN.o];exact hls
   have jQ:=aa hls;clear hls;go_wp2_with fail;go_roundg gk';refine⟨j+1,by omega,by omega,by go_num,?_,Y8.o,HG2.o,bf.o⟩;rw[Af.o];simp only[iO,HQ.o];rw[aD jQ.o];go_num;omega
  have hl2:Op.bytesLess qS.toList kS.toList=false:=by rw[CC,Mf.o,EN.o];simpa using hls
  have jQ:=aa hls;clear hls;go_wp2_with fail;go_roundg gk';refine⟨j+1,by omega,by omega,by go_num,?_,Y8.o,HG2.o,bf.o⟩;rw[Af.o];simp only[iO,HQ.o];rw[ak jQ.o,vE.o];omega
 have hjl:j=ag.length:=by omega
 subst hjl;have hF:=ag3 HR.o fun i hi=>HN.o i hi hi
 have hN:gK ag k=N:=by
  rw[GJ,GH HR.o,← vE.o,rB (by rw[dE];exact au _)]
 have HF:=aa hF;have PD:=aa hN;clear hF hN hgr;go_wp2_with fail;go_ret2;rw[HF.o,PD.o];exact⟨rfl,aJ.o⟩
section
variable {α:Type} (f:α→List Value) (z:Nat) (hz:∀x,(f x).length=z) (hp:0<z)
include hz hp
theorem ag4(l:List α)(j:Nat)(u:Value)(h:((l.map f).flatten)[j]?=some u):∃i k x,j=i*z+k∧k<z∧l[i]?=some x∧(f x)[k]?=some u:=by
 have hj:j<l.length*z:=by
  have:=(jd.1 h).1;rwa [BP f z hz] at this
 have hd:z*(j / z)+j % z=j:=Dl j z;have hk:j % z<z:=Bb _ hp;have hi:j / z<l.length:=by rw[NW hp];exact hj
 refine⟨j / z,j % z,l[j / z],by rw[xL];exact hd.symm,hk,bH hi,?_⟩;rw[← mV f z hz l (j / z) (j % z) hk l[j / z] (bH hi),xL,hd];exact h
end
theorem ag5{k:Int}{n:Nat}{b:List UInt8}{l:List V}{f:List (ByteArray×V)}{c:Cv}(h:IsV C (.mk k n b l f) c)(i:Nat)(hil:i<l.length):∃bk o x,c.aL=some ⟨bk,o,none⟩∧kV C bk (o+i*5) x∧IsV C l[i] x:=by
 rw[IsV] at h;exact h.2.2.2.2.2.2.2.2.2.2.2.2.2.2.2.1 i hil
theorem RP{cap:Nat}(h:IsV C (.mk 7 0 [] ag []) (js A ag.length cap)) :
 ∃cs,Reads C 5 A ag.length (cK cs)∧Two (fun v c=>IsV C v c) ag cs:=by
 have hx:∀i,∃x:Cv,∀hi:i<ag.length,∃bk o,A=some ⟨bk,o,none⟩∧kV C bk (o+i*5) x∧IsV C ag[i] x:=fun i=>by
  by_cases hi:i<ag.length
  ·obtain⟨bk,o,x,h1,h2,h3⟩:=ag5 h i hi;exact⟨x,fun _=>⟨bk,o,h1,h2,h3⟩⟩
  exact⟨Cv.zero,fun hi'=>absurd hi' hi⟩
 obtain⟨x,hx⟩:=Classical.axiomOfChoice hx;have hget:∀i,i<ag.length→((List.range ag.length).map x)[i]?=some (x i):=fun i hi=>by
  rw[sS,List.getElem?_range hi];rfl
 refine⟨(List.range ag.length).map x,⟨by rw[KY];simp,fun hn=>?_⟩,by simp,fun i v c hv hc=>?_⟩
 ·obtain⟨bk,o,e,-,-⟩:=hx 0 hn;refine⟨bk,o,e,fun j u hu=>?_⟩;obtain⟨i,k,y,rfl,hk,hy,hu⟩:=ag4 _ 5 (fun _=>rfl) (by decide) _ j u hu;have hi:i<ag.length:=by
   have:=(jd.1 hy).1;simpa using this
  rw[hget i hi] at hy
  cases hy
  obtain⟨pD,o',e',h5,-⟩:=hx i hi;rw[e] at e'
  cases e'
  obtain⟨c0,c1,c2,c3,c4⟩:=h5;rcases k with _ | _ | _ | _ | _ | k
  ·cases hu;exact c0
  ·cases hu;exact c1
  ·cases hu;exact c2
  ·cases hu;exact c3
  ·cases hu;exact c4
  omega
 obtain⟨hi,rfl⟩:=jd.1 hv;rw[hget i hi] at hc
 cases hc
 obtain⟨bk,o,-,-,h3⟩:=hx i hi;exact h3
structure xt (w:World) (B:Nat) (A:Option Addr) (cap:Nat) (kq es:List Cc) (st:List Co) (j:Nat):Prop where
 row:w.ownsRow B 48 3 (.slice A st.length cap) st.length (cY es)
 len:es.length=st.length
 done:∀i a c,i<j→es[i]?=some a→st[i]?=some c→eY w B a c
 rest:∀i,j≤i→es[i]?=kq[i]?
 GF:∀(i k:Nat) (a b:Cc),i<j→k<j→es[i]?=some a→es[k]?=some b→i≠k→∀g,ba a.dA=some g→ba b.dA≠some g
 GG:∀(i k:Nat) (a b:Cc),i<j→k<j→es[i]?=some a→es[k]?=some b→i≠k→∀g,ba a.xA=some g→ba b.xA≠some g
section
variable {w W:World} {B cap j gb:Nat} {A:Option Addr} {kq es:List Cc} {st:List Co} {e':Cc} {c:Co}
theorem xt.start(h:w.ownsRow B 48 3 (.slice A st.length cap) st.length (cY es))(hl:es.length=st.length):xt w B A cap es es st 0:=
 ⟨h,hl,fun _ _ _ h=>absurd h (Nat.not_lt_zero _),fun _ _=>rfl,fun _ _ _ _ h=>absurd h (Nat.not_lt_zero _),fun _ _ _ _ h=>absurd h (Nat.not_lt_zero _)⟩
theorem xt.finish(h:xt w B A cap kq es st j)(hj:st.length≤j):Own w B A cap es st:=by
 have hlt:∀(i:Nat) (a:Cc),es[i]?=some a→i<j:=fun i a ha=>by
  have:=(jd.1 ha).1;have:=h.len;omega
 exact⟨h.row,⟨h.len,fun i a c ha hc=>h.done i a c (hlt i a ha) ha hc⟩,fun i k a b ha hb=>h.GF i k a b (hlt i a ha) (hlt k b hb) ha hb,fun i k a b ha hb=>h.GG i k a b (hlt i a ha) (hlt k b hb) ha hb⟩
theorem xt.step(h:xt w B A cap kq es st j)(hB:B≤w.heap.size)(hj:j<st.length)(hc:st[j]?=some c)(hA:A=some ⟨gb,0,none⟩)(hgb:B≤gb)(hk:Kept (fun k=>k=gb) w W)
 (hrow:W.ownsRow B 48 3 (.slice A st.length cap) st.length (cY (es.set j e'))) (aA:eY W B e' c) (hD:∀g,ba e'.dA=some g→w.heap.size≤g) (hX:∀g,ba e'.xA=some g→w.heap.size≤g):xt W B A cap kq (es.set j e') st (j+1):=by
 have hje:j<es.length:=by rw[h.len];exact hj
 have Y9:ba A=some gb:=by rw[hA];rfl
 have hs:∀q,q=gb→B≤q:=fun q hq=>hq ▸ hgb
 have Ag:∀i,i≠j→(es.set j e')[i]?=es[i]?:=fun i hi=>List.getElem?_set_ne (uB hi)
 have hsj:(es.set j e')[j]?=some e':=by rw[Ks hje]
 have hold:∀i a,i<j→es[i]?=some a→(∀g,ba a.dA=some g→g<w.heap.size)∧(∀g,ba a.xA=some g→g<w.heap.size)∧(∀g,ba a.dA=some g→¬ g=gb)∧(∀g,ba a.xA=some g→¬ g=gb):=fun i a hi ha=>by
  have hst:i<st.length:=by omega
  have ho:=h.done i a st[i] hi ha (bH hst);obtain⟨cs,r1,-⟩:=ho.ag;exact⟨fun g hg=>(bJ r1 g (by rw[bj];exact hg)).2,fun g hg=>(bJ ho.aj g (by rw[bj];exact hg)).2,
   fun g hg e=>BR r1 h.row (by decide) g hg (e ▸ Y9),fun g hg e=>BR ho.aj h.row (by decide) g hg (e ▸ Y9)⟩
 refine⟨hrow,by rw[gW];exact h.len,fun i a c' hi ha hc'=>?_,fun i hi=>by rw[Ag i (by omega)];exact h.rest i (by omega),fun i k a b hi hk ha hb hne g hg=>?_,fun i k a b hi hk ha hb hne g hg=>?_⟩
 ·by_cases hij:i=j
  ·subst hij;rw[hsj] at ha;rw[hc] at hc'
   cases ha
   cases hc'
   exact aA
  rw[Ag i hij] at ha;obtain⟨-,-,h1,h2⟩:=hold i a (by omega) ha;exact(h.done i a c' (by omega) ha hc').keep hk hB hs h1 h2
 ·by_cases hij:i=j
  ·subst hij;rw[hsj] at ha
   cases ha
   rw[Ag k (uB hne)] at hb;intro h2;have h3:=(hold k b (by omega) hb).1 g h2;have h4:=hD g hg;omega
  rw[Ag i hij] at ha;by_cases hkj:k=j
  ·subst hkj;rw[hsj] at hb
   cases hb
   intro h2;have h3:=(hold i a (by omega) ha).1 g hg;have h4:=hD g h2;omega
  rw[Ag k hkj] at hb;exact h.GF i k a b (by omega) (by omega) ha hb hne g hg
 by_cases hij:i=j
 ·subst hij;rw[hsj] at ha
  cases ha
  rw[Ag k (uB hne)] at hb;intro h2;have h3:=(hold k b (by omega) hb).2.1 g h2;have h4:=hX g hg;omega
 rw[Ag i hij] at ha;by_cases hkj:k=j
 ·subst hkj;rw[hsj] at hb
  cases hb
  intro h2;have h3:=(hold i a (by omega) ha).2.1 g hg;have h4:=hX g h2;omega
 rw[Ag k hkj] at hb;exact h.GG i k a b (by omega) (by omega) ha hb hne g hg
end
theorem Reads.Ia{n:Nat}(h:Reads C z A n xs)(k:Nat)(hk:k≤n):Reads C z A k (xs.take (k*z)):=by
 refine⟨by rw[dU,h.1];exact pj (gq z hk),fun hn=>?_⟩;obtain⟨bk,o,e,hc⟩:=h.2 (by omega);refine⟨bk,o,e,fun j u hu=>hc j u ?_⟩;rw[Df] at hu;split at hu
 ·exact hu
 cases hu
theorem Reads.Ib{n:Nat}(h:Reads C z A n xs)(k cap:Nat)(hk:k≤n)(hc:n≤cap):Reads C z (if cap=k then A else A.map (·.add (k*z))) (n-k) (xs.drop (k*z)):=by
 refine⟨by rw[iw,h.1,Nat.sub_mul],fun hn=>?_⟩;obtain⟨bk,o,rfl,hcell⟩:=h.2 (by omega);rw[ak (by omega)];refine⟨bk,o+k*z,by simp[add_lit],fun j u hu=>?_⟩;rw[y9] at hu;rw[lu];exact hcell _ u hu
section
variable {ops:Array Oper} {rest:List Oper} {Q:Exit→Act→World→Prop} {a:Act} {w0 w:World}
theorem vG(s x:Operand)(t e:TypeId)(z dR:Nat)(zv:Value)(ht:prog.underlying t=some (.slice e))(hi:(prog.info? e).map (fun i=>(i.zero,i.size,i.bytes))=some (some zv,z,dR))(hzs:zv.cells.size=z){tt:TypeId}{p:String}{af:Array Edge}
 {n:Nat} (hv:a.eval s=v) (hown:w.ownsRow w0.heap.size e z v n xs)  (hx:a.eval x=u) (hs:Src prog z t u m news w) (hb:(n+m)*dR≤140737488355328) (h63:n+m≤maxLen) (hg0:Grow w0 w)
 (h:∀A c w',w'.ownsRow w0.heap.size e z (.slice A (n+m) c) (n+m) (xs++news)→Grow w0 w'→wpList prog ops Q rest (a.put d (.slice A (n+m) c)) w') :
 wpList prog ops Q (⟨d,.call { callee:=.builtin .append,args:=#[s,x],argTypes:=#[t,t] },tt,p,af,none⟩::rest) a w:=by
 obtain⟨i0,h0,h1,h2,h3⟩:=info_parts hi;exact Bj rfl s x t t rfl w0.heap.size e i0 zv z dR ht h0 h1 h2 h3 hzs v n xs hv hown u m news hx hs hb h63 hg0.size (fun A c w' k1 k2 k3=>h A c w' k1 (hg0.grown k2 (fun k hk=>(bJ hown k hk).1)))
theorem CD(s x:Operand)(t e:TypeId)(z dR:Nat)(zv:Value)(ht:prog.underlying t=some (.slice e))(hi:(prog.info? e).map (fun i=>(i.zero,i.size,i.bytes))=some (some zv,z,dR))(hzs:zv.cells.size=z){tt:TypeId}{p:String}{af:Array Edge}
 (hv:a.eval s=.slice none 0 0)  (hx:a.eval x=u) (hs:Src prog z t u m news w) (hb:m*dR≤140737488355328) (h63:m≤maxLen) (hg0:Grow w0 w)
 (h:∀A c w',w'.ownsRow w0.heap.size e z (.slice A m c) m news→Grow w0 w'→wpList prog ops Q rest (a.put d (.slice A m c)) w') :
 wpList prog ops Q (⟨d,.call { callee:=.builtin .append,args:=#[s,x],argTypes:=#[t,t] },tt,p,af,none⟩::rest) a w:=
 vG s x t e z dR zv ht hi hzs hv (jb _ _ _ _) hx hs (by rw[eo];exact hb) (by omega) hg0 (fun A c w' k1 k2=>by
  rw[eo,ql] at k1;rw[eo];exact h A c w' k1 k2)
end
theorem Y_{n:Nat}{cs:List Cv}(h:Reads (bQ w 0 w.heap.size) 5 A n (cK cs))(i c:Nat)(hi:i≤n):Src prog 5 24 (.slice A i c) i (cK (cs.take i)) w:=by
 have hh:=eW (c:=c) km (h.Ia i hi) (fun u hu=>BQ cs u (Bg hu));rwa [show (cK cs).take (i*5)=cK (cs.take i) from yi (fun e:Cv=>e.cells.toList) 5 (fun _=>rfl) cs i] at hh
theorem ag6{n:Nat}{cs:List Cv}(h:Reads (bQ w 0 w.heap.size) 5 A n (cK cs))(i c cap:Nat)(hi:i≤n)(hc:n≤cap):Src prog 5 24 (.slice (if cap=i then A else A.map (·.add (i*5))) (n-i) c) (n-i) (cK (cs.drop i)) w:=by
 have hh:=eW (c:=c) km (h.Ib i cap hi hc) (fun u hu=>BQ cs u (uA hu));rwa [show (cK cs).drop (i*5)=cK (cs.drop i) from tN (fun e:Cv=>e.cells.toList) 5 (fun _=>rfl) cs i] at hh
theorem Za{n cap:Nat}(h1:i≤n)(h2:n≤cap)(w:World):(Instr.sliceAt 24 (.slice A n cap) none (some (.int .i64 (i:Int))) none).run prog w=.ok (.slice A i cap) w:=by
 have k1:(0:Int)≤(i:Int):=by omega
 have k2:(i:Int)≤(n:Int):=by omega
 have k3:(i:Int)≤(cap:Int):=by omega
 rcases A with _ | a<;>go_simp
theorem RQ{n cap:Nat}(h1:i≤n)(h2:n≤cap):∃B,(∀w,(Instr.sliceAt 24 (.slice A n cap) (some (.int .i64 (i:Int))) none none).run prog w=.ok (.slice B (n-i) (cap-i)) w) ∧
 ∀(w:World) (c:Nat) (cs:List Cv),Reads (bQ w 0 w.heap.size) 5 A n (cK cs)→Src prog 5 24 (.slice B (n-i) c) (n-i) (cK (cs.drop i)) w:=by
 have k1:(0:Int)≤(i:Int):=by omega
 have k2:(i:Int)≤(n:Int):=by omega
 have k3:(i:Int)≤(cap:Int):=by omega
 exact⟨if cap=i then A else A.map (·.add (i*5)),fun w=>by rcases A with _ | a<;>go_simp,fun w c cs h=>ag6 h i c cap h1 h2⟩
theorem Zb(c:Cv)(hb:Blk w g 27 c.cells):Src prog 5 24 (.slice (some ⟨g,0,none⟩) 1 1) 1 c.cells.toList w:=
 Src.ofSlice _ km ⟨g,0,none⟩ 1 1 _ rfl (fun j u hu=>by
  rw[add_lit,eo,hb.cell j,← hu,nC]) (fun u hu=>by
  simp only[jI,wu,wB] at hu;rcases hu with rfl | rfl | rfl | rfl | rfl<;>rfl)
theorem RR(a b:List Cv):cK (a++b)=cK a++cK b:=by unfold cK;rw[l7,xJ]
theorem Zc{n:Nat}{cs:List Cv}(h:w.ownsRow base 27 5 (.slice A n c) n (cK cs))(ht:Two (fun v x=>In w v x) ag cs)(hn:n=ag.length)(hl:ag.length≤140737488355328):InL w A c ag:=by
 subst hn;exact KZ (eV jS (lM (S:=fun _=>False) h (fun _ _ h=>h))) ht (mW h).1 hl
theorem Zd{n P q:Nat}{cs:List Cv}{d:V}(h:w.ownsRow base 27 5 (.slice A n c) n (cK (cs.take P)++cx.cells.toList++cK (cs.drop q)))(ht:Two (fun v x=>In w0 v x) ag cs)(hx:In w0 d cx)(hg:Grow w0 w)
 (hn:n=(ag.take P++d::ag.drop q).length) (hl:ag.length≤1000000):InL w A c (ag.take P++d::ag.drop q):=by
 refine Zc (base:=base) (cs:=cs.take P++cx::cs.drop q) ?_ ((ht.mono fun a b k=>oc k hg).take P |>.append (Two.cons (hx.grow hg) ((ht.mono fun a b k=>oc k hg).drop q))) hn ?_
 ·rw[RR,show cx::cs.drop q=[cx]++cs.drop q from rfl,RR,← nv];simpa [cK] using h
 rw[bp,aU,dU,iw];omega
theorem ag7{n P q:Nat}{cs:List Cv}(h:w.ownsRow base 27 5 (.slice A n c) n (cK (cs.take P)++cK (cs.drop q)))(ht:Two (fun v x=>In w0 v x) ag cs)(hg:Grow w0 w)
 (hn:n=(ag.take P++ag.drop q).length) (hl:ag.length≤1000000):InL w A c (ag.take P++ag.drop q):=by
 refine Zc (base:=base) (cs:=cs.take P++cs.drop q) ?_ ((ht.mono fun a b k=>oc k hg).take P |>.append ((ht.mono fun a b k=>oc k hg).drop q)) hn ?_
 ·rw[RR];exact h
 rw[bp,dU,iw];omega
theorem ag8:(prog.info? 48).map (·.size)=some 3:=by kernel_rfl
theorem Ze:(prog.info? 44).map (·.size)=some 1:=by kernel_rfl
theorem Mg(hF:F.results=#[ResultVar.cell i 48])(h2:tmps.getD i undef=.pointer (some ⟨vb,0,none⟩))(hs:cs.size=3)(hv:Blk W vb 48 cs) :
 (results F tmps).run prog W=.ok (.agg cs) W:=by
 have hl:=FP (P:=prog) W vb 48 48 cs (0,0) _ hv underlying48 rfl (by rw[hs];exact ag8);have h2':tmps[i]?.getD undef=.pointer (some ⟨vb,0,none⟩):=by simpa using h2
 simp[results,hF,h2',asAddr,hl]
theorem Zf(hF:F.results=#[ResultVar.cell i 44])(h2:tmps.getD i undef=.pointer (some ⟨vb,0,none⟩))(hs:cs.size=1)(hv:Blk W vb 44 cs) :
 (results F tmps).run prog W=.ok (.agg cs) W:=by
 have hl:=FP (P:=prog) W vb 44 44 cs (0,0) _ hv underlying44 rfl (by rw[hs];exact Ze);have h2':tmps[i]?.getD undef=.pointer (some ⟨vb,0,none⟩):=by simpa using h2
 simp[results,hF,h2',asAddr,hl]
theorem ag9(nm:ByteArray)(ag:List V)(dA xA:Option Addr)(dc xn xc:Nat)(d:V)(cx:Cv)(w:World)(hd:InL w dA dc ag)(hok:∀d∈ag,gh d)(hr:fw (gf ag))(hl:ag.length≤1000000)(hx:In w d cx)(sw:gh d) :
 Calls prog 74 #[.agg #[.string nm,.slice dA ag.length dc,.slice xA xn xc],cx.agg] w fun e w'=>∃A c,e=.returned (.agg #[.string nm,.slice A (eT ag d).length c,.slice xA xn xc])∧InL w' A c (eT ag d)∧Grow w w':=by
 obtain⟨cs,hrow,jU⟩:=RP hd;have fK:=aa hrow;have qQ:=aa jU;have HX:=aa hx;have jB:=aa (show ag.length≤dc from by unfold InL In at hd;rw[IsV] at hd;exact hd.2.2.2.2.2.2.2.2.2.2.1);have HG:=aa (((ah w).alloc (.cells #[.string nm,.slice dA ag.length dc,.slice xA xn xc] 48)).alloc (.cells cx.cells 27) |>.alloc (.cells #[.string ⟨#[]⟩,.slice none 0 0,.slice none 0 0] 48));have bf:=aa (((az w 48 #[.string nm,.slice dA ag.length dc,.slice xA xn xc]).alloc (.cells cx.cells 27)).alloc (.cells #[.string ⟨#[]⟩,.slice none 0 0,.slice none 0 0] 48));have bn:=aa ((cM (w:=w.alloc (.cells #[.string nm,.slice dA ag.length dc,.slice xA xn xc] 48)) (g:=w.heap.size+1) (by simp) 27 cx.cells).alloc (.cells #[.string ⟨#[]⟩,.slice none 0 0,.slice none 0 0] 48))
 have ar:=aa (cM (w:=(w.alloc (.cells #[.string nm,.slice dA ag.length dc,.slice xA xn xc] 48)).alloc (.cells cx.cells 27)) (g:=w.heap.size+1+1) (by simp) 48 #[.string ⟨#[]⟩,.slice none 0 0,.slice none 0 0]);have HKEY:=aa (fun(W:World) (hg:Grow w W)=>EM d cx W sw.count sw.bytes (hx.grow hg));unfold Ac at HKEY;have jn:=aa (fun(W:World) (hg:Grow w W)=>H_ nm ag dA xA dc xn xc (bV d).1 W (hd.grow hg) hok hr hl);obtain⟨kS,lT⟩:∃s,(⟨(bV d).1.toArray⟩:ByteArray)=s:=⟨_,rfl⟩;rw[lT] at HKEY jn;have t_:eT ag d=if gL ag (bV d).1=true then ag.set (gK ag (bV d).1) d else cD ag (gK ag (bV d).1) d:=rfl;have Zg:=WS ag (bV d).1;have Mh:gL ag (bV d).1=true→gK ag (bV d).1<ag.length:=yj
 obtain⟨P,hP⟩:∃p,gK ag (bV d).1=p:=⟨_,rfl⟩;obtain⟨F,hF⟩:∃p,gL ag (bV d).1=p:=⟨_,rfl⟩;rw[hP] at jn t_ Zg Mh;rw[hF] at jn t_ Mh;have xg:=aa t_;have HPF:=aa Mh;have pQ:=aa Zg;clear hrow jU hd hok hr hx sw lT t_ Mh hP hF;go_enter func74,ntmps74;go_upto_region 1 with fail;generalize ((w.alloc (.cells #[.string nm,.slice dA ag.length dc,.slice xA xn xc] 48)).alloc (.cells cx.cells 27)).alloc (.cells #[.string ⟨#[]⟩,.slice none 0 0,.slice none 0 0] 48)=W3 at HG bf bn ar ⊢;refine dg ?_
 refine cW (S:=fun w'=>(∀i,w'.cell? ⟨w.heap.size,i,none⟩=(#[.string nm,.slice dA ag.length dc,.slice xA xn xc]:Array Value)[i]?)∧∀i,w'.cell? ⟨w.heap.size+1,i,none⟩=cx.cells[i]?) (by kernel_rfl) (⟨(bf.o.grow (ah _).drew).cell,(bn.o.grow (ah _).drew).cell⟩) (fun hHeld=>?_);have aC:=aa (HG.o.trans (ah W3).drew);have fS:=aa (fun(W:World) (hg:Grow W3.drew W)=>show (∀i,W.cell? ⟨w.heap.size,i,none⟩=(#[.string nm,.slice dA ag.length dc,.slice xA xn xc]:Array Value)[i]?)∧∀i,W.cell? ⟨w.heap.size+1,i,none⟩=cx.cells[i]? from ⟨(bf.o.grow ((ah _).drew.trans hg)).cell,(bn.o.grow ((ah _).drew.trans hg)).cell⟩);replace bf:=aa (bf.o.grow (ah _).drew);replace bn:=aa (bn.o.grow (ah _).drew);replace ar:=aa (ar.o.grow (ah _).drew)
 generalize W3.drew=W0 at aC fS hHeld bf bn ar ⊢;refine cO 0 ?_;refine cO 1 ?_;refine aK 2 (fun K hK=>?_);have hC:=HKEY.o W0 aC.o;go_simp;go_at_call 71;refine hC.mono ?_;rintro ee W4 ⟨rfl,hg4⟩;refine aT hK (fS.o _ hg4) (fun hHeld=>?_);refine aK 3 (fun K hK=>?_);have Ic:=jn.o W4 (aC.o.trans hg4);go_simp;go_at_call 70;refine Ic.mono ?_;rintro ee W5 ⟨rfl,bK⟩;refine aT hK (fS.o _ (hg4.trans bK)) (fun hHeld=>?_);refine ai 4 ?_;refine ai 5 ?_;refine ai 6 ?_;refine ai 7 ?_;refine ai 8 ?_;refine cG ?_;clear hHeld hC Ic;have a_:=aa (aC.o.trans (hg4.trans bK));replace bf:=aa (bf.o.grow (hg4.trans bK));replace bn:=aa (bn.o.grow (hg4.trans bK));replace ar:=aa (ar.o.grow (hg4.trans bK));have eP:=aa (eV (eU a_.o.below (au _) (au _) a_.o.size) fK.o)
 have hb2:=bf.o.cell;have hi0:(0:Int)≤(P:Int):=by omega
 have hi1:(P:Int)≤(ag.length:Int):=by omega
 have hi2:(P:Int)≤(dc:Int):=by have:=jB.o;omega
 clear hg4 bK fS HKEY jn;have hsh:=Za (A:=dA) (i:=P) pQ.o jB.o;go_upto_region 4 with (at_builtin;refine CD (w0:=W5) (.tmp 15) (.tmp 19) 24 27 5 88 _ km qB rfl rfl rfl (Y_ eP.o P dc pQ.o) (by omega) (by simp only[maxLen];omega) (ah _) ?_;intro A6 c6 w6 ll bE);clear hsh;have GN:=aa (bf.o.grow bE);have ag_:=aa (bn.o.grow bE);have GP:=aa (ar.o.grow bE);have ua:=aa ll;have aW:=aa bE;have hb3:=ag_.o.cell;clear hb2 ll bE;go_upto_region 5 with (at_builtin;refine vG (w0:=W5) (.tmp 21) (.tmp 23) 24 27 5 88 _ km qB rfl rfl (ua.o.alloc _) rfl (Zb cx (az w6 27 cx.cells)) (by omega) (by simp only[maxLen];omega) (aW.o.alloc _) ?_;intro A7 c7 w7 eZ bw);have pX:=aa eZ;have aX:=aa bw
 have aha:=((ah w6).alloc (.cells cx.cells 27)).size;clear hb3
 cases F with
 | true =>
  have hpl:=HPF.o rfl;obtain⟨q,hq⟩:∃q,P+1=q:=⟨_,rfl⟩;have EO:((P:Int)+1)=(q:Int):=by omega
  have EP:IntKind.i64.wrap (q:Int)=(q:Int):=by rw[df];omega
  have hq0:(0:Int)≤(q:Int):=by omega
  have hq1:(q:Int)≤(ag.length:Int):=by omega
  have hq2:(q:Int)≤(dc:Int):=by have:=jB.o;omega
  have Ie:q≤ag.length:=by omega
  have hcap:=jB.o;have HQ:=aa hq;have ue:=aa (bf.o.grow aX.o);have fR:=aa (eV (eU aX.o.below (au _) (au _) aX.o.size) eP.o);have hb2:=ue.o.cell;clear hq;obtain⟨AZ,hsl,hsrc⟩:=RQ (A:=dA) (i:=q) Ie hcap;have kp:=aa hsrc;clear hsrc;go_upto_region 8 with (at_builtin;refine vG (w0:=W5) (.tmp 28) (.tmp 32) 24 27 5 88 _ km qB rfl rfl pX.o rfl (kp.o _ _ _ fR.o) (by omega) (by simp only[maxLen];omega) aX.o ?_;intro A8 c8 w8 dD bW;have kI:=(bf.o.grow bW).cell;have yE:=(bf.o.grow bW).frozen);clear hsl;have gi:=(cZ (S:=fun x=>x=w.heap.size) w8).set (p:=⟨w.heap.size,1,none⟩) rfl (.slice A8 (P+1+(ag.length-q)) c8);have lV:=aa ((bf.o.grow bW).aY 1 (.slice A8 (P+1+(ag.length-q)) c8))
  have jY:=aa (gi.blk (ar.o.grow bW) (by omega));have hbase:w.heap.size<W5.heap.size:=bf.o.lt;have jy:=fG dD gi (fun g hg e=>by
   have:=(bJ dD g (by rw[bj];exact hg)).1;omega)
  have iF:=aa jy;have dN:=aa ((a_.o.trans bW).setCell (p:=⟨w.heap.size,1,none⟩) (au _) (.slice A8 (P+1+(ag.length-q)) c8));clear gi dD jy bW kI yE hb2
  try simp only[fX] at lV jY iF dN
  generalize w8.setCell ⟨w.heap.size,1,none⟩ _=w9 at lV jY iF dN ⊢;have hbc:=lV.o.cell;have hb4:=jY.o.cell;have im:=jY.o.frozen;go_wp2_with fail;refine gV (Mg (cs:=#[.string nm,.slice A8 (P+1+(ag.length-q)) c8,.slice xA xn xc]) rfl rfl rfl ?_) rfl ?_
  ·exact((jY.o.aY 0 _).aY 1 _).aY 2 _
  have HK:=(((cZ (S:=fun x=>x=w.heap.size+1+1) w9).set (p:=⟨w.heap.size+1+1,0,none⟩) rfl (.string nm)).set (p:=⟨w.heap.size+1+1,1,none⟩) rfl (.slice A8 (P+1+(ag.length-q)) c8)).set (p:=⟨w.heap.size+1+1,2,none⟩) rfl (.slice xA xn xc);have Gx:w.heap.size+1+1<W5.heap.size:=ar.o.lt;have hown:=fG iF.o HK (fun g hg e=>by
   have:=(bJ iF.o g (by rw[bj];exact hg)).1;omega)
  have bZ:=dN.o.below.trans (HK.below (B:=w.heap.size) dN.o.size (fun q hq=>by omega));have t_:eT ag d=ag.take P++d::ag.drop q:=by
   rw[xg.o]
   first | rw[aD rfl] | rw[aD trivial]
   rw[Vo,aD hpl,← HQ.o]
  have hlen:P+1+(ag.length-q)=(eT ag d).length:=by
   rw[t_,bp,aU,dU,iw];omega
  rw[t_] at hlen ⊢;exact⟨A8,c8,by rw[← hlen],Zd hown qQ.o HX.o bZ hlen hl,bZ⟩
 | false =>
  obtain⟨q,hq⟩:∃q,P=q:=⟨_,rfl⟩;have EO:((P:Int))=(q:Int):=by omega
  have EP:IntKind.i64.wrap (q:Int)=(q:Int):=by rw[df];omega
  have hq0:(0:Int)≤(q:Int):=by omega
  have hq1:(q:Int)≤(ag.length:Int):=by omega
  have hq2:(q:Int)≤(dc:Int):=by have:=jB.o;omega
  have Ie:q≤ag.length:=by omega
  have hcap:=jB.o;have HQ:=aa hq;have ue:=aa (bf.o.grow aX.o);have fR:=aa (eV (eU aX.o.below (au _) (au _) aX.o.size) eP.o);have hb2:=ue.o.cell;clear hq;obtain⟨AZ,hsl,hsrc⟩:=RQ (A:=dA) (i:=q) Ie hcap;have kp:=aa hsrc;clear hsrc;go_upto_region 8 with (at_builtin;refine vG (w0:=W5) (.tmp 28) (.tmp 32) 24 27 5 88 _ km qB rfl rfl pX.o rfl (kp.o _ _ _ fR.o) (by omega) (by simp only[maxLen];omega) aX.o ?_;intro A8 c8 w8 dD bW;have kI:=(bf.o.grow bW).cell;have yE:=(bf.o.grow bW).frozen);clear hsl;have gi:=(cZ (S:=fun x=>x=w.heap.size) w8).set (p:=⟨w.heap.size,1,none⟩) rfl (.slice A8 (P+1+(ag.length-q)) c8);have lV:=aa ((bf.o.grow bW).aY 1 (.slice A8 (P+1+(ag.length-q)) c8))
  have jY:=aa (gi.blk (ar.o.grow bW) (by omega));have hbase:w.heap.size<W5.heap.size:=bf.o.lt;have jy:=fG dD gi (fun g hg e=>by
   have:=(bJ dD g (by rw[bj];exact hg)).1;omega)
  have iF:=aa jy;have dN:=aa ((a_.o.trans bW).setCell (p:=⟨w.heap.size,1,none⟩) (au _) (.slice A8 (P+1+(ag.length-q)) c8));clear gi dD jy bW kI yE hb2
  try simp only[fX] at lV jY iF dN
  generalize w8.setCell ⟨w.heap.size,1,none⟩ _=w9 at lV jY iF dN ⊢;have hbc:=lV.o.cell;have hb4:=jY.o.cell;have im:=jY.o.frozen;go_wp2_with fail;refine gV (Mg (cs:=#[.string nm,.slice A8 (P+1+(ag.length-q)) c8,.slice xA xn xc]) rfl rfl rfl ?_) rfl ?_
  ·exact((jY.o.aY 0 _).aY 1 _).aY 2 _
  have HK:=(((cZ (S:=fun x=>x=w.heap.size+1+1) w9).set (p:=⟨w.heap.size+1+1,0,none⟩) rfl (.string nm)).set (p:=⟨w.heap.size+1+1,1,none⟩) rfl (.slice A8 (P+1+(ag.length-q)) c8)).set (p:=⟨w.heap.size+1+1,2,none⟩) rfl (.slice xA xn xc);have Gx:w.heap.size+1+1<W5.heap.size:=ar.o.lt;have hown:=fG iF.o HK (fun g hg e=>by
   have:=(bJ iF.o g (by rw[bj];exact hg)).1;omega)
  have bZ:=dN.o.below.trans (HK.below (B:=w.heap.size) dN.o.size (fun q hq=>by omega));have t_:eT ag d=ag.take P++d::ag.drop q:=by
   rw[xg.o]
   first | rw[ak (by decide),← HQ.o] | rw[← HQ.o]
   rfl
  have hlen:P+1+(ag.length-q)=(eT ag d).length:=by
   rw[t_,bp,aU,dU,iw];omega
  rw[t_] at hlen ⊢;exact⟨A8,c8,by rw[← hlen],Zd hown qQ.o HX.o bZ hlen hl,bZ⟩
theorem Ig:(prog.info? 64).map (fun i=>(i.zero,i.size,i.bytes))=some (some (.agg #[.string ⟨#[]⟩,.string ⟨#[]⟩,.bool false]),3,40):=by kernel_rfl
theorem Ah:prog.underlying 46=some (.slice 64):=by kernel_rfl
section
variable {w:World} {ad:Addr} {A:Option Addr} {n:Nat} {xs:List Ix}
theorem Zh(h:Reads (bQ w 0 w.heap.size) 3 A n (dQ xs))(i c:Nat)(hi:i≤n):Src prog 3 46 (.slice A i c) i (dQ (xs.take i)) w:=by
 have hh:=eW (c:=c) Ah (h.Ia i hi) (fun u hu=>zH xs u (Bg hu));rwa [show (dQ xs).take (i*3)=dQ (xs.take i) from yi (fun e:Ix=>e.cells.toList) 3 (fun _=>rfl) xs i] at hh
theorem Zi{cap:Nat}(h1:i≤n)(h2:n≤cap)(w:World):(Instr.sliceAt 46 (.slice A n cap) none (some (.int .i64 (i:Int))) none).run prog w=.ok (.slice A i cap) w:=by
 have k1:(0:Int)≤(i:Int):=by omega
 have k2:(i:Int)≤(n:Int):=by omega
 have k3:(i:Int)≤(cap:Int):=by omega
 rcases A with _ | a<;>go_simp
theorem Zj{cap:Nat}(h1:i≤n)(h2:n≤cap):∃B,(∀w,(Instr.sliceAt 46 (.slice A n cap) (some (.int .i64 (i:Int))) none none).run prog w=.ok (.slice B (n-i) (cap-i)) w) ∧
 ∀(w:World) (c:Nat) (xs:List Ix),Reads (bQ w 0 w.heap.size) 3 A n (dQ xs)→Src prog 3 46 (.slice B (n-i) c) (n-i) (dQ (xs.drop i)) w:=by
 have k1:(0:Int)≤(i:Int):=by omega
 have k2:(i:Int)≤(n:Int):=by omega
 have k3:(i:Int)≤(cap:Int):=by omega
 refine⟨if cap=i then A else A.map (·.add (i*3)),fun w=>by rcases A with _ | a<;>go_simp,fun w c xs h=>?_⟩;have hh:=eW (c:=c) Ah (h.Ib i cap h1 h2) (fun u hu=>zH xs u (uA hu));rwa [show (dQ xs).drop (i*3)=dQ (xs.drop i) from tN (fun e:Ix=>e.cells.toList) 3 (fun _=>rfl) xs i] at hh
theorem ahb(c:Ix)(hb:Blk w g 64 c.cells):Src prog 3 46 (.slice (some ⟨g,0,none⟩) 1 1) 1 c.cells.toList w:=
 Src.ofSlice _ Ah ⟨g,0,none⟩ 1 1 _ rfl (fun j u hu=>by
  rw[add_lit,eo,hb.cell j,← hu,nC]) (fun u hu=>by
  simp only[jI,wu,wB] at hu;rcases hu with rfl | rfl | rfl<;>rfl)
theorem ahc{P:Nat}{x:Ix}(h:w.ownsRow base 64 3 (.slice A n c) n (dQ (xs.take P)++x.cells.toList++dQ (xs.drop P)))(hn:n=(cD xs P x).length):jR w A (cD xs P x)∧n≤c:=by
 refine⟨?_,(mW h).1⟩;have e:dQ (cD xs P x)=dQ (xs.take P)++x.cells.toList++dQ (xs.drop P):=by simp[cD,dQ]
 unfold jR;rw[← hn,e];exact eV jS (lM (S:=fun _=>False) h (fun _ _ h=>h))
end
theorem ahd(nm:ByteArray)(dA xA:Option Addr)(dn dc:Nat)(xs:List Ix)(xc:Nat)(x:Ix)(w:World)(hx:jR w xA xs)(lH:xs.length≤xc)(hr:fw (gP (xs.map Ix.name)))(hl:xs.length≤1000000) :
 Calls prog 76 #[.agg #[.string nm,.slice dA dn dc,.slice xA xs.length xc],.agg x.cells] w fun e w'=>∃A c,e=.returned (.agg #[.string nm,.slice dA dn dc,.slice A (cD xs (bg (xs.map Ix.name) x.name) x).length c])∧jR w' A (cD xs (bg (xs.map Ix.name) x.name) x)∧(cD xs (bg (xs.map Ix.name) x.name) x).length≤c∧Grow w w':=by
 have HX:=aa hx;have HR:=aa hr;have jB:=aa lH;have HL:=aa hl;have Ih:=aa (show bg (xs.map Ix.name) x.name=ia (gP (xs.map Ix.name)) x.name.data.toList from (GI _ _).trans (GH hr));have hpl:=K6 (xs.map Ix.name) x.name;rw[dE] at hpl;obtain⟨P,hP⟩:∃P,bg (xs.map Ix.name) x.name=P:=⟨_,rfl⟩;rw[hP] at Ih hpl ⊢;have pQ:=aa hpl;have HG:=aa (((ah w).alloc (.cells #[.string nm,.slice dA dn dc,.slice xA xs.length xc] 48)).alloc (.cells x.cells 64) |>.alloc (.cells #[.string ⟨#[]⟩,.slice none 0 0,.slice none 0 0] 48));have bf:=aa (((az w 48 #[.string nm,.slice dA dn dc,.slice xA xs.length xc]).alloc (.cells x.cells 64)).alloc (.cells #[.string ⟨#[]⟩,.slice none 0 0,.slice none 0 0] 48))
 have bn:=aa ((cM (w:=w.alloc (.cells #[.string nm,.slice dA dn dc,.slice xA xs.length xc] 48)) (g:=w.heap.size+1) (by simp) 64 x.cells).alloc (.cells #[.string ⟨#[]⟩,.slice none 0 0,.slice none 0 0] 48));have ar:=aa (cM (w:=(w.alloc (.cells #[.string nm,.slice dA dn dc,.slice xA xs.length xc] 48)).alloc (.cells x.cells 64)) (g:=w.heap.size+1+1) (by simp) 48 #[.string ⟨#[]⟩,.slice none 0 0,.slice none 0 0]);obtain⟨xn,ER⟩:∃s,x.name=s:=⟨_,rfl⟩;have Ez:=aa ER;clear hx hr lH hl hP hpl ER;go_enter func76,ntmps76;go_wp2_with fail;generalize ((w.alloc (.cells #[.string nm,.slice dA dn dc,.slice xA xs.length xc] 48)).alloc (.cells x.cells 64)).alloc (.cells #[.string ⟨#[]⟩,.slice none 0 0,.slice none 0 0] 48)=w3 at HG bf bn ar ⊢;have hb2:=bf.o.cell;clear hb2
 go_loopg [5,6] (xs.length+1) (fun gk n i wr=>∃j:Nat,j≤xs.length∧gk+j=xs.length+1∧i=.int .i64 j∧n=.int .i64 (ia ((gP (xs.map Ix.name)).take j) x.name.data.toList:Nat)∧Grow w3 wr);exact⟨0,aR _,rfl,rfl,by simp[ia],ah _⟩;obtain⟨j,hj,hg,rfl,rfl,hgr⟩:=hrel;obtain⟨gk',rfl⟩:=bz gk (by omega);have hl0:=HL.o;have aJ:=aa hgr;obtain⟨N,hN⟩:∃N,ia ((gP (xs.map Ix.name)).take j) x.name.data.toList=N:=⟨_,rfl⟩;rw[hN];have vE:=aa hN;have hb2:=(bf.o.grow hgr).cell;have hb3:=(bn.o.grow hgr).cell;clear hN;by_cases hlt:j<xs.length
 ·obtain⟨bk,o,rfl,hbk,h0,-,-⟩:=jR.pN (BS HX.o (HG.o.trans hgr)) j hlt;have Af:=aa (RM HR.o x.name.data.toList (j:=j) (by rw[dE,dE];exact hlt));obtain⟨q,hq⟩:∃q,xs[j].name=q:=⟨_,rfl⟩;rw[hq] at h0;have HQ:=aa hq;have La:(j:Int)<(xs.length:Int):=by omega
  have zt:(0:Int)≤(j:Int):=by omega
  dsimp only[Ix.cells] at hb3;rw[Ez.o] at hb3;clear hq hgr;by_cases hls:eI q.toList xn.toList=true
  ·have hl2:Op.bytesLess q.toList xn.toList=true:=by rw[CC];exact hls
   have jQ:=aa hls;clear hls;go_wp2_with fail;go_quiet (fail);go_wp2_with fail;go_roundg gk';refine⟨j+1,by omega,by omega,by go_num,?_,aJ.o.trans ((ah _).drewN _)⟩;rw[Af.o];simp only[iO,HQ.o,Ez.o];rw[aD (by have:=jQ.o;rwa [toList_data,toList_data] at this)];go_num;omega
  have hl2:Op.bytesLess q.toList xn.toList=false:=by rw[CC];simpa using hls
  have jQ:=aa hls;clear hls;go_wp2_with fail;go_quiet (fail);go_wp2_with fail;go_roundg gk';refine⟨j+1,by omega,by omega,by go_num,?_,aJ.o.trans ((ah _).drewN _)⟩;rw[Af.o];simp only[iO,HQ.o,Ez.o];rw[ak (by have:=jQ.o;rwa [toList_data,toList_data] at this),← Ez.o,vE.o];omega
 have hjl:j=xs.length:=by omega
 subst hjl;have hN:N=P:=by
  rw[Ih.o,← vE.o,rB (by rw[dE,dE];exact au _)]
 subst hN;have a_:=aa (HG.o.trans aJ.o);replace bf:=aa (bf.o.grow aJ.o);replace bn:=aa (bn.o.grow aJ.o);replace ar:=aa (ar.o.grow aJ.o);have eP:=aa (show Reads (bQ wr 0 wr.heap.size) 3 xA xs.length (dQ xs) from BS HX.o a_.o);have hi0:(0:Int)≤(N:Int):=by omega
 have hpl:=pQ.o;have hi1:(N:Int)≤(xs.length:Int):=by omega
 have hi2:(N:Int)≤(xc:Int):=by have:=jB.o;omega
 clear hb3 hgr hpl;have hsh:=Zi (A:=xA) (i:=N) pQ.o jB.o;go_upto_region 9 with (at_builtin;refine CD (w0:=wr) (.tmp 26) (.tmp 30) 46 64 3 40 _ Ah Ig rfl rfl rfl (Zh eP.o N xc pQ.o) (by omega) (by simp only[maxLen];omega) (ah _) ?_;intro A6 c6 w6 ll bE);clear hsh;have ua:=aa ll;have aW:=aa bE;have hb3:=(bn.o.grow bE).cell;clear hb2 ll bE;go_upto_region 10 with (at_builtin;refine vG (w0:=wr) (.tmp 32) (.tmp 34) 46 64 3 40 _ Ah Ig rfl rfl (ua.o.alloc _) rfl (ahb x (az w6 64 x.cells)) (by omega) (by simp only[maxLen];omega) (aW.o.alloc _) ?_;intro A7 c7 w7 eZ bw);have pX:=aa eZ;have aX:=aa bw;have aha:=((ah w6).alloc (.cells x.cells 64)).size;have hb2:=(bf.o.grow bw).cell
 have fR:=aa (eV (eU bw.below (au _) (au _) bw.size) eP.o);have hpl:=pQ.o;have hcap:=jB.o;clear hb3 eZ bw;obtain⟨AZ,hsl,hsrc⟩:=Zj (A:=xA) (i:=N) pQ.o jB.o;have kp:=aa hsrc;clear hsrc;go_upto_region 11 with (at_builtin;refine vG (w0:=wr) (.tmp 36) (.tmp 40) 46 64 3 40 _ Ah Ig rfl rfl pX.o rfl (kp.o _ _ _ fR.o) (by omega) (by simp only[maxLen];omega) aX.o ?_;intro A8 c8 w8 dD bW;have kI:=(bf.o.grow bW).cell;have yE:=(bf.o.grow bW).frozen);clear hsl;have gi:=(cZ (S:=fun x=>x=w.heap.size) w8).set (p:=⟨w.heap.size,2,none⟩) rfl (.slice A8 (N+1+(xs.length-N)) c8);have lV:=aa ((bf.o.grow bW).aY 2 (.slice A8 (N+1+(xs.length-N)) c8));have jY:=aa (gi.blk (ar.o.grow bW) (by omega))
 have hbase:w.heap.size<wr.heap.size:=bf.o.lt;have jy:=fG dD gi (fun g hg e=>by
  have:=(bJ dD g (by rw[bj];exact hg)).1;omega)
 have iF:=aa jy;have dN:=aa ((a_.o.trans bW).setCell (p:=⟨w.heap.size,2,none⟩) (au _) (.slice A8 (N+1+(xs.length-N)) c8));clear gi dD jy bW kI yE hb2
 try simp only[fX] at lV jY iF dN
 generalize w8.setCell ⟨w.heap.size,2,none⟩ _=w9 at lV jY iF dN ⊢;have hbc:=lV.o.cell;have hb4:=jY.o.cell;have im:=jY.o.frozen;go_wp2_with fail;refine gV (Mg (cs:=#[.string nm,.slice dA dn dc,.slice A8 (N+1+(xs.length-N)) c8]) rfl rfl rfl ?_) rfl ?_
 ·exact((jY.o.aY 0 _).aY 1 _).aY 2 _
 have HK:=(((cZ (S:=fun x=>x=w.heap.size+1+1) w9).set (p:=⟨w.heap.size+1+1,0,none⟩) rfl (.string nm)).set (p:=⟨w.heap.size+1+1,1,none⟩) rfl (.slice dA dn dc)).set (p:=⟨w.heap.size+1+1,2,none⟩) rfl (.slice A8 (N+1+(xs.length-N)) c8);have Gx:w.heap.size+1+1<wr.heap.size:=ar.o.lt;have hown:=fG iF.o HK (fun g hg e=>by
  have:=(bJ iF.o g (by rw[bj];exact hg)).1;omega)
 have bZ:=dN.o.below.trans (HK.below (B:=w.heap.size) dN.o.size (fun q hq=>by omega));have hlen:N+1+(xs.length-N)=(cD xs N x).length:=by
  rw[cD,bp,aU,dU,iw];omega
 obtain⟨k1,k2⟩:=ahc hown hlen;rw[hlen] at k2;exact⟨A8,c8,by rw[← hlen],k1,k2,bZ⟩
section
open Go.RowKit Go.Shelf Go.ChangeMaps
section
variable {P:Program} {w:World}
theorem ahe(t kt et:TypeId)(ht:P.underlying t=some (.map kt et))(hk:P.underlying kt=some (.int .i64))(g:Nat)(es:Array MapEntry)(clock:Nat)(h:w.heap[g]?=some (.map es clock))(k:Int)(i:Nat)(v:Value)
 (hf:Instr.findNow (.int .i64) (.int .i64 k) es.toList 0=some (some (i,v))) :
 (Instr.lookup t (.map (some g)) (.int .i64 k) true).run P w=.ok (.tuple #[v,.bool true]) w:=by
 unfold Instr.lookup;simp only[AV,wj ht,Db,Kl h,KS kt hk,KT kt hk k _ _ hf,Da];rfl
theorem ahf(t kt et:TypeId)(z:Value)(ht:P.underlying t=some (.map kt et))(hk:P.underlying kt=some (.int .i64))(hz:Sem.run P (zeroValue et) w=.ok z w)(g:Nat)(es:Array MapEntry)(clock:Nat)(h:w.heap[g]?=some (.map es clock))(k:Int)
 (hf:Instr.findNow (.int .i64) (.int .i64 k) es.toList 0=some none) :
 (Instr.lookup t (.map (some g)) (.int .i64 k) true).run P w=.ok (.tuple #[z,.bool false]) w:=by
 unfold Instr.lookup;simp only[AV,wj ht,Db,Kl h,KS kt hk,KT kt hk k _ _ hf,Da];rw[hz];rfl
end
theorem uf:prog.underlying 90=some (.map 3 88):=by kernel_rfl
theorem xw:prog.underlying 3=some (.int .i64):=by kernel_rfl
theorem ahg(w:World):(Instr.makeMap 90 none).run prog w=.ok (.map (some w.heap.size)) (w.alloc (.map #[] 0)):=by kernel_rfl
def reqs:Array MapEntry:=#[{ key:=.int .i64 1,val:=.agg #[.func (.func 79) #[] #[]],born:=0 },{ key:=.int .i64 2,val:=.agg #[.func (.func 80) #[] #[]],born:=1 },{ key:=.int .i64 3,val:=.agg #[.func (.func 81) #[] #[]],born:=2 },{ key:=.int .i64 4,val:=.agg #[.func (.func 81) #[] #[]],born:=3 },{ key:=.int .i64 5,val:=.agg #[.func (.func 82) #[] #[]],born:=4 },{ key:=.int .i64 6,val:=.agg #[.func (.func 83) #[] #[]],born:=5 },{ key:=.int .i64 7,val:=.agg #[.func (.func 84) #[] #[]],born:=6 },{ key:=.int .i64 8,val:=.agg #[.func (.func 85) #[] #[]],born:=7 },{ key:=.int .i64 9,val:=.agg #[.func (.func 86) #[] #[]],born:=8 },{ key:=.int .i64 10,val:=.agg #[.func (.func 87) #[] #[]],born:=9 }]
theorem Mi(w:World):Calls prog 36 #[] w fun e w'=>∃g,e=.returned (.map (some g))∧w.heap.size≤g∧w'.heap[g]?=some (.map reqs 10)∧Grow w w':=by
 have hmm:=ahg
 have Pn:=aa (show (w.alloc (.map #[] 0)).heap[w.heap.size]?=some (.map #[] 0) from J0 _ _);have aN:=aa ((ah w).alloc (.map #[] 0));go_enter func36,ntmps36;go_wp2_with (first
  | (refine mQ rfl (.tmp 1) (.const (.int .i64 1)) (.tmp 2) 90 3 88 rfl uf xw w.heap.size _ 0 rfl 1 rfl Pn.o (by rfl) ?_;intro w1 hi1 hg1;have D6:=aa hi1;have aO:=aa (aN.o.grown hg1 (fun q hq=>by injection hq with hq;omega));clear hi1 hg1)
  | (refine mQ rfl (.tmp 1) (.const (.int .i64 2)) (.tmp 3) 90 3 88 rfl uf xw w.heap.size _ 1 rfl 2 rfl D6.o (by rfl) ?_;intro w2 hi2 hg2;have Gm:=aa hi2;have HG2:=aa (aO.o.grown hg2 (fun q hq=>by injection hq with hq;omega));clear hi2 hg2)
  | (refine mQ rfl (.tmp 1) (.const (.int .i64 3)) (.tmp 4) 90 3 88 rfl uf xw w.heap.size _ 2 rfl 3 rfl Gm.o (by rfl) ?_;intro w3 uU hg3;have zA:=aa uU;have aG:=aa (HG2.o.grown hg3 (fun q hq=>by injection hq with hq;omega));clear uU hg3)
  | (refine mQ rfl (.tmp 1) (.const (.int .i64 4)) (.tmp 5) 90 3 88 rfl uf xw w.heap.size _ 3 rfl 4 rfl zA.o (by rfl) ?_;intro w4 hi4 hg4;have zB:=aa hi4;have bP:=aa (aG.o.grown hg4 (fun q hq=>by injection hq with hq;omega));clear hi4 hg4)
  | (refine mQ rfl (.tmp 1) (.const (.int .i64 5)) (.tmp 6) 90 3 88 rfl uf xw w.heap.size _ 4 rfl 5 rfl zB.o (by rfl) ?_;intro w5 hi5 bK;have D7:=aa hi5;have a_:=aa (bP.o.grown bK (fun q hq=>by injection hq with hq;omega));clear hi5 bK)
  | (refine mQ rfl (.tmp 1) (.const (.int .i64 6)) (.tmp 7) 90 3 88 rfl uf xw w.heap.size _ 5 rfl 6 rfl D7.o (by rfl) ?_;intro w6 Gn bE;have Po:=aa Gn;have aW:=aa (a_.o.grown bE (fun q hq=>by injection hq with hq;omega));clear Gn bE)
  | (refine mQ rfl (.tmp 1) (.const (.int .i64 7)) (.tmp 8) 90 3 88 rfl uf xw w.heap.size _ 6 rfl 7 rfl Po.o (by rfl) ?_;intro w7 Gp bw;have Pp:=aa Gp;have aX:=aa (aW.o.grown bw (fun q hq=>by injection hq with hq;omega));clear Gp bw)
  | (refine mQ rfl (.tmp 1) (.const (.int .i64 8)) (.tmp 9) 90 3 88 rfl uf xw w.heap.size _ 7 rfl 8 rfl Pp.o (by rfl) ?_;intro w8 Gq bW;have Pq:=aa Gq;have bR:=aa (aX.o.grown bW (fun q hq=>by injection hq with hq;omega));clear Gq bW)
  | (refine mQ rfl (.tmp 1) (.const (.int .i64 9)) (.tmp 10) 90 3 88 rfl uf xw w.heap.size _ 8 rfl 9 rfl Pq.o (by rfl) ?_;intro w9 Zk lh;have HI9:=aa Zk;have dN:=aa (bR.o.grown lh (fun q hq=>by injection hq with hq;omega));clear Zk lh)
  | (refine mQ rfl (.tmp 1) (.const (.int .i64 10)) (.tmp 11) 90 3 88 rfl uf xw w.heap.size _ 9 rfl 10 rfl HI9.o (by rfl) ?_;intro pS Zl ES;have ahh:=aa Zl;have ET:=aa (dN.o.grown ES (fun q hq=>by injection hq with hq;omega));clear Zl ES))
 go_ret;exact⟨w.heap.size,rfl,au _,ahh.o,ET.o⟩
theorem ahi(k:Int)(h:¬ (1≤k∧k≤10)):Instr.findNow (.int .i64) (.int .i64 k) reqs.toList 0=some none:=by
 have h1:(k==1)=false:=by simp;omega
 have h2:(k==2)=false:=by simp;omega
 have h3:(k==3)=false:=by simp;omega
 have h4:(k==4)=false:=by simp;omega
 have h5:(k==5)=false:=by simp;omega
 have h6:(k==6)=false:=by simp;omega
 have h7:(k==7)=false:=by simp;omega
 have h8:(k==8)=false:=by simp;omega
 have h9:(k==9)=false:=by simp;omega
 have h10:(k==10)=false:=by simp;omega
 unfold reqs;simp[Instr.findNow,Instr.sameNow,h1,h2,h3,h4,h5,h6,h7,h8,h9,h10]
end
theorem ahj{k:List UInt8}{d:V}(h:fw (gf ag))(hm:ag[m]?=some d)(hk:(bV d).1=k):gL ag k=true∧gK ag k=m∧ag.getD m V.zero=d∧m<ag.length:=by
 obtain⟨hl,hd⟩:=jd.1 hm;have hl2:m<(gf ag).length:=by rw[dE];exact hl
 have he:(gf ag)[m]=k:=by rw[iO,hd,hk]
 have hF:kF (gf ag) k=true:=(Ek h).2 (he ▸ aS hl2);obtain⟨a,b⟩:=jd.1 (K1 hF);refine⟨by rw[BX];exact hF,?_,by rw[gy,hm,pq],hl⟩;rw[GJ];exact h.inj a hl2 (b.trans he.symm)
theorem ahk{d:V}:(eT ag d)[gK ag (bV d).1]?=some d:=by
 unfold eT;split
 ·rename_i hf;rw[Ks (yj hf)]
 have hl:(ag.take (gK ag (bV d).1)).length=gK ag (bV d).1:=by rw[dU];have:=DM (oG ag (bV d).1) ag.length;unfold gK;omega
 rw[cD,Ka (by omega),hl,y_];rfl
theorem ahl{d:V}:(eT ag d).length=ag.length+1-(if gL ag (bV d).1=true then 1 else 0):=by
 unfold eT;split
 ·rw[gW];omega
 rw[qM];omega
theorem ahm{k:List UInt8}{d:V}(h:fw (gf ag))(hm:ag[m]?=some d)(hk:(bV d).1=k):gL (cT ag m) k=false:=by
 obtain⟨hl,hd⟩:=jd.1 hm;refine J7.2 fun hF=>?_
 rw[BX,gf,K7] at hF;have hr:=h.del m;have hi:=(Ek hr).1 hF;have e:gf ag=(gf ag).take m++k::(gf ag).drop (m+1):=by
  have hl2:m<(gf ag).length:=by rw[dE];exact hl
  have he:(gf ag)[m]=k:=by rw[iO,hd,hk]
  rw[← he,List.getElem_cons_drop,sO]
 have hp:fw ((gf ag).take m++k::(gf ag).drop (m+1)):=e ▸ h;obtain⟨-,h2,h3⟩:=N_.1 hp;have h4:=(Kq.1 h2).1;rcases qo.1 hi with hi | hi
 ·have:=h3 k hi k (Km ..);rw[vg] at this;cases this
 have:=h4 k hi;rw[vg] at this;cases this
theorem Zm(hF:cr (aP st) s=true){c:Co}(hn:c.name=(bX st s).name):aP (st.set (bg (aP st) s) c)=aP st∧bX (st.set (bg (aP st) s) c) s=c:=by
 obtain⟨h1,h2,h3,h4⟩:=iC hF;have e:aP (st.set (bg (aP st) s) c)=aP st:=by
  rw[aP,List.map_set,hn];have hg:(st.map Co.name)[bg (aP st) s]?=some (bX st s).name:=by rw[sS,h1];rfl
  obtain⟨hg1,hg2⟩:=jd.1 hg;rw[← hg2,Ob]
 refine⟨e,?_⟩;unfold bX;rw[e,gy,Ks h4,pq]
theorem ahn{d i:V}(h:gh d)(hi:kC d=some i):mq d jW=some i:=by
 obtain⟨j,-,-,-,hg,h8⟩:=h.id;unfold mq;rw[aD hg,ak (by decide +kernel),show nG jW=[jW] by decide +kernel,pH];obtain⟨k,n,b,l,f⟩:=d;have e:jl (.mk k n b l f) jW=some i:=by
  rw[wQ (by rintro rfl;cases h8)];exact hi
 rw[e];rfl
theorem aho:V.zero.fit:=by unfold V.zero;rw[V.fit];exact⟨by decide,fun x h=>by simp at h,fun x h=>by simp at h⟩
structure Zn (N:Nat) (st:List Co) (name:ByteArray) (d:V) (t:List Co) (na:Int) (v:List Co) (i:V) (n m o:Int):Prop where
 ahp:mq d jW=some i
 RS:i.count≤20000
 RT:cz (N+1) t
 Zo:cz (N+2) v
 pg:h_ t (lQ 6 name i)=.ok (t,0,[d])
 pk:h_ t (lQ 5 name i)=.ok (v,0,[d])
 ph:h_ v (lQ 6 name i)=.error 17
 pn:h_ st (pR 10 name)=.ok (st,n,[])
 pm:h_ t (pR 10 name)=.ok (t,m,[])
 po:h_ v (pR 10 name)=.ok (v,o,[])
 pna:0≤na∧na≤1
 pnn:0≤n∧n≤N
 pem:m=n+1-na
 peo:o=m-1
theorem CE{c:ByteArray}{i:V}:h_ st (lQ 6 c i)=wT st (lQ 6 c i)∧h_ st (lQ 5 c i)=tM st (lQ 5 c i)∧h_ st (pR 10 c)=countP st (pR 10 c):=⟨rfl,rfl,rfl⟩
theorem ahq{name:ByteArray}{d:V}(h:cz N st)(hf:d.fit)(hc:d.count≤20000){x:mS}(hx:qN N st (zS 3 name d) x) :
 (∃k,k≠0∧x=.error k)∨∃t na v i n m o,x=.ok (t,na,[])∧Zn N st name d t na v i n m o:=by
 rcases hx with hx | ⟨-,-,hx⟩ | ⟨h7,-⟩
 ·rw[XY rfl] at hx;subst hx;unfold oH;rw[show (zS 3 name d).aw=name from rfl,show (zS 3 name d).doc=d from rfl];split;· exact .inl ⟨_,by decide,rfl⟩
  rename_i h1;split;· exact .inl ⟨_,by assumption,rfl⟩
  rename_i h2;split;· exact .inl ⟨_,by assumption,rfl⟩
  split;· exact .inl ⟨_,by decide,rfl⟩
  have hF:cr (aP st) name=true:=by simpa using h1
  have hd:gh d:=⟨by simpa using h2,hf,hc⟩;obtain⟨i,hi,hK,hkey,-,-⟩:=hd.id;have aA:=h.co _ (iC hF).2.1;obtain⟨c,hcc⟩:∃c,bX st name=c:=⟨_,rfl⟩;have ht:=h.P6 hF hd;rw[hcc] at aA ht ⊢;have hr:fw (gf (eT c.ag d)):=WV aA.keys;have hl:=ahl (ag:=c.ag) (d:=d);have hat:=ahk (ag:=c.ag) (d:=d);obtain⟨q1,q2,q3,q4⟩:=ahj hr hat rfl;have q5:=ahm hr hat rfl;obtain⟨s1,s2⟩:=Zm hF (c:=⟨c.name,eT c.ag d,c.aj⟩) (by rw[hcc]);generalize hT:st.set (bg (aP st) name) ⟨c.name,eT c.ag d,c.aj⟩=t at ht s1 s2 ⊢;generalize gK c.ag (bV d).1=m0 at hat q2 q3 q4 q5;have hk1:(bV d).1=i.key:=by rw[hkey]
  rw[hk1] at hl q1 q2 q5 ⊢;have Ii:cr (aP t) name=true:=by rw[s1];exact hF
  have hof:bl i=(i.key,0):=hK.bl;obtain⟨r1,r2⟩:=Zm Ii (c:=⟨c.name,cT (eT c.ag d) m0,c.aj⟩) (by rw[s2]);have RU:tM t (lQ 5 name i)=.ok (t.set (bg (aP t) name) ⟨c.name,cT (eT c.ag d) m0,c.aj⟩,0,[d]):=by
   unfold tM;rw[show (lQ 5 name i).aw=name from rfl,show (lQ 5 name i).key=i from rfl,s2,hof];dsimp only;rw[Ii,q1,q2,q3,ak (by decide),ak (by decide),ak (by decide)]
  have hv:=En ht aho (q:=lQ 5 name i) (by show V.count V.zero≤_;unfold V.zero;rw[sZ];decide) (CE.2.1.trans RU);generalize hV:t.set (bg (aP t) name) ⟨c.name,cT (eT c.ag d) m0,c.aj⟩=v at r1 r2 RU hv;have CG:cr (aP v) name=true:=by rw[r1];exact Ii
  have bA:(cT (eT c.ag d) m0).length=(eT c.ag d).length-1:=by unfold cT;rw[bp,dU,iw];omega
  have hct:∀{st:List Co} {c:Co},cr (aP st) name=true→bX st name=c→countP st (pR 10 name)=.ok (st,c.ag.length,[]):=fun {st c} hF hc=>by
   unfold countP;rw[show (pR 10 name).aw=name from rfl,hF,hc,ak (by decide)]
  have hnd:=aA.nd;refine .inr ⟨t,_,v,i,(c.ag.length:Nat),((eT c.ag d).length:Nat),((cT (eT c.ag d) m0).length:Nat),rfl,ahn hd hi,?_,ht,hv,?_,CE.2.1.trans RU,?_,(CE (i:=i)).2.2.trans (hct hF hcc),(CE (i:=i)).2.2.trans (hct Ii s2),(CE (i:=i)).2.2.trans (hct CG r2),by split<;>omega,by omega,by rw[hl];split<;>omega,by omega⟩
  ·have:=BK hi;omega
  ·rw[CE.1];unfold wT;rw[show (lQ 6 name i).aw=name from rfl,show (lQ 6 name i).key=i from rfl,s2,hof];dsimp only;rw[Ii,q1,q2,q3,ak (by decide),ak (by decide),ak (by decide)]
  rw[CE.1];unfold wT;rw[show (lQ 6 name i).aw=name from rfl,show (lQ 6 name i).key=i from rfl,r2,hof];dsimp only;rw[CG,q5,ak (by decide),ak (by decide),aD rfl]
 ·exact .inl ⟨_,by decide,hx⟩
 rcases h7 with h | h<;>cases h
theorem Zp{x:mS}(h:(mU st x).2.e≠0):mU st x=(st,⟨(mU st x).2.e,0,[],0⟩):=by
 rcases x with k | ⟨t,n,l⟩
 ·rfl
 exact absurd rfl h
end Go.Proofs.YtndjopkdbdcmdaaGreatDoor
