/- Part 13 of the proof of pfinds_card. -/
import Derived.Test.YtndjopkdbdcmdaaGreatDoorPfi11
set_option linter.unusedVariables false
set_option linter.unusedSimpArgs false
set_option maxRecDepth 100000
set_option maxHeartbeats 12800000
open Go.Proofs.Tryz
namespace Go.Proofs.YtndjopkdbdcmdaaGreatDoor
section
open Go.RowKit Go.Shelf Go.WideShapes
theorem Xg(n:Nat)(hn:n<18446744073709551616):dt n=(decide (n / 4503599627370496 % 2048=2047)&&decide (n % 4503599627370496≠0)):=by
 have h1:Ieee.double.signWeight=9223372036854775808:=by decide
 have h2:Ieee.double.binade=4503599627370496:=by decide
 have h3:Ieee.double.infRung=9218868437227405312:=by decide
 unfold dt Ieee.Format.order Ieee.Format.read;rw[h1,h2,h3];simp only;by_cases c1:n % 9223372036854775808<4503599627370496
 ·rw[aw c1,bX (by omega)];simp[Ieee.Datum.order]
 rw[ai c1];by_cases c2:n % 9223372036854775808<9218868437227405312
 ·rw[aw c2,bX (by omega)];simp[Ieee.Datum.order]
 rw[ai c2];by_cases c3:n % 9223372036854775808=9218868437227405312
 ·rw[aw c3,bW (show n / 4503599627370496 % 2048=2047 by omega),bX (show ¬ n % 4503599627370496≠0 by omega)];simp[Ieee.Datum.order]
 rw[ai c3,bW (show n / 4503599627370496 % 2048=2047 by omega),bW (show n % 4503599627370496≠0 by omega)];simp[Ieee.Datum.order]
theorem Row.aex{w:World}{b1 b2 m:Nat}{v:Value}{xs:List UInt8}(h:Row w b1 v m xs)(hb:b2≤b1):Row w b2 v m xs:=by
 rcases h.2 with q | ⟨g,cap,cur,hv,hg,r⟩
 ·exact⟨h.1,.inl q⟩
 exact⟨h.1,.inr ⟨g,cap,cur,hv,bn hb hg,r⟩⟩
theorem f_.row{w w':World}{b xs:List UInt8}{base n c:Nat}{A:Option Addr}(h:xs=b)(hn:n=b.length)(hb:w.heap.size≤base)(hr:Row w' base (.slice A n c) n xs)(hg:Grow w w'):f_ w b (.returned (.slice A n c)) w':=
 f_.of h hn (hr.aex hb) hg
theorem aey(i:Int)(h1:-9223372036854775808≤i)(h2:i≤9223372036854775807):(fl i).1<18446744073709551616∧(fl i).2<18446744073709551616:=by
 have hc:=Di i h1 h2;obtain⟨FLT⟩:=hc;exact⟨by omega,by omega⟩
theorem aez{P:Program}{md:Region.Mode}{ops:Array Oper}{Q:Exit→Act→World→Prop}{S:World→Prop}{n:Nat}{l:Array Bool}{a:Act}{W:World}(di dj dk:Option Tmp)(i j k:Nat)(R:Value→Value→Value→World→Prop)
 (rest:∀x y z W2,R x y z W2→wpAnyH P md ops Q S n (((l.setIfInBounds i true).setIfInBounds j true).setIfInBounds k true) (((a.put di x).put dj y).put dk z) W2)
 (go:(∀x y z W2,R x y z W2→wpAnyH P md ops Q S n (((l.setIfInBounds i true).setIfInBounds j true).setIfInBounds k true) (((a.put di x).put dj y).put dk z) W2)→wpAnyH P md ops Q S (n+3) l a W):wpAnyH P md ops Q S (n+3) l a W:=go rest
def CvC(w wr:World)(m:Nat)(xs:List UInt8)(x:UInt8)(b:List UInt8)(y z:Value)(W:World):Prop:=
 ∃A1 c1 cn gv,y=.slice A1 (m+1) c1∧z=.slice (some ⟨gv,0,none⟩) b.length cn∧Row W (w.heap.size+1) (.slice A1 (m+1) c1) (m+1) (xs++[x])∧b.length≤cn∧bA W (some ⟨gv,0,none⟩) b∧Below (w.heap.size+1) wr W
theorem Xh{W W':World}{gv:Nat}{b:List UInt8}{v:Value}(h:bA W (some ⟨gv,0,none⟩) b)(hg:W.grownBy W' v.ownBlock)(hn:∀k,v.ownBlock=some k→k<gv):bA W' (some ⟨gv,0,none⟩) b:=by
 refine⟨h.1,fun hp=>?_⟩;obtain⟨bk,o,e,hc⟩:=h.2 hp;injection e with e;injection e with e1 e2;subst e1 e2;exact⟨gv,0,rfl,fun j u hu=>⟨World.grownBy.cell hg (hc j u hu).1 (fun e=>by have:=hn gv e.symm;omega),ba _,df (hc j u hu).2.2 hg.size⟩⟩
def P9(x:V):Prop:=∀(w:World) (c:Cv),In w x c→x.key.length≤1000000→Calls prog 105 #[c.agg] w (f_ w x.key)
theorem aeA(W:World):(Instr.index 196 (.agg #[.int .u8 0,.int .u8 16,.int .u8 32,.int .u8 48,.int .u8 48,.int .u8 64,.int .u8 80,.int .u8 96,.int .u8 112]) (.int .i64 1)).run prog W=.ok (.int .u8 16) W:=by kernel_rfl
theorem aeB(W:World):(Instr.index 196 (.agg #[.int .u8 0,.int .u8 16,.int .u8 32,.int .u8 48,.int .u8 48,.int .u8 64,.int .u8 80,.int .u8 96,.int .u8 112]) (.int .i64 2)).run prog W=.ok (.int .u8 32) W:=by kernel_rfl
theorem aeC(W:World):(Instr.index 196 (.agg #[.int .u8 0,.int .u8 16,.int .u8 32,.int .u8 48,.int .u8 48,.int .u8 64,.int .u8 80,.int .u8 96,.int .u8 112]) (.int .i64 3)).run prog W=.ok (.int .u8 48) W:=by kernel_rfl
theorem Xi(W:World):(Instr.index 196 (.agg #[.int .u8 0,.int .u8 16,.int .u8 32,.int .u8 48,.int .u8 48,.int .u8 64,.int .u8 80,.int .u8 96,.int .u8 112]) (.int .i64 4)).run prog W=.ok (.int .u8 48) W:=by kernel_rfl
theorem aeD(W:World):(Instr.index 196 (.agg #[.int .u8 0,.int .u8 16,.int .u8 32,.int .u8 48,.int .u8 48,.int .u8 64,.int .u8 80,.int .u8 96,.int .u8 112]) (.int .i64 5)).run prog W=.ok (.int .u8 64) W:=by kernel_rfl
theorem aeE(W:World):(Instr.index 196 (.agg #[.int .u8 0,.int .u8 16,.int .u8 32,.int .u8 48,.int .u8 48,.int .u8 64,.int .u8 80,.int .u8 96,.int .u8 112]) (.int .i64 6)).run prog W=.ok (.int .u8 80) W:=by kernel_rfl
theorem aeF(W:World):(Instr.index 196 (.agg #[.int .u8 0,.int .u8 16,.int .u8 32,.int .u8 48,.int .u8 48,.int .u8 64,.int .u8 80,.int .u8 96,.int .u8 112]) (.int .i64 7)).run prog W=.ok (.int .u8 96) W:=by kernel_rfl
theorem aeG(W:World):(Instr.index 196 (.agg #[.int .u8 0,.int .u8 16,.int .u8 32,.int .u8 48,.int .u8 48,.int .u8 64,.int .u8 80,.int .u8 96,.int .u8 112]) (.int .i64 8)).run prog W=.ok (.int .u8 112) W:=by kernel_rfl
theorem aeH(w:World)(c:Cv)(hv:In w (V.mk 1 0 [] [] []) c) :
 Calls prog 105 #[c.agg] w (f_ w (V.key (V.mk 1 0 [] [] []))):=by
 obtain⟨aB,aL,aF,cB,cL,cF,rfl,h1,h2,h3,h4,h5,h6,h7,h8,h9,hb0⟩:=mz hv;have hz:(w.alloc (.cells #[.int .i64 1,.int .u64 0,.slice aB 0 cB,.slice aL 0 cL,.slice aF 0 cF] 27)).heap.size=w.heap.size+1:=by simp
 have hrow:=xI (w:=w.alloc (.cells #[.int .i64 1,.int .u64 0,.slice aB 0 cB,.slice aL 0 cL,.slice aF 0 cF] 27)) 16 (e:=16) rfl;rw[hz] at hrow;have ed:=aa hrow;have zE:=aeA;have bg:=aa ((aD w 27 #[.int .i64 1,.int .u64 0,.slice aB 0 cB,.slice aL 0 cL,.slice aF 0 cF]).alloc (.cells #[.int .u8 16] 5));have aM:=aa (((ah w).alloc (.cells #[.int .i64 1,.int .u64 0,.slice aB 0 cB,.slice aL 0 cL,.slice aF 0 cF] 27)).alloc (.cells #[.int .u8 16] 5));clear hrow hb0;go_enter func105,ntmps105;go_wp2_with fail;go_ret;exact f_.row (by rw[fG];rfl) (by rw[fG];rfl) (by omega) ed.o aM.o
theorem aeI(w:World)(c:Cv)(n:Nat)(hv:In w (V.mk 2 n [] [] []) c) :
 Calls prog 105 #[c.agg] w (f_ w (V.key (V.mk 2 n [] [] []))):=by
 obtain⟨aB,aL,aF,cB,cL,cF,rfl,h1,h2,h3,h4,h5,h6,h7,h8,h9,hb0⟩:=mz hv;have hz:(w.alloc (.cells #[.int .i64 2,.int .u64 n,.slice aB 0 cB,.slice aL 0 cL,.slice aF 0 cF] 27)).heap.size=w.heap.size+1:=by simp
 have hrow:=xI (w:=w.alloc (.cells #[.int .i64 2,.int .u64 n,.slice aB 0 cB,.slice aL 0 cL,.slice aF 0 cF] 27)) 32 (e:=32) rfl;rw[hz] at hrow;have ed:=aa hrow;have zE:=aeB;have bg:=aa ((aD w 27 #[.int .i64 2,.int .u64 n,.slice aB 0 cB,.slice aL 0 cL,.slice aF 0 cF]).alloc (.cells #[.int .u8 32] 5));have aM:=aa (((ah w).alloc (.cells #[.int .i64 2,.int .u64 n,.slice aB 0 cB,.slice aL 0 cL,.slice aF 0 cF] 27)).alloc (.cells #[.int .u8 32] 5));have hwr:IntKind.u8.wrap (n:Int)=(n:Int) % 256:=Kl _;clear hrow hb0;go_enter func105,ntmps105
 go_wp2_with (first | (at_builtin;refine gy (ys:=[UInt8.ofNat n]) rfl (.tmp 17) (.tmp 21) _ rfl rfl (ed.o.alloc _) _ rfl (kG _ (Ha _) (cX (by simp) _ _)) (by simp only[aT,bz];omega) (by simp) ?_;intro A2 c2 w2 hr2 hg2;have HG2:=aa (cU (aM.o.alloc _) (eJ (eI hg2 (ed.o.alloc _) (by simp)) (by omega)));have cE:=aa hr2;clear hr2 hg2) | fail);go_ret;exact f_.row (by rw[fG];rfl) (by rw[fG];rfl) (by omega) cE.o HG2.o
theorem aeJ(w:World)(c:Cv)(n:Nat)(hv:In w (V.mk 3 n [] [] []) c) :
 Calls prog 105 #[c.agg] w (f_ w (V.key (V.mk 3 n [] [] []))):=by
 obtain⟨aB,aL,aF,cB,cL,cF,rfl,h1,h2,h3,h4,h5,h6,h7,h8,h9,hb0⟩:=mz hv;have hz:(w.alloc (.cells #[.int .i64 3,.int .u64 n,.slice aB 0 cB,.slice aL 0 cL,.slice aF 0 cF] 27)).heap.size=w.heap.size+1:=by simp
 have hrow:=xI (w:=w.alloc (.cells #[.int .i64 3,.int .u64 n,.slice aB 0 cB,.slice aL 0 cL,.slice aF 0 cF] 27)) 48 (e:=48) rfl;rw[hz] at hrow;have ed:=aa hrow;have zE:=aeC;have bg:=aa ((aD w 27 #[.int .i64 3,.int .u64 n,.slice aB 0 cB,.slice aL 0 cL,.slice aF 0 cF]).alloc (.cells #[.int .u8 48] 5));have aM:=aa (((ah w).alloc (.cells #[.int .i64 3,.int .u64 n,.slice aB 0 cB,.slice aL 0 cL,.slice aF 0 cF] 27)).alloc (.cells #[.int .u8 48] 5));have hcv:IntKind.i64.wrap (n:Int)=i64 n:=by unfold i64;rw[lJ];split<;>omega
 have hi1:-9223372036854775808≤i64 n∧i64 n≤9223372036854775807:=by unfold i64;split<;>omega
 obtain⟨I,hI⟩:∃I,i64 n=I:=⟨_,rfl⟩;rw[hI] at hcv hi1;have HI:=aa hI;have Hb:=aey I hi1.1 hi1.2;have oa:=aa (fun w=>adB I hi1.1 hi1.2 w);obtain⟨F,R,P_⟩:∃F R,fl I=(F,R):=⟨_,_,rfl⟩;rw[P_] at Hb oa;dsimp only at Hb oa;have Xj:=aa P_;have HT:=aa (fun w=>Pt F w Hb.1);have HH:=aa (fun w=>DK (fq F) 8 w (by omega) (AY F Hb.1));have zF:=aa (fun w=>DK R 2 w (by omega) Hb.2);clear hrow hb0 hI P_;go_enter func105,ntmps105;go_wp2_with fail;refine(oa.o _).mono ?_;rintro e w1 ⟨rfl,rfl⟩
 go_wp2_with (first | (at_builtin;refine gy (ys:=[1]) rfl (.tmp 32) (.tmp 33) _ rfl rfl (ed.o.alloc _) _ rfl (kG 1 rfl (cX (by simp) _ _)) (by simp only[fX,aT,bz]<;>omega) (by first | omega | (simp only[dJ];omega)) ?_;intro A2 c2 w2 hr2 hg2;have hz2:=hg2.size;have HG2:=aa (cU (yT aM.o _) (eJ (eI hg2 (ed.o.alloc _) (by first | omega | (simp only[dJ];omega))) (by omega)));have cE:=aa hr2;(try simp only[dJ] at hz2);clear hr2 hg2) | fail);refine(HT.o _).mono ?_;rintro e w3 ⟨rfl,rfl⟩;go_wp2_with fail;refine(HH.o _).mono ?_;rintro e w4 ⟨A4,c4,rfl,hr4,hg4⟩;have dP:=aa hr4;have cj:=aa (tO HG2.o hg4);have mK:=aa (cE.o.grow hg4);have xC:=hg4.size;clear hr4 hg4
 go_wp2_with (first | (at_builtin;refine gy (ys:=be 8 (fq F)) rfl (.tmp 35) (.tmp 38) _ rfl rfl mK.o _ rfl (fe eH dP.o.reads.1 (i6 _)) (by simp only[fX,aT,bz]<;>omega) (by first | omega | (simp only[dJ];omega)) ?_;intro A5 c5 w5 iw bP;have uv:=bP.size;have bN:=aa (cU cj.o (eJ (eI bP mK.o (by first | omega | (simp only[dJ];omega))) (by omega)));have h_:=aa iw;(try simp only[dJ] at uv);clear iw bP) | fail);refine(zF.o _).mono ?_;rintro e w6 ⟨A6,c6,rfl,pW,cH⟩;have xJ:=aa pW;have bp:=aa (tO bN.o cH);have Xk:=aa (h_.o.grow cH);have D7:=cH.size;clear pW cH
 go_wp2_with (first | (at_builtin;refine gy (ys:=be 2 R) rfl (.tmp 39) (.tmp 41) _ rfl rfl Xk.o _ rfl (fe eH xJ.o.reads.1 (i6 _)) (by simp only[fX,aT,bz]<;>omega) (by first | omega | (simp only[dJ];omega)) ?_;intro A7 c7 w7 kp b_;have Bp:=b_.size;have aX:=aa (cU bp.o (eJ (eI b_ Xk.o (by first | omega | (simp only[dJ];omega))) (by omega)));have iy:=aa kp;(try simp only[dJ] at Bp);clear kp b_) | (at_builtin;refine gy (ys:=[0]) rfl (.tmp 43) (.tmp 44) _ rfl rfl (iy.o.alloc _) _ rfl (kG 0 rfl (cX (by simp) _ _)) (by simp only[fX,aT,bz]<;>omega) (by first | omega | (simp only[dJ];omega)) ?_;intro A8 c8 w8 xK cY;have Xl:=cY.size;have cD:=aa (cU (yT aX.o _) (eJ (eI cY (iy.o.alloc _) (by first | omega | (simp only[dJ];omega))) (by omega)));have qO:=aa xK;(try simp only[dJ] at Xl);clear xK cY) | fail)
 go_ret;exact f_.row (by rw[fG];simp[mZ,HI.o,Xj.o]) (by rw[fG];simp[mZ,HI.o,Xj.o,fX]) (by omega) qO.o cD.o
theorem aeK(w:World)(c:Cv)(b:List UInt8)(hv:In w (V.mk 5 0 b [] []) c)(hm:(V.mk 5 0 b [] []).key.length≤1000000) :
 Calls prog 105 #[c.agg] w (f_ w (V.key (V.mk 5 0 b [] []))):=by
 obtain⟨aB,aL,aF,cB,cL,cF,rfl,h1,h2,h3,h4,h5,h6,h7,h8,h9,hb0⟩:=mz hv;have hz:(w.alloc (.cells #[.int .i64 5,.int .u64 0,.slice aB b.length cB,.slice aL 0 cL,.slice aF 0 cF] 27)).heap.size=w.heap.size+1:=by simp
 have hrow:=xI (w:=w.alloc (.cells #[.int .i64 5,.int .u64 0,.slice aB b.length cB,.slice aL 0 cL,.slice aF 0 cF] 27)) 64 (e:=64) rfl;rw[hz] at hrow;have ed:=aa hrow;have zE:=aeD;have bg:=aa ((aD w 27 #[.int .i64 5,.int .u64 0,.slice aB b.length cB,.slice aL 0 cL,.slice aF 0 cF]).alloc (.cells #[.int .u8 64] 5));have aM:=aa (((ah w).alloc (.cells #[.int .i64 5,.int .u64 0,.slice aB b.length cB,.slice aL 0 cL,.slice aF 0 cF] 27)).alloc (.cells #[.int .u8 64] 5));have hbl:b.length≤1000000:=by
  rw[fG] at hm;have:=(pP b).1;simp[dC] at hm;omega
 have HT:=aa (fun w' (h:Grow w w')=>Pv b aB cB w' (bA.grow hb0 h) (by omega));have hel:(dC b).length≤3000000:=by
  have:=(pP b).2;unfold dC;simp;omega
 clear hrow hb0 hm;go_enter func105,ntmps105;go_wp2_with fail;refine(HT.o _ aM.o).mono ?_;rintro e w1 ⟨A1,c1,rfl,hr1,hg1⟩;have xq:=aa hr1;have aO:=aa (tO aM.o hg1);have mK:=aa (ed.o.grow hg1);have hz1:=hg1.size
 try simp only[dJ] at hz1
 clear hr1 hg1;go_wp2_with (first | (at_builtin;refine gy (ys:=dC b) rfl (.tmp 80) (.tmp 83) _ rfl rfl mK.o _ rfl (fe eH xq.o.reads.1 (i6 _)) (by omega) (by first | omega | (simp only[dJ];omega)) ?_;intro A2 c2 w2 hr2 hg2;have hz2:=hg2.size;have HG2:=aa (cU aO.o (eJ (eI hg2 mK.o (by first | omega | (simp only[dJ];omega))) (by omega)));have cE:=aa hr2;(try simp only[dJ] at hz2);clear hr2 hg2) | fail);go_ret;exact f_.row (by rw[fG];rfl) (by rw[fG];simp;omega) (by omega) cE.o HG2.o
theorem aeL(w:World)(c:Cv)(b:List UInt8)(hv:In w (V.mk 6 0 b [] []) c)(hm:(V.mk 6 0 b [] []).key.length≤1000000) :
 Calls prog 105 #[c.agg] w (f_ w (V.key (V.mk 6 0 b [] []))):=by
 obtain⟨aB,aL,aF,cB,cL,cF,rfl,h1,h2,h3,h4,h5,h6,h7,h8,h9,hb0⟩:=mz hv;have hz:(w.alloc (.cells #[.int .i64 6,.int .u64 0,.slice aB b.length cB,.slice aL 0 cL,.slice aF 0 cF] 27)).heap.size=w.heap.size+1:=by simp
 have hrow:=xI (w:=w.alloc (.cells #[.int .i64 6,.int .u64 0,.slice aB b.length cB,.slice aL 0 cL,.slice aF 0 cF] 27)) 80 (e:=80) rfl;rw[hz] at hrow;have ed:=aa hrow;have zE:=aeE;have bg:=aa ((aD w 27 #[.int .i64 6,.int .u64 0,.slice aB b.length cB,.slice aL 0 cL,.slice aF 0 cF]).alloc (.cells #[.int .u8 80] 5));have aM:=aa (((ah w).alloc (.cells #[.int .i64 6,.int .u64 0,.slice aB b.length cB,.slice aL 0 cL,.slice aF 0 cF] 27)).alloc (.cells #[.int .u8 80] 5));have hbl:b.length≤1000000:=by
  rw[fG] at hm;have:=(pP b).1;simp[dC] at hm;omega
 have HT:=aa (fun w' (h:Grow w w')=>Pv b aB cB w' (bA.grow hb0 h) (by omega));have hel:(dC b).length≤3000000:=by
  have:=(pP b).2;unfold dC;simp;omega
 clear hrow hb0 hm;go_enter func105,ntmps105;go_wp2_with fail;refine(HT.o _ aM.o).mono ?_;rintro e w1 ⟨A1,c1,rfl,hr1,hg1⟩;have xq:=aa hr1;have aO:=aa (tO aM.o hg1);have mK:=aa (ed.o.grow hg1);have hz1:=hg1.size
 try simp only[dJ] at hz1
 clear hr1 hg1;go_wp2_with (first | (at_builtin;refine gy (ys:=dC b) rfl (.tmp 80) (.tmp 83) _ rfl rfl mK.o _ rfl (fe eH xq.o.reads.1 (i6 _)) (by omega) (by first | omega | (simp only[dJ];omega)) ?_;intro A2 c2 w2 hr2 hg2;have hz2:=hg2.size;have HG2:=aa (cU aO.o (eJ (eI hg2 mK.o (by first | omega | (simp only[dJ];omega))) (by omega)));have cE:=aa hr2;(try simp only[dJ] at hz2);clear hr2 hg2) | fail);go_ret;exact f_.row (by rw[fG];rfl) (by rw[fG];simp;omega) (by omega) cE.o HG2.o
theorem aeM(w:World)(c:Cv)(n:Nat)(hv:In w (V.mk 4 n [] [] []) c)(oL:dt n=true) :
 Calls prog 105 #[c.agg] w (f_ w (V.key (V.mk 4 n [] [] []))):=by
 obtain⟨aB,aL,aF,cB,cL,cF,rfl,h1,h2,h3,h4,h5,h6,h7,h8,h9,hb0⟩:=mz hv;have hz:(w.alloc (.cells #[.int .i64 4,.int .u64 n,.slice aB 0 cB,.slice aL 0 cL,.slice aF 0 cF] 27)).heap.size=w.heap.size+1:=by simp
 have hrow:=xI (w:=w.alloc (.cells #[.int .i64 4,.int .u64 n,.slice aB 0 cB,.slice aL 0 cL,.slice aF 0 cF] 27)) 48 (e:=48) rfl;rw[hz] at hrow;have ed:=aa hrow;have zE:=Xi;have bg:=aa ((aD w 27 #[.int .i64 4,.int .u64 n,.slice aB 0 cB,.slice aL 0 cL,.slice aF 0 cF]).alloc (.cells #[.int .u8 48] 5));have aM:=aa (((ah w).alloc (.cells #[.int .i64 4,.int .u64 n,.slice aB 0 cB,.slice aL 0 cL,.slice aF 0 cF] 27)).alloc (.cells #[.int .u8 48] 5));have hnb:=Xg n h3;rw[oL] at hnb;have kO:=aa hnb;have hx1:bits .and .u64 ((n:Int) / 4503599627370496) 2047=((n / 4503599627370496 % 2048:Nat):Int):=by
  have h:=u64_and_nat (n / 4503599627370496) 2047 (by omega) (by decide);rw[show (n / 4503599627370496) &&& 2047=n / 4503599627370496 % 2048 from C2 _ 11] at h;rw[← h];rfl
 have hx2:bits .and .u64 (n:Int) 4503599627370495=((n % 4503599627370496:Nat):Int):=by
  have h:=u64_and_nat n 4503599627370495 h3 (by decide);rw[show n &&& 4503599627370495=n % 4503599627370496 from C2 _ 52] at h;exact h
 have HT:=aa (fun w=>Pt n w h3);have HH:=aa (fun w=>DK (fq n) 8 w (by omega) (AY n h3));have Xm:=aa (fun w=>DK n 8 w (by omega) h3);obtain⟨E,hE⟩:∃E,n / 4503599627370496 % 2048=E:=⟨_,rfl⟩;obtain⟨M,hM⟩:∃M,n % 4503599627370496=M:=⟨_,rfl⟩;rw[hE] at hx1;rw[hM] at hx2;rw[hE,hM] at kO;clear hrow hb0 hnb hE hM;have Qa:E=2047∧M≠0:=by
  have h:=kO.o.symm;rw[il,iC,iC] at h;exact h
 obtain⟨rfl,hM0⟩:=Qa;have Qb:((M:Int) != 0)=true:=by simpa using hM0
 have hbl:(be 8 n).length=8:=fX _ _;go_enter func105,ntmps105;go_upto_region 12 with fail;have zG:=aa ed.o;have Xn:=aa aM.o;change Code.wp _ _ _ _ ((w.alloc (.cells #[.int .i64 4,.int .u64 n,.slice aB 0 cB,.slice aL 0 cL,.slice aF 0 cF] 27)).alloc (.cells #[.int .u8 48] 5));generalize (w.alloc (.cells #[.int .i64 4,.int .u64 n,.slice aB 0 cB,.slice aL 0 cL,.slice aF 0 cF] 27)).alloc (.cells #[.int .u8 48] 5)=wr at zG Xn bg ⊢;have D8:w.heap.size+1≤wr.heap.size:=bg.o.lt;have iT:=aa (show ∀W',Below (w.heap.size+1) wr W'→W'.cell? ⟨w.heap.size,1,none⟩=some (.int .u64 n) from fun W' h=>(Blk.below bg.o h (by omega)).cell 1);refine dN ?_
 refine dO (S:=fun w'=>w'.cell? ⟨w.heap.size,1,none⟩=some (.int .u64 n)) (by kernel_rfl) (iT.o _ (Am (jZ _ _))) (fun hHeld=>?_);refine aj 0 ?_;refine aj 3 ?_;refine aj 4 ?_;have hb:Below (w.heap.size+1) wr wr.drew:=Am (jZ _ _);clear hHeld;have hr:=zG.o.drew;have hz:w.heap.size+1≤wr.drew.heap.size:=D8;generalize wr.drew=nC at hb hr hz ⊢;refine bZ [1] ?_;refine bC rfl (fun K hK=>?_) bY;go_simp;have hl:=aD nC 5 #[.int .u8 0];replace hb:=oH hb hz (.cells #[.int .u8 0] 5);replace hr:=Row.alloc hr (.cells #[.int .u8 0] 5);replace hz:w.heap.size+1≤(nC.alloc (.cells #[.int .u8 0] 5)).heap.size:=by rw[dJ];omega
 refine hK.out _ _ (iT.o _ hb) (fun hHeld=>?_);clear hK K hHeld
 try simp only[ak]
 generalize nC.alloc (.cells #[.int .u8 0] 5)=ux at hl hb hz hr ⊢;generalize nC.heap.size=gl at hl ⊢;refine bZ [2] ?_;refine bC rfl (fun K hK=>?_) bY;refine oJ (ys:=[0]) (by rfl) (.tmp 59) (.tmp 60) _ (by rfl) (by rfl) hr _ (by rfl) (kG 0 rfl hl) (by simp only[aT,bz];omega) hz ?_;intro A1 c1 D9 hr2 hg2;replace hb:=cU hb (eI hg2 hr hz);replace hz:=bn hz hg2.size;clear hr hg2 hl;have hr:=hr2;clear hr2;refine hK.out _ _ (iT.o _ hb) (fun hHeld=>?_);clear hK K hHeld
 try simp only[ak]
 refine bZ [5] ?_;refine bC rfl (fun K hK=>?_) bY;go_simp;refine(Xm.o _).mono ?_;rintro e Lx ⟨A2,c2,rfl,hk,dQ⟩;replace hr:=C8 hr dQ;replace hb:=cU hb (eJ dQ hz);replace hz:=bn hz dQ.size
 try go_simp
 refine hK.out _ _ (iT.o _ hb) (fun hHeld=>?_);clear hK K hHeld dQ
 try simp only[ak]
 refine bZ [6] ?_;refine bC rfl (fun K hK=>?_) bY;refine oJ (ys:=be 8 n) (by rfl) (.tmp 61) (.tmp 64) _ (by rfl) (by rfl) hr _ (by rfl) (fe eH hk.reads.1 (i6 _)) (by first | omega | (simp only[aT,bz];omega)) hz ?_;intro A3 c3 Qc hr3 hg3;replace hb:=cU hb (eI hg3 hr hz);replace hz:=bn hz hg3.size;refine hK.out _ _ (iT.o _ hb) (fun hHeld=>?_);clear hK K hr hk hg3
 try simp only[ak]
 refine aj 7 ?_;refine cz ?_;clear hHeld;have fT:=aa hr3;have aV:=aa hb;clear hr3 hb;go_wp2_with fail;go_ret;exact f_.row (by rw[fG];simp[kJ,oL]) (by rw[fG];simp[kJ,oL,fX]) (fD _) fT.o (cU Xn.o (eJ aV.o (fD _)))
theorem aeN(w:World)(c:Cv)(n:Nat)(hv:In w (V.mk 4 n [] [] []) c)(oL:dt n=false) :
 Calls prog 105 #[c.agg] w (f_ w (V.key (V.mk 4 n [] [] []))):=by
 obtain⟨aB,aL,aF,cB,cL,cF,rfl,h1,h2,h3,h4,h5,h6,h7,h8,h9,hb0⟩:=mz hv;have hz:(w.alloc (.cells #[.int .i64 4,.int .u64 n,.slice aB 0 cB,.slice aL 0 cL,.slice aF 0 cF] 27)).heap.size=w.heap.size+1:=by simp
 have hrow:=xI (w:=w.alloc (.cells #[.int .i64 4,.int .u64 n,.slice aB 0 cB,.slice aL 0 cL,.slice aF 0 cF] 27)) 48 (e:=48) rfl;rw[hz] at hrow;have ed:=aa hrow;have zE:=Xi;have bg:=aa ((aD w 27 #[.int .i64 4,.int .u64 n,.slice aB 0 cB,.slice aL 0 cL,.slice aF 0 cF]).alloc (.cells #[.int .u8 48] 5));have aM:=aa (((ah w).alloc (.cells #[.int .i64 4,.int .u64 n,.slice aB 0 cB,.slice aL 0 cL,.slice aF 0 cF] 27)).alloc (.cells #[.int .u8 48] 5));have hnb:=Xg n h3;rw[oL] at hnb;have kO:=aa hnb;have hx1:bits .and .u64 ((n:Int) / 4503599627370496) 2047=((n / 4503599627370496 % 2048:Nat):Int):=by
  have h:=u64_and_nat (n / 4503599627370496) 2047 (by omega) (by decide);rw[show (n / 4503599627370496) &&& 2047=n / 4503599627370496 % 2048 from C2 _ 11] at h;rw[← h];rfl
 have hx2:bits .and .u64 (n:Int) 4503599627370495=((n % 4503599627370496:Nat):Int):=by
  have h:=u64_and_nat n 4503599627370495 h3 (by decide);rw[show n &&& 4503599627370495=n % 4503599627370496 from C2 _ 52] at h;exact h
 have HT:=aa (fun w=>Pt n w h3);have HH:=aa (fun w=>DK (fq n) 8 w (by omega) (AY n h3));have Xm:=aa (fun w=>DK n 8 w (by omega) h3);obtain⟨E,hE⟩:∃E,n / 4503599627370496 % 2048=E:=⟨_,rfl⟩;obtain⟨M,hM⟩:∃M,n % 4503599627370496=M:=⟨_,rfl⟩;rw[hE] at hx1;rw[hM] at hx2;rw[hE,hM] at kO;clear hrow hb0 hnb hE hM;have Qa:E=2047→M=0:=fun hE=>by
  have h:=kO.o.symm;rw[hE,bW rfl,rN,j4] at h;exact Decidable.of_not_not h
 go_enter func105,ntmps105;by_cases hE:E=2047
 ·have hM:=Qa hE;subst hE hM;go_wp2_with (first | (at_builtin;refine gy (ys:=[1]) rfl (.tmp 66) (.tmp 67) _ rfl rfl (ed.o.alloc _) _ rfl (kG 1 rfl (cX (by simp) _ _)) (by simp only[fX,aT,bz]<;>omega) (by first | omega | (simp only[dJ];omega)) ?_;intro A2 c2 w2 hr2 hg2;have hz2:=hg2.size;have HG2:=aa (cU (yT aM.o _) (eJ (eI hg2 (ed.o.alloc _) (by first | omega | (simp only[dJ];omega))) (by omega)));have cE:=aa hr2;(try simp only[dJ] at hz2);have Qd:=(hg2.blk (bg.o.alloc _) (qA ed.o bg.o (by decide))).cell;clear hr2 hg2) | fail);refine(HT.o _).mono ?_;rintro e w3 ⟨rfl,rfl⟩;go_wp2_with fail;refine(HH.o _).mono ?_;rintro e w4 ⟨A4,c4,rfl,hr4,hg4⟩;have dP:=aa hr4
  have cj:=aa (tO HG2.o hg4);have mK:=aa (cE.o.grow hg4);have xC:=hg4.size;clear hr4 hg4
  go_wp2_with (first | (at_builtin;refine gy (ys:=be 8 (fq n)) rfl (.tmp 69) (.tmp 73) _ rfl rfl mK.o _ rfl (fe eH dP.o.reads.1 (i6 _)) (by simp only[fX,aT,bz]<;>omega) (by first | omega | (simp only[dJ];omega)) ?_;intro A5 c5 w5 iw bP;have uv:=bP.size;have bN:=aa (cU cj.o (eJ (eI bP mK.o (by first | omega | (simp only[dJ];omega))) (by omega)));have h_:=aa iw;(try simp only[dJ] at uv);clear iw bP) | (at_builtin;refine gy (ys:=[0,0,1]) rfl (.tmp 74) (.tmp 75) _ rfl rfl (h_.o.alloc _) _ rfl (fe eH (bA.blk (xs:=[0,0,1]) (cX (by simp) _ _)) (i6 _)) (by simp only[fX,aT,bz]<;>omega) (by first | omega | (simp only[dJ];omega)) ?_;intro A6 c6 w6 pW cH;have D7:=cH.size;have bp:=aa (cU (yT bN.o _) (eJ (eI cH (h_.o.alloc _) (by first | omega | (simp only[dJ];omega))) (by omega)));have xJ:=aa pW;(try simp only[dJ] at D7);clear pW cH) | fail)
  go_ret;exact f_.row (by rw[fG];simp[kJ,oL]) (by rw[fG];simp[kJ,oL,fX]) (by omega) xJ.o bp.o
 have hEb:((E:Int)==2047)=false:=by simp;omega
 have hEn:¬ ((E:Int)=2047):=by omega
 go_wp2_with (first | (at_builtin;refine gy (ys:=[1]) rfl (.tmp 66) (.tmp 67) _ rfl rfl (ed.o.alloc _) _ rfl (kG 1 rfl (cX (by simp) _ _)) (by simp only[fX,aT,bz]<;>omega) (by first | omega | (simp only[dJ];omega)) ?_;intro A2 c2 w2 hr2 hg2;have hz2:=hg2.size;have HG2:=aa (cU (yT aM.o _) (eJ (eI hg2 (ed.o.alloc _) (by first | omega | (simp only[dJ];omega))) (by omega)));have cE:=aa hr2;(try simp only[dJ] at hz2);have Qd:=(hg2.blk (bg.o.alloc _) (qA ed.o bg.o (by decide))).cell;clear hr2 hg2) | fail);refine(HT.o _).mono ?_;rintro e w3 ⟨rfl,rfl⟩;go_wp2_with fail;refine(HH.o _).mono ?_;rintro e w4 ⟨A4,c4,rfl,hr4,hg4⟩;have dP:=aa hr4;have cj:=aa (tO HG2.o hg4)
 have mK:=aa (cE.o.grow hg4);have xC:=hg4.size;clear hr4 hg4
 go_wp2_with (first | (at_builtin;refine gy (ys:=be 8 (fq n)) rfl (.tmp 69) (.tmp 73) _ rfl rfl mK.o _ rfl (fe eH dP.o.reads.1 (i6 _)) (by simp only[fX,aT,bz]<;>omega) (by first | omega | (simp only[dJ];omega)) ?_;intro A5 c5 w5 iw bP;have uv:=bP.size;have bN:=aa (cU cj.o (eJ (eI bP mK.o (by first | omega | (simp only[dJ];omega))) (by omega)));have h_:=aa iw;(try simp only[dJ] at uv);clear iw bP) | (at_builtin;refine gy (ys:=[0,0,1]) rfl (.tmp 74) (.tmp 75) _ rfl rfl (h_.o.alloc _) _ rfl (fe eH (bA.blk (xs:=[0,0,1]) (cX (by simp) _ _)) (i6 _)) (by simp only[fX,aT,bz]<;>omega) (by first | omega | (simp only[dJ];omega)) ?_;intro A6 c6 w6 pW cH;have D7:=cH.size;have bp:=aa (cU (yT bN.o _) (eJ (eI cH (h_.o.alloc _) (by first | omega | (simp only[dJ];omega))) (by omega)));have xJ:=aa pW;(try simp only[dJ] at D7);clear pW cH) | fail)
 go_ret;exact f_.row (by rw[fG];simp[kJ,oL]) (by rw[fG];simp[kJ,oL,fX]) (by omega) xJ.o bp.o
theorem aeO(w:World)(c:Cv)(l:List V)(hl:∀x∈l,P9 x)(hv:In w (V.mk 7 0 [] l []) c)(hm:(V.mk 7 0 [] l []).key.length≤1000000) :
 Calls prog 105 #[c.agg] w (f_ w (V.key (V.mk 7 0 [] l []))):=by
 obtain⟨aB,aL,aF,cB,cL,cF,rfl,h1,h2,h3,h4,h5,h6,h7,h8,h9,hb0⟩:=mz hv;have hz:(w.alloc (.cells #[.int .i64 7,.int .u64 0,.slice aB 0 cB,.slice aL l.length cL,.slice aF 0 cF] 27)).heap.size=w.heap.size+1:=by simp
 have hrow:=xI (w:=w.alloc (.cells #[.int .i64 7,.int .u64 0,.slice aB 0 cB,.slice aL l.length cL,.slice aF 0 cF] 27)) 96 (e:=96) rfl;rw[hz] at hrow;have ed:=aa hrow;have zE:=aeF;have bg:=aa ((aD w 27 #[.int .i64 7,.int .u64 0,.slice aB 0 cB,.slice aL l.length cL,.slice aF 0 cF]).alloc (.cells #[.int .u8 96] 5));have aM:=aa (((ah w).alloc (.cells #[.int .i64 7,.int .u64 0,.slice aB 0 cB,.slice aL l.length cL,.slice aF 0 cF] 27)).alloc (.cells #[.int .u8 96] 5));have HV:=aa hv;have Hl:=aa hl;have jn:(l.map V.ek).flatten.length≤1000000:=by
  rw[fG] at hm;simp only[show ¬ ((7:Int)=1) by decide,show ¬ ((7:Int)=2) by decide,show ¬ ((7:Int)=3) by decide,show ¬ ((7:Int)=4) by decide,show ¬ ((7:Int)=5) by decide,show ¬ ((7:Int)=6) by decide,iN,iD,aT,bG] at hm;omega
 clear hrow hb0 hm hl;go_enter func105,ntmps105;go_wp2_with fail;go_loopg [3,6] (l.length+1) (fun gk v' i wr=>∃(j:Nat) (A':Option Addr) (c':Nat),j≤l.length∧gk+j=l.length+1∧i=.int .i64 j∧v'=.slice A' (1+((l.take j).map V.ek).flatten.length) c'∧Row wr (w.heap.size+1) (.slice A' (1+((l.take j).map V.ek).flatten.length) c') (1+((l.take j).map V.ek).flatten.length) (96::((l.take j).map V.ek).flatten)∧Grow w wr∧Blk wr w.heap.size 27 #[.int .i64 7,.int .u64 0,.slice aB 0 cB,.slice aL l.length cL,.slice aF 0 cF]);exact⟨0,_,_,ba _,by omega,rfl,rfl,ed.o,aM.o,bg.o⟩;obtain⟨j,A',c',hj,hg,rfl,rfl,hr,hgr,hB⟩:=hrel;obtain⟨gk',rfl⟩:=bS gk (by omega);have hc:=hB.cell;have mC:=aa hB;have D8:w.heap.size+1≤wr.heap.size:=hB.lt;by_cases hlt:j<l.length
 ·obtain⟨bk,o,x,ha,hbk,e0,e1,e2,e3,e4,hx⟩:=HV.o.fO j hlt;dsimp only at ha;subst ha;have hcb:∀i,wr.cell? ⟨bk,i,none⟩=w.cell? ⟨bk,i,none⟩:=fun i=>hgr.below.cell (p:=⟨bk,i,none⟩) hbk
  rw[← hcb] at e0 e1 e2 e3 e4;have bU:=yQ V.ek l j hlt;have hm2:=cT List.length bU;rw[bG] at hm2;have hle:=yR V.ek l (j+1);rw[hm2] at hle;have hkl:(V.ek l[j]).length=1+l[j].key.length:=by unfold V.ek;simp;omega
  rw[hkl] at hm2 hle;have ju:=aa bU;have lV:=aa hm2;have sA:=aa hgr;have HX:=aa hx;obtain⟨S,hS⟩:∃S,S=((l.take j).map V.ek).flatten:=⟨_,rfl⟩;have zG:=aa hr;rw[← hS] at hle zG ju lV ⊢
  have iT:=aa (show ∀W',Below (w.heap.size+1) wr W'→(fun w'=>w'.cell? ⟨w.heap.size,3,none⟩=some (.slice (some ⟨bk,o,none⟩) l.length cL)∧w'.cell? ⟨bk,o+j*5,none⟩=some (.int .i64 x.k)∧w'.cell? ⟨bk,o+j*5+1,none⟩=some (.int .u64 x.n)∧w'.cell? ⟨bk,o+j*5+2,none⟩=some (.slice x.aB x.nB x.cB)∧w'.cell? ⟨bk,o+j*5+3,none⟩=some (.slice x.aL x.nL x.cL)∧w'.cell? ⟨bk,o+j*5+4,none⟩=some (.slice x.aF x.nF x.cF)) W' from fun W' h=>⟨(h.cell (by show w.heap.size<_;omega)).trans (hc 3),(h.cell (by show bk<_;omega)).trans e0,(h.cell (by show bk<_;omega)).trans e1,(h.cell (by show bk<_;omega)).trans e2,(h.cell (by show bk<_;omega)).trans e3,(h.cell (by show bk<_;omega)).trans e4⟩)
  have jy:=aa (fun W' (h:Below (w.heap.size+1) wr W')=>Hl.o _ (aW hlt) W' x (HX.o.grow (cU sA.o (eJ h (fD _)))) (by omega));clear hr hgr hx bU hm2 hS hB e0 e1 e2 e3 e4 hcb;go_upto_region 22 with fail;refine dN ?_;refine dO (S:=fun w'=>w'.cell? ⟨w.heap.size,3,none⟩=some (.slice (some ⟨bk,o,none⟩) l.length cL)∧w'.cell? ⟨bk,o+j*5,none⟩=some (.int .i64 x.k)∧w'.cell? ⟨bk,o+j*5+1,none⟩=some (.int .u64 x.n)∧w'.cell? ⟨bk,o+j*5+2,none⟩=some (.slice x.aB x.nB x.cB)∧w'.cell? ⟨bk,o+j*5+3,none⟩=some (.slice x.aL x.nL x.cL)∧w'.cell? ⟨bk,o+j*5+4,none⟩=some (.slice x.aF x.nF x.cF)) (by kernel_rfl) (iT.o _ (Am (jZ _ _))) (fun hHeld=>?_)
  refine aj 0 (hy:=bt fun w ax=>by (try obtain⟨hs0,hs1,hs2,hs3,hs4,hs5⟩:=ax);go_simp;try rfl) ?_;refine aj 3 (hy:=bt fun w ax=>by (try obtain⟨hs0,hs1,hs2,hs3,hs4,hs5⟩:=ax);go_simp;try rfl) ?_;refine aj 4 (hy:=bt fun w ax=>by (try obtain⟨hs0,hs1,hs2,hs3,hs4,hs5⟩:=ax);go_simp;try rfl) ?_;refine aj 5 (hy:=bt fun w ax=>by (try obtain⟨hs0,hs1,hs2,hs3,hs4,hs5⟩:=ax);go_simp;try rfl) ?_;refine aj 6 (hy:=bt fun w ax=>by (try obtain⟨hs0,hs1,hs2,hs3,hs4,hs5⟩:=ax);go_simp;try rfl) ?_;refine aj 7 (hy:=bt fun w ax=>by (try obtain⟨hs0,hs1,hs2,hs3,hs4,hs5⟩:=ax);go_simp;try rfl) ?_;have hb:Below (w.heap.size+1) wr wr.drew:=Am (jZ _ _);clear hHeld;have hr:=zG.o.drew;have hz:w.heap.size+1≤wr.drew.heap.size:=D8;generalize wr.drew=nC at hb hr hz ⊢
  refine bZ [1] ?_;refine bC rfl (fun K hK=>?_) bY;go_simp;have hl:=aD nC 5 #[.int .u8 1];replace hb:=oH hb hz (.cells #[.int .u8 1] 5);replace hr:=Row.alloc hr (.cells #[.int .u8 1] 5);replace hz:w.heap.size+1≤(nC.alloc (.cells #[.int .u8 1] 5)).heap.size:=by rw[dJ];omega
  refine hK.out _ _ (iT.o _ hb) (fun hHeld=>?_);clear hK K hHeld
  try simp only[ak]
  generalize nC.alloc (.cells #[.int .u8 1] 5)=ux at hl hb hz hr ⊢;generalize nC.heap.size=gl at hl ⊢;refine bZ [2] ?_;refine bC rfl (fun K hK=>?_) bY;refine oJ (ys:=[1]) (by rfl) (.tmp 94) (.tmp 95) _ (by rfl) (by rfl) hr _ (by rfl) (kG 1 rfl hl) (by simp only[aT,bz];omega) hz ?_;intro A1 c1 D9 hr2 hg2;replace hb:=cU hb (eI hg2 hr hz);replace hz:=bn hz hg2.size;clear hr hg2 hl;have hr:=hr2;clear hr2;refine hK.out _ _ (iT.o _ hb) (fun hHeld=>?_);clear hK K hHeld
  try simp only[ak]
  refine bZ [8] ?_;refine bC rfl (fun K hK=>?_) bY;go_simp;refine(jy.o _ hb).mono ?_;rintro e Lx ⟨A2,c2,rfl,hk,dQ⟩;replace hr:=C8 hr dQ;replace hb:=cU hb (eJ dQ hz);replace hz:=bn hz dQ.size
  try go_simp
  refine hK.out _ _ (iT.o _ hb) (fun hHeld=>?_);clear hK K hHeld dQ
  try simp only[ak]
  refine bZ [9] ?_;refine bC rfl (fun K hK=>?_) bY;refine oJ (ys:=l[j].key) (by rfl) (.tmp 96) (.tmp 102) _ (by rfl) (by rfl) hr _ (by rfl) (fe eH hk.reads.1 (i6 _)) (by first | omega | (simp only[aT,bz];omega)) hz ?_;intro A3 c3 Qc hr3 hg3;replace hb:=cU hb (eI hg3 hr hz);replace hz:=bn hz hg3.size;refine hK.out _ _ (iT.o _ hb) (fun hHeld=>?_);clear hK K hr hk hg3
  try simp only[ak]
  refine aj 10 (hy:=bt fun w ax=>by (try obtain⟨hs0,hs1,hs2,hs3,hs4,hs5⟩:=ax);go_simp;try rfl) ?_;refine cz ?_;clear hHeld;have fT:=aa hr3;have aV:=aa hb;clear hr3 hb;go_wp2_with fail;go_roundg gk';have e1:1+S.length+[1].length+l[j].key.length=1+((l.take (j+1)).map V.ek).flatten.length:=by rw[lV.o];simp;omega
  refine⟨j+1,A3,c3,by omega,by omega,by go_num,by rw[← e1];rfl,?_,cU sA.o (eJ aV.o (fD _)),Blk.below mC.o aV.o (by omega)⟩;rw[← e1,ju.o];simpa [V.ek] using fT.o;omega
 obtain rfl:j=l.length:=by omega
 rw[fS] at hr ⊢;obtain⟨S,hS⟩:∃S,S=(l.map V.ek).flatten:=⟨_,rfl⟩;rw[← hS] at hr jn ⊢;have uy:=aa hS;have ed:=aa hr;have aM:=aa hgr;clear hr hgr hB hS;go_wp2_with (first | (at_builtin;refine gy (ys:=[0]) rfl (.tmp 104) (.tmp 105) _ rfl rfl (ed.o.alloc _) _ rfl (kG 0 rfl (cX (by simp) _ _)) (by simp only[fX,aT,bz]<;>omega) (by first | omega | (simp only[dJ];omega)) ?_;intro A7 c7 w7 kp b_;have Bp:=b_.size;have aX:=aa (cU (yT aM.o _) (eJ (eI b_ (ed.o.alloc _) (by first | omega | (simp only[dJ];omega))) (by omega)));have iy:=aa kp;(try simp only[dJ] at Bp);clear kp b_) | fail);go_ret;have hkey:(V.mk 7 0 [] l []).key=96::(S++[0]):=by rw[fG,uy.o];rfl
 rw[hkey];exact f_.row (show 96::S++[0]=_ from rfl) (by simp only[aT,bG,bz];omega) (fD _) iy.o aX.o
theorem aeP(w:World)(c:Cv)(f:List (ByteArray×V))(hl:∀x∈f,P9 x.2)(hv:In w (V.mk 8 0 [] [] f) c)(hm:(V.mk 8 0 [] [] f).key.length≤1000000) :
 Calls prog 105 #[c.agg] w (f_ w (V.key (V.mk 8 0 [] [] f))):=by
 obtain⟨aB,aL,aF,cB,cL,cF,rfl,h1,h2,h3,h4,h5,h6,h7,h8,h9,hb0⟩:=mz hv;have hz:(w.alloc (.cells #[.int .i64 8,.int .u64 0,.slice aB 0 cB,.slice aL 0 cL,.slice aF f.length cF] 27)).heap.size=w.heap.size+1:=by simp
 have hrow:=xI (w:=w.alloc (.cells #[.int .i64 8,.int .u64 0,.slice aB 0 cB,.slice aL 0 cL,.slice aF f.length cF] 27)) 112 (e:=112) rfl;rw[hz] at hrow;have ed:=aa hrow;have zE:=aeG;have bg:=aa ((aD w 27 #[.int .i64 8,.int .u64 0,.slice aB 0 cB,.slice aL 0 cL,.slice aF f.length cF]).alloc (.cells #[.int .u8 112] 5));have aM:=aa (((ah w).alloc (.cells #[.int .i64 8,.int .u64 0,.slice aB 0 cB,.slice aL 0 cL,.slice aF f.length cF] 27)).alloc (.cells #[.int .u8 112] 5));have HV:=aa hv;have Hl:=aa hl;have jn:(f.map V.eo).flatten.length≤1000000:=by
  rw[fG] at hm;simp only[show ¬ ((8:Int)=1) by decide,show ¬ ((8:Int)=2) by decide,show ¬ ((8:Int)=3) by decide,show ¬ ((8:Int)=4) by decide,show ¬ ((8:Int)=5) by decide,show ¬ ((8:Int)=6) by decide,show ¬ ((8:Int)=7) by decide,iN,iD,aT,bG] at hm;omega
 clear hrow hb0 hm hl;go_enter func105,ntmps105;go_wp2_with fail;go_loopg [3,7] (f.length+1) (fun gk v' i wr=>∃(j:Nat) (A':Option Addr) (c':Nat),j≤f.length∧gk+j=f.length+1∧i=.int .i64 j∧v'=.slice A' (1+((f.take j).map V.eo).flatten.length) c'∧Row wr (w.heap.size+1) (.slice A' (1+((f.take j).map V.eo).flatten.length) c') (1+((f.take j).map V.eo).flatten.length) (112::((f.take j).map V.eo).flatten)∧Grow w wr∧Blk wr w.heap.size 27 #[.int .i64 8,.int .u64 0,.slice aB 0 cB,.slice aL 0 cL,.slice aF f.length cF]);exact⟨0,_,_,ba _,by omega,rfl,rfl,ed.o,aM.o,bg.o⟩;obtain⟨j,A',c',hj,hg,rfl,rfl,hr,hgr,hB⟩:=hrel;obtain⟨gk',rfl⟩:=bS gk (by omega);have hc:=hB.cell;have mC:=aa hB;have D8:w.heap.size+1≤wr.heap.size:=hB.lt;by_cases hlt:j<f.length
 ·obtain⟨bk,o,x,ha,hbk,es,im,e0,e1,e2,e3,e4,hx⟩:=HV.o.iF j hlt;dsimp only at ha;subst ha;have bU:=yQ V.eo f j hlt;have hm2:=cT List.length bU;rw[bG] at hm2;have hle:=yR V.eo f (j+1);rw[hm2] at hle;have hkl:(V.eo f[j]).length=1+((dC f[j].1.data.toList).length+f[j].2.key.length):=by unfold V.eo;simp;omega
  rw[hkl] at hm2 hle;have ju:=aa bU;have lV:=aa hm2;have sA:=aa hgr;obtain⟨s,hs⟩:∃s,s=f[j].1:=⟨_,rfl⟩;obtain⟨y,hy⟩:∃y,y=f[j].2:=⟨_,rfl⟩;have Qe:=Hl.o _ (aW hlt);have D_:V.eo f[j]=1::(dC s.data.toList++y.key):=by rw[hs,hy];rfl
  rw[D_] at ju;rw[← hs] at es im hle lV;rw[← hy] at hx hle lV Qe;have HLY:=aa Qe;have HX:=aa hx;have qP:=aa (show w.cell? ⟨bk,o+j*6,none⟩=some (.string s) from es);have uz:=aa e0;have sB:=aa e1;have od:=aa e2;have HE3:=aa e3;have HE4:=aa e4;obtain⟨S,hS⟩:∃S,S=((f.take j).map V.eo).flatten:=⟨_,rfl⟩;have zG:=aa hr;rw[← hS] at hle zG ju lV ⊢;have hel:s.data.toList.length≤(dC s.data.toList).length:=by unfold dC;rw[bG];have:=(pP s.data.toList).1;omega
  have iT:=aa (show ∀W',Below (w.heap.size+1) wr W'→(fun w'=>w'.cell? ⟨w.heap.size,4,none⟩=some (.slice (some ⟨bk,o,none⟩) f.length cF)∧w'.cell? ⟨bk,o+j*6,none⟩=some (.string s)) W' from fun W' h=>⟨(h.cell (by show w.heap.size<_;omega)).trans (hc 4),(h.cell (by show bk<_;omega)).trans ((hgr.below.cell (p:=⟨bk,o+j*6,none⟩) hbk).trans qP.o)⟩);clear hr hgr hx bU hm2 hS hB e0 e1 e2 e3 e4 es hs hy D_ Qe hkl;go_upto_region 28 with fail;refine dN ?_;refine dO (S:=fun w'=>w'.cell? ⟨w.heap.size,4,none⟩=some (.slice (some ⟨bk,o,none⟩) f.length cF)∧w'.cell? ⟨bk,o+j*6,none⟩=some (.string s)) (by kernel_rfl) (iT.o _ (Am (jZ _ _))) (fun hHeld=>?_);refine aj 0 (hy:=bt fun w ax=>by (try obtain⟨hs0,hs1⟩:=ax);go_simp;try rfl) ?_
  refine aj 3 (hy:=bt fun w ax=>by (try obtain⟨hs0,hs1⟩:=ax);go_simp;try rfl) ?_;refine aj 4 (hy:=bt fun w ax=>by (try obtain⟨hs0,hs1⟩:=ax);go_simp;try rfl) ?_;refine aj 5 (hy:=bt fun w ax=>by (try obtain⟨hs0,hs1⟩:=ax);go_simp;try rfl) ?_;refine aj 6 (hy:=bt fun w ax=>by (try obtain⟨hs0,hs1⟩:=ax);go_simp;try rfl) ?_;refine aj 7 (hy:=bt fun w ax=>by (try obtain⟨hs0,hs1⟩:=ax);go_simp;try rfl) ?_;refine aj 8 (hy:=bt fun w ax=>by (try obtain⟨hs0,hs1⟩:=ax);go_simp;try rfl) ?_;have hb:Below (w.heap.size+1) wr wr.drew:=Am (jZ _ _);clear hHeld;have hr:=zG.o.drew;have hz:w.heap.size+1≤wr.drew.heap.size:=D8;generalize wr.drew=nC at hb hr hz ⊢;refine aez (some 117) (some 118) (some 125) 1 2 9 (fun _ y z W=>CvC w wr (1+S.length) (112::S) 1 s.data.toList y z W) ?_ ?_
  rotate_left 1
  ·intro rest;simp only[ak] at rest;refine bZ [1,9] ?_;refine bC rfl (fun K hK=>?_) ?_
   ·go_simp;have hl:=aD nC 5 #[.int .u8 1];replace hb:=oH hb hz (.cells #[.int .u8 1] 5);replace hr:=Row.alloc hr (.cells #[.int .u8 1] 5);replace hz:w.heap.size+1≤(nC.alloc (.cells #[.int .u8 1] 5)).heap.size:=by rw[dJ];omega
    refine hK.out _ _ (iT.o _ hb) (fun hHeld=>?_);clear hK K hHeld
    try simp only[ak]
    generalize nC.alloc (.cells #[.int .u8 1] 5)=ux at hl hb hz hr ⊢;generalize nC.heap.size=gl at hl ⊢;refine bZ [2,9] ?_;refine bC rfl (fun K hK=>?_) ?_
    ·refine oJ (ys:=[1]) (by rfl) (.tmp 116) (.tmp 117) _ (by rfl) (by rfl) hr _ (by rfl) (kG 1 rfl hl) (by simp only[aT,bz];omega) hz ?_;intro A1 c1 D9 hr2 hg2;replace hb:=cU hb (eI hg2 hr hz);replace hz:=bn hz hg2.size;clear hr hg2 hl;have hr:=hr2;clear hr2;refine hK.out _ _ (iT.o _ hb) (fun hHeld=>?_);clear hK K hHeld
     try simp only[ak]
     refine bZ [9] ?_;refine bC rfl (fun K hK=>?_) bY;obtain⟨cn,Lx,hcv,hcn,dQ,hv⟩:=A_ D9 s;go_simp;replace hr:=C8 hr dQ;replace hb:=cU hb (eJ dQ hz);replace hz:=bn hz dQ.size;refine hK.out _ _ (iT.o _ hb) (fun hHeld=>?_);clear hK K hHeld dQ hcv
     try simp only[ak]
     generalize D9.heap.size=gv at hv ⊢;exact rest _ _ _ _ ⟨A1,c1,cn,gv,rfl,rfl,hr,hcn,hv,hb⟩
    refine bC rfl (fun K hK=>?_) bY;obtain⟨cn,D9,hcv,hcn,dQ,hv⟩:=A_ ux s;go_simp;have Hd:∀k,Value.ownBlock (.slice A' (1+S.length) c')=some k→k<ux.heap.size:=fun k e1=>(bO hr k e1).2
    replace hr:=C8 hr dQ;replace hl:=Blk.grow hl dQ;replace hb:=cU hb (eJ dQ hz);replace hz:=bn hz dQ.size;refine hK.out _ _ (iT.o _ hb) (fun hHeld=>?_);clear hK K hHeld dQ hcv
    try simp only[ak]
    generalize ux.heap.size=gv at hv Hd ⊢;refine bZ [2] ?_;refine bC rfl (fun K hK=>?_) bY;refine oJ (ys:=[1]) (by rfl) (.tmp 116) (.tmp 117) _ (by rfl) (by rfl) hr _ (by rfl) (kG 1 rfl hl) (by simp only[aT,bz];omega) hz ?_;intro A1 c1 Lx hr2 hg2;replace hv:=Xh hv hg2.grow Hd;replace hb:=cU hb (eI hg2 hr hz);replace hz:=bn hz hg2.size;clear hr hg2 hl;have hr:=hr2;clear hr2;refine hK.out _ _ (iT.o _ hb) (fun hHeld=>?_);clear hK K hHeld
    try simp only[ak]
    rw[N4 (i:=9) (j:=2) _ _ (by decide)];exact rest _ _ _ _ ⟨A1,c1,cn,gv,rfl,rfl,hr,hcn,hv,hb⟩
   refine bC rfl (fun K hK=>?_) bY;obtain⟨cn,ux,hcv,hcn,dQ,hv⟩:=A_ nC s;go_simp;have Hd:∀k,Value.ownBlock (.slice A' (1+S.length) c')=some k→k<nC.heap.size:=fun k e1=>(bO hr k e1).2
   replace hr:=C8 hr dQ;replace hb:=cU hb (eJ dQ hz);replace hz:=bn hz dQ.size;refine hK.out _ _ (iT.o _ hb) (fun hHeld=>?_);clear hK K hHeld dQ hcv
   try simp only[ak]
   generalize nC.heap.size=gv at hv Hd ⊢;refine bZ [1] ?_;refine bC rfl (fun K hK=>?_) bY;go_simp;have hl:=aD ux 5 #[.int .u8 1];replace hb:=oH hb hz (.cells #[.int .u8 1] 5);replace hr:=Row.alloc hr (.cells #[.int .u8 1] 5);replace hv:=bA.grow hv ((ah _).alloc (.cells #[.int .u8 1] 5));replace hz:w.heap.size+1≤(ux.alloc (.cells #[.int .u8 1] 5)).heap.size:=by rw[dJ];omega
   refine hK.out _ _ (iT.o _ hb) (fun hHeld=>?_);clear hK K hHeld
   try simp only[ak]
   generalize ux.alloc (.cells #[.int .u8 1] 5)=D9 at hl hb hz hr hv ⊢;generalize ux.heap.size=gl at hl ⊢;refine bZ [2] ?_;refine bC rfl (fun K hK=>?_) bY;refine oJ (ys:=[1]) (by rfl) (.tmp 116) (.tmp 117) _ (by rfl) (by rfl) hr _ (by rfl) (kG 1 rfl hl) (by simp only[aT,bz];omega) hz ?_;intro A1 c1 Lx hr2 hg2;replace hv:=Xh hv hg2.grow Hd;replace hb:=cU hb (eI hg2 hr hz);replace hz:=bn hz hg2.size;clear hr hg2 hl;have hr:=hr2;clear hr2;refine hK.out _ _ (iT.o _ hb) (fun hHeld=>?_);clear hK K hHeld
   try simp only[ak]
   rw[N4 (i:=9) (j:=1) _ _ (by decide),N4 (i:=9) (j:=2) _ _ (by decide)];exact rest _ _ _ _ ⟨A1,c1,cn,gv,rfl,rfl,hr,hcn,hv,hb⟩
  clear hr hb hz;rintro x0 x1 x2 w30 ⟨A1,c1,cn,gv,rfl,rfl,hr,hcn,hv,hb⟩
  try simp only[ak]
  have hz:w.heap.size+1≤w30.heap.size:=bn D8 hb.size;refine bZ [10] ?_;refine bC rfl (fun K hK=>?_) bY;go_simp;refine(Pv s.data.toList (some ⟨gv,0,none⟩) cn _ hv (by omega)).mono ?_;rintro e w31 ⟨A2,c2,rfl,hk,dQ⟩;replace hr:=C8 hr dQ;replace hb:=cU hb (eJ dQ hz);replace hz:=bn hz dQ.size
  try go_simp
  refine hK.out _ _ (iT.o _ hb) (fun hHeld=>?_);clear hK K hHeld dQ
  try simp only[ak]
  refine bZ [11] ?_;refine bC rfl (fun K hK=>?_) bY;refine oJ (ys:=dC s.data.toList) (by rfl) (.tmp 118) (.tmp 126) _ (by rfl) (by rfl) hr _ (by rfl) (fe eH hk.reads.1 (i6 _)) (by first | omega | (simp only[aT,bz];omega)) hz ?_;intro A3 c3 Qc hr3 hg3;replace hb:=cU hb (eI hg3 hr hz);replace hz:=bn hz hg3.size;refine hK.out _ _ (iT.o _ hb) (fun hHeld=>?_);clear hK K hr hk hg3
  try simp only[ak]
  refine aj 12 (hy:=bt fun w ax=>by (try obtain⟨hs0,hs1⟩:=ax);go_simp;try rfl) ?_;refine cz ?_;clear hHeld;have fT:=aa hr3;have aV:=aa hb;clear hr3 hb;have bN:=aa (cU sA.o (eJ aV.o (fD _)));have ar:=aa (Blk.below mC.o aV.o (by omega));have FX:=ar.o.cell;have e0:=(bN.o.cell (p:=⟨bk,o+j*6+1,none⟩) hbk).trans uz.o;have e1:=(bN.o.cell (p:=⟨bk,o+j*6+1+1,none⟩) hbk).trans sB.o;have e2:=(bN.o.cell (p:=⟨bk,o+j*6+1+2,none⟩) hbk).trans od.o;have e3:=(bN.o.cell (p:=⟨bk,o+j*6+1+3,none⟩) hbk).trans HE3.o;have e4:=(bN.o.cell (p:=⟨bk,o+j*6+1+4,none⟩) hbk).trans HE4.o;clear hc;go_wp2_with fail;refine(HLY.o Qc x (HX.o.grow bN.o) (by omega)).mono ?_;rintro e w60 ⟨A6,c6,rfl,pW,cH⟩;have xJ:=aa pW
  have bp:=aa (tO bN.o cH);have mK:=aa (fT.o.grow cH);have dg:=aa (ar.o.grow cH);have D7:=cH.size;clear pW cH e0 e1 e2 e3 e4 FX;go_wp2_with (first | (at_builtin;refine gy (ys:=y.key) rfl (.tmp 128) (.tmp 135) _ rfl rfl mK.o _ rfl (fe eH xJ.o.reads.1 (i6 _)) (by first | omega | (simp only[aT,bz];omega)) (by first | omega | (simp only[dJ];omega)) ?_;intro A7 c7 w7 kp b_;have Bp:=b_.size;have aX:=aa (cU bp.o (eJ (eI b_ mK.o (by first | omega | (simp only[dJ];omega))) (by omega)));have iy:=aa kp;(try simp only[dJ] at Bp);have ji:=aa (b_.blk dg.o (qA mK.o dg.o (by decide)));clear kp b_) | fail);go_roundg gk'
  have e1:1+S.length+[1].length+(dC s.data.toList).length+y.key.length=1+((f.take (j+1)).map V.eo).flatten.length:=by rw[lV.o];simp only[aT,bz];omega
  refine⟨j+1,A7,c7,by omega,by omega,by go_num,by rw[← e1];rfl,?_,aX.o,ji.o⟩;rw[← e1,ju.o];simpa using iy.o;omega
 obtain rfl:j=f.length:=by omega
 rw[fS] at hr ⊢;obtain⟨S,hS⟩:∃S,S=(f.map V.eo).flatten:=⟨_,rfl⟩;rw[← hS] at hr jn ⊢;have uy:=aa hS;have ed:=aa hr;have aM:=aa hgr;clear hr hgr hB hS;go_wp2_with (first | (at_builtin;refine gy (ys:=[0]) rfl (.tmp 137) (.tmp 138) _ rfl rfl (ed.o.alloc _) _ rfl (kG 0 rfl (cX (by simp) _ _)) (by simp only[fX,aT,bz]<;>omega) (by first | omega | (simp only[dJ];omega)) ?_;intro A7 c7 w7 kp b_;have Bp:=b_.size;have aX:=aa (cU (yT aM.o _) (eJ (eI b_ (ed.o.alloc _) (by first | omega | (simp only[dJ];omega))) (by omega)));have iy:=aa kp;(try simp only[dJ] at Bp);clear kp b_) | fail);go_ret;have hkey:(V.mk 8 0 [] [] f).key=112::(S++[0]):=by rw[fG,uy.o];rfl
 rw[hkey];exact f_.row (show 112::S++[0]=_ from rfl) (by simp only[aT,bG,bz];omega) (fD _) iy.o aX.o
theorem aeQ(v:V):v.formed=true→P9 v:=by
 induction v using V.ind with
 | h k n b l f hl hf =>
  intro fF w c hv hm;rcases rU fF with h | ⟨_,_,h⟩ | ⟨_,h⟩ | ⟨_,h⟩ | ⟨_,_,h⟩ | ⟨_,h⟩ | ⟨l',hl',h⟩ | ⟨f',hf',hnd,h⟩
  ·cases h;exact aeH w c hv
  ·cases h;exact aeI w c _ hv
  ·cases h;exact aeJ w c _ hv
  ·cases h
   by_cases hn:dt n=true
   ·exact aeM w c _ hv hn
   exact aeN w c _ hv (by simpa using hn)
  ·cases h;exact aeK w c _ hv hm
  ·cases h;exact aeL w c _ hv hm
  ·cases h;exact aeO w c _ (fun x hx=>hl x hx (hl' x hx)) hv hm
  cases h;exact aeP w c _ (fun x hx=>hf x hx (hf' x hx).2) hv hm
theorem aeR(v:V)(c:Cv)(hg:v.good=0):∀W,In W v c→Calls prog 105 #[c.agg] W (f_ W v.key):=fun W hv=>by
 have hf:=lR hg;have hk:=VT v hf.1;exact aeQ v hf.1 W c hv (by have:=hf.2;omega)
end
abbrev al3:=@f_.row
section
open Go.RowKit
theorem aeS(S:Nat)(hS:S≤1000000000):∃cur:Array Value,cur.size=S*3∧∀w:World,(Instr.makeSlice 42 (.int .i64 0) (.int .i64 (S:Int))).run prog w=.ok (.slice (some ⟨w.heap.size,0,none⟩) 0 S) (w.alloc (.cells cur 48)):=by
 obtain⟨i0,hi0,hz0,hz1,hz2⟩:=info_parts He;refine⟨madeCells (Value.agg #[.string ⟨#[]⟩,.slice none 0 0,.slice none 0 0]).cells (S*i0.size),?_,fun w=>?_⟩
 ·rw[hz1];simp[madeCells]
 have h:=run_make (P:=prog) (w:=w) 42 48 i0 _ mL hi0 hz0 .i64 .i64 0 (S:Int) (by omega) (by omega) (by rw[hz2];omega) (by omega);exact h
theorem aeT(S:Nat)(hS:S≤1000000000):∃cur:Array Value,cur.size=S*3∧∀w:World,(Instr.makeSlice 46 (.int .i64 0) (.int .i64 (S:Int))).run prog w=.ok (.slice (some ⟨w.heap.size,0,none⟩) 0 S) (w.alloc (.cells cur 64)):=by
 obtain⟨i0,hi0,hz0,hz1,hz2⟩:=info_parts Qf;refine⟨madeCells (Value.agg #[.string ⟨#[]⟩,.string ⟨#[]⟩,.bool false]).cells (S*i0.size),?_,fun w=>?_⟩
 ·rw[hz1];simp[madeCells]
 have h:=run_make (P:=prog) (w:=w) 46 64 i0 _ uA hi0 hz0 .i64 .i64 0 (S:Int) (by omega) (by omega) (by rw[hz2];omega) (by omega);exact h
theorem aeU{F:Func}{W:World}{vb:Nat}{tmps:Array Value}{u:Value}(hF:F.results=#[ResultVar.cell 2 44])(h2:tmps.getD 2 undef=.pointer (some ⟨vb,0,none⟩))(hv:Blk W vb 44 #[u]) :
 (results F tmps).run prog W=.ok (.agg #[u]) W:=by
 have xL:=hv.cell;have h2':tmps[2]?.getD undef=.pointer (some ⟨vb,0,none⟩):=by simpa using h2
 simp[results,hF,go_sem,h2',xL]
def Xo(w:World)(st:List Co)(e:Ending)(w':World):Prop:=Grow w w'∧∃A c es,e=.returned (.agg #[.slice A st.length c])∧CR (fun q=>q<w.heap.size) w' w.heap.size A c es st
structure Xp (c:Co):Prop where
 ag:c.ag.length≤1000000000
 aq:c.aq.length≤1000000000
 nD:∀d∈c.ag,d.nD
theorem Hg{α:Type}{l xs:List α}{j:Nat}(h:j<l.length)(e:xs=l.take j):xs++[l[j]]=l.take (j+1):=by rw[e,mv l j h]
theorem Src.aA{w:World}(e:Cc)(t:TypeId){g:Nat}(hg:g=w.heap.size):Src prog 3 42 (.slice (some ⟨g,0,none⟩) 1 1) 1 e.cells.toList (w.alloc (.cells e.cells t)):=by
 subst hg;exact Src.ofSlice _ mL ⟨w.heap.size,0,none⟩ 1 1 _ rfl (fun j u hu=>by
  rw[add_lit,dY,(aD w t e.cells).cell j,← hu,pH]) (fun u hu=>by
  simp only[je,wZ,w_] at hu;rcases hu with rfl | rfl | rfl<;>rfl)
theorem LA{W:World}{lo c6 c7:Nat}{S0:Nat→Prop}{A6 A7 A':Option Addr}{cs:List Cv}{cd:List V}{cx:List Ix}(h:VR (fun q=>S0 q∨bw A'=some q) W lo A6 c6 cs cd)(h7:W.ownsRow lo 64 3 (.slice A7 cx.length c7) cx.length (fU cx))(hB:∀q,S0 q→q<lo)(hA:∀g,bw A'=some g→g<lo)(hl:cd.length≤140737488355328)(cn:ByteArray) :
 wh (eD W (fun q=>bw A'=some q∨S0 q)) ⟨cn,A6,cd.length,c6,A7,cx.length,c7⟩ ⟨cn,cd,cx⟩:=by
 have hs:∀q,(S0 q∨bw A'=some q)→q<lo:=fun q hq=>by
  rcases hq with hq | hq
  ·exact hB q hq
  exact hA q hq
 have ho:∀(q:Nat),(bw A'=some q∨S0 q)→(S0 q∨bw A'=some q):=fun q hq=>hq.symm
 refine⟨rfl,rfl,rfl,(nr h7).1,?_,?_⟩
 ·refine(h.list (fun g hg hq=>?_) hl).mono (eD.sub ho);have:=(bO h.row g (by rw[bH];exact hg)).1;have:=hs g hq;omega
 refine(lg (S:=fun q=>S0 q∨bw A'=some q) h7 (fun g hg hq=>?_)).mono (eD.sub ho);have:=(bO h7 g (by rw[bH];exact hg)).1;have:=hs g hq;omega
def sD(w:World)(q:Nat):Prop:=q=w.heap.size+1+1+1∨q=w.heap.size+1∨q<w.heap.size
theorem Xq(st:List Co)(A:Option Addr)(cap:Nat)(w:World)(hst:dW w A cap st)(hn:st.length≤1000000000)(hs:∀c∈st,Xp c) :
 Calls prog 37 #[.agg #[.slice A st.length cap]] w (Xo w st):=by
 obtain⟨hcap,kM,mM,qQ⟩:=hst;have og:=aa mM;have qR:=aa qQ;have HSM:=aa hs;obtain⟨Hh,Xr,hmC⟩:=aeS st.length hn;have HN:=aa hn;have aQ:=aa (((cX (w:=w.alloc (.cells #[.slice A st.length cap] 44)) (g:=w.heap.size+1) (by simp) 44 #[.slice none 0 0]).alloc (.cells Hh 48)).alloc (.cells #[.slice (some ⟨w.heap.size+1+1,0,none⟩) 0 st.length] 44));have av:=aa (cX (w:=((w.alloc (.cells #[.slice A st.length cap] 44)).alloc (.cells #[.slice none 0 0] 44)).alloc (.cells Hh 48)) (g:=w.heap.size+1+1+1) (by simp) 44 #[.slice (some ⟨w.heap.size+1+1,0,none⟩) 0 st.length]);have Xt:=((((ah w).alloc (.cells #[.slice A st.length cap] 44)).alloc (.cells #[.slice none 0 0] 44)).alloc (.cells Hh 48)).alloc (.cells #[.slice (some ⟨w.heap.size+1+1,0,none⟩) 0 st.length] 44)
 have Xu:(((w.alloc (.cells #[.slice A st.length cap] 44)).alloc (.cells #[.slice none 0 0] 44)).alloc (.cells Hh 48)).ownsRow w.heap.size 48 3 (.slice (some ⟨w.heap.size+1+1,0,none⟩) 0 st.length) 0 []:=by
  have:=tE (base:=w.heap.size) (e:=48) (size:=3) ((w.alloc (.cells #[.slice A st.length cap] 44)).alloc (.cells #[.slice none 0 0] 44)) Hh st.length (by simp;omega) (by simp only[maxLen];omega) Xr;rw[show ((w.alloc (.cells #[.slice A st.length cap] 44)).alloc (.cells #[.slice none 0 0] 44)).heap.size=w.heap.size+1+1 by simp] at this;exact this
 have aeV:=aa (GR.made (f:=cF) (β:=Co) (z:=3) (T:=48) (R:=cR) (S:=sD w) (Xu.alloc (.cells #[.slice (some ⟨w.heap.size+1+1,0,none⟩) 0 st.length] 44)));have aM:=aa Xt;clear hs mM qQ Xr Xt Xu;go_enter func37,ntmps37;go_wp2_with fail;go_loopg [17] (st.length+1) (fun gk i wr=>∃(j:Nat) (A':Option Addr) (c':Nat) (es':List Cc),j≤st.length∧gk+j=st.length+1∧i=.int .i64 j∧CR (sD w) wr w.heap.size A' c' es' (st.take j) ∧
  Blk wr (w.heap.size+1+1+1) 44 #[.slice A' es'.length c']∧Blk wr (w.heap.size+1) 44 #[.slice none 0 0]∧Grow w wr)
 exact⟨0,_,_,[],ba _,rfl,rfl,aeV.o,av.o,aQ.o,aM.o⟩;obtain⟨j,A',c',es',hj,hg,rfl,hcr,hb4,hb1,hgr⟩:=hrel;obtain⟨gk',rfl⟩:=bS gk (by omega);have hel:es'.length=j:=by rw[hcr.two.1,dS];omega
 have oN:=aa hel;have pX:=aa hcr;have sG:=aa hb4;have sH:=aa hb1;have HG:=aa hgr;clear hcr hb4 hb1 hgr hel;by_cases hlt:j<st.length
 ·have uB:j<kM.length:=by rw[og.o.1];exact hlt
  have aR:=og.o.at_ uB hlt;have hsm:=HSM.o _ (aW hlt);obtain⟨bk,o,hA,hcell⟩:=qR.o.2 (by omega);have hf:∀k v,kM[j].cells.toList[k]?=some v→k<3→w.cell? ⟨bk,o+j*3+k,none⟩=some v∧bk<w.heap.size:=fun k v hv hk=>by
   have:=hcell (j*3+k) v (by rw[dK,qL _ 3 (fun _=>rfl) kM j k hk kM[j] (cJ uB)];exact hv);rw[← kU] at this;exact⟨this.1,this.2.2⟩
  obtain⟨⟨nm,dA,dn,dc,xA,xn,xc⟩,he⟩:∃e,kM[j]=e:=⟨_,rfl⟩;obtain⟨⟨cn,cd,cx⟩,hc⟩:∃c,st[j]=c:=⟨_,rfl⟩;rw[he] at hf aR;rw[hc] at aR hsm;obtain⟨q1,q2,q3,q4,zA,Qg⟩:=aR;obtain⟨ej,hxl,Qh⟩:=hsm;dsimp only at q1 q2 q3 q4 zA Qg ej hxl Qh;subst q1 q2 q3 hA;have f0:=(HG.o.below.cell (p:=⟨bk,o+j*3,none⟩) (hf 0 _ rfl (by omega)).2).trans (hf 0 _ rfl (by omega)).1;have f1:=(HG.o.below.cell (p:=⟨bk,o+j*3+1,none⟩) (hf 1 _ rfl (by omega)).2).trans (hf 1 _ rfl (by omega)).1;have f2:=(HG.o.below.cell (p:=⟨bk,o+j*3+2,none⟩) (hf 2 _ rfl (by omega)).2).trans (hf 2 _ rfl (by omega)).1;obtain⟨LB,Xv,hmV⟩:=Qi cd.length ej;obtain⟨wD,Xw,hmX⟩:=aeT cx.length hxl;have HC:=aa hc;have HD:=aa (show InL w dA dc cd from zA);have eY:=aa Qg;have zH:=aa Qh
  have vV:=(aD wr 48 #[.string nm,.slice dA cd.length dc,.slice xA cx.length xc]).alloc (.cells LB 27);have ar:=aa vV;have LC:((wr.alloc (.cells #[.string nm,.slice dA cd.length dc,.slice xA cx.length xc] 48)).alloc (.cells LB 27)).ownsRow wr.heap.size 27 5 (.slice (some ⟨wr.heap.size+1,0,none⟩) 0 cd.length) 0 []:=by
   have:=tE (base:=wr.heap.size) (e:=27) (size:=5) (wr.alloc (.cells #[.string nm,.slice dA cd.length dc,.slice xA cx.length xc] 48)) LB cd.length (by simp) (by simp only[maxLen];omega) Xv;rw[show (wr.alloc (.cells #[.string nm,.slice dA cd.length dc,.slice xA cx.length xc] 48)).heap.size=wr.heap.size+1 by simp] at this;exact this
  have HV0:=aa (GR.made (f:=vF) (β:=V) (z:=5) (T:=27) (R:=vR) (S:=fun q=>sD w q∨bw A'=some q) LC);have bN:=aa (((ah wr).alloc (.cells #[.string nm,.slice dA cd.length dc,.slice xA cx.length xc] 48)).alloc (.cells LB 27));have cr:=vV.cell;have HCX:=aa Xw;clear hf zA Qg hcell Qh vV LC Xv he hc Xw;go_wp2_with fail;clear f0 f1 f2 cr;obtain⟨wo,hwo⟩:∃wo:World,wo=wr:=⟨_,rfl⟩;subst hwo;go_loopg [6,28] (cd.length+1) (fun gk o i wi=>∃(k:Nat) (A6:Option Addr) (c6:Nat) (cs:List Cv),k≤cd.length∧gk+k=cd.length+1∧i=.int .i64 k∧o=.slice A6 cs.length c6 ∧
   VR (fun q=>sD w q∨bw A'=some q) wi wo.heap.size A6 c6 cs (cd.take k)∧Blk wi wo.heap.size 48 #[.string nm,.slice dA cd.length dc,.slice xA cx.length xc]∧Grow wo wi)
  exact⟨0,_,_,[],ba _,rfl,rfl,rfl,HV0.o,ar.o,bN.o⟩;obtain⟨k,A6,c6,cs,hk,kW,rfl,rfl,fE,cr,hgo⟩:=hrel;have jJ:=aa fE;have uC:=aa cr;have iI:=aa hgo;have hcl:cs.length=k:=by rw[fE.two.1,dS];omega
  have jy:=aa hcl;clear hcl;have uD:=aa (fun g (hg:bw A'=some g)=>(bO pX.o.row g (by rw[bH];exact hg)).2);have sI:=aa (show w.heap.size+1+1+1<wo.heap.size from sG.o.lt);have Hi:=aa (fun q (hq:sD w q)=>show q<wo.heap.size from by
   have:=sI.o;rcases hq with rfl | rfl | hq<;>omega)
  have aeW:=aa (fun q (hq:sD w q∨bw A'=some q)=>show q<wo.heap.size from by
   rcases hq with hq | hq
   ·exact Hi.o q hq
   exact uD.o q hq)
  clear fE cr hgo;by_cases hkl:k<cd.length
  ·obtain⟨sJ,rfl⟩:∃g,gk=g+1:=⟨gk-1,by omega⟩;obtain⟨nW,o2,y,ha,hbk2,e0,e1,e2,e3,e4,hy⟩:=HD.o.fO k hkl;dsimp only[kH] at ha;subst ha;have uE:=aa (HG.o.trans iI.o);have d0:=(uE.o.below.cell (p:=⟨nW,o2+k*5,none⟩) hbk2).trans e0;have d1:=(uE.o.below.cell (p:=⟨nW,o2+k*5+1,none⟩) hbk2).trans e1;have d2:=(uE.o.below.cell (p:=⟨nW,o2+k*5+2,none⟩) hbk2).trans e2;have d3:=(uE.o.below.cell (p:=⟨nW,o2+k*5+3,none⟩) hbk2).trans e3;have d4:=(uE.o.below.cell (p:=⟨nW,o2+k*5+4,none⟩) hbk2).trans e4;have aeX:=aa (zI cd[k] (zH.o _ (aW hkl)) (wr.alloc (.cells y.cells 27)) y (hy.grow (uE.o.alloc _)));have hy1:=(aD wr 27 y.cells).cell;obtain⟨zJ,hi0,hz0,hz1,hz2⟩:=info_parts oO;have gU:=aa hi0;have gV:=aa hz0
   have gW:=aa hz1;have gX:=aa hz2;clear e0 e1 e2 e3 e4 hy hi0 hz0 hz1 hz2;go_wp2_with fail;refine aeX.o.mono ?_;rintro e w3 ⟨cv,rfl,hin,hg3⟩;have Ea:=aa hin;have aP:=aa (((ah wr).alloc (.cells y.cells 27)).trans hg3);have Xx:=aa (iI.o.trans aP.o);have hzz:wr.heap.size<(wr.alloc (.cells y.cells 27)).heap.size:=by simp
   have Qj:=aa ((jJ.o.grow jI aP.o).grow jI ((ah w3).alloc (.cells cv.cells 27)));have aeY:=aa (show IsV (eD (w3.alloc (.cells cv.cells 27)) (fun q=>bw A6=some q∨(sD w q∨bw A'=some q))) cd[k] cv from by
    refine fw (lh (Ld ((ah w3).alloc _)) (fun _ h=>h.elim)) _ _ (fw (eD.K6 (ay _) fun q hq=>?_) _ _ hin.Be);left;rcases hq with hq | hq
    ·have:=(bO jJ.o.row q (by rw[bH];exact hq)).2;omega
    have:=aeW.o q hq;have:=iI.o.size;omega)
   clear hin hg3 d0 d1 d2 d3 d4 hy1 hzz;have O7:wo.heap.size≤(w3.alloc (.cells cv.cells 27)).heap.size:=bn Xx.o.size (by simp);go_wp2_with (first | (at_builtin;refine xg rfl (.tmp 32) (.tmp 35) 24 24 rfl wo.heap.size 27 zJ _ 5 88 jv gU.o gV.o gW.o gX.o rfl (.slice A6 cs.length c6) cs.length (dG cs) rfl Qj.o.row _ 1 cv.cells.toList rfl (Src.Qk (W:=w3) cv _ rfl) (by have:=jy.o;omega) (by simp only[maxLen];have:=jy.o;omega) O7 ?_;intro A7 c7 w7 fM qT zK) | fail);have HV7:=aa (GR.add (f:=vF) (z:=5) jI Qj.o aeY.o fM qT zK);have aeZ:=aa ((Xx.o.alloc (.cells cv.cells 27)).grown qT (fun q hq=>(bO Qj.o.row q hq).1))
   have ae0:=aa (((uC.o.grow aP.o).alloc (.cells cv.cells 27)).own qT (fun q hq e=>by rw[bH,e] at hq;exact ez jJ.o.row uC.o (by decide) hq));clear fM qT zK;go_roundg sJ;exact⟨k+1,A7,c7,cs++[cv],by omega,by omega,by go_num,by simp,by rw[← Hg hkl rfl];exact HV7.o,ae0.o,aeZ.o⟩;omega
  have hkc:k=cd.length:=by omega
  subst hkc;have hcl:=jy.o;have Ql:es'.length≤1000000000:=by have:=oN.o;omega
  have fE:=jJ.o;rw[fS] at fE;have LD:=aa fE;have cr:=uC.o.cell;have HS:=aa (fun(W:World) (hg:Grow wr W)=>show W.cell? ⟨wo.heap.size,0,none⟩=some (.string nm)∧W.cell? ⟨wo.heap.size,2,none⟩=some (.slice xA cx.length xc) from
   ⟨(hg.below.cell (p:=⟨wo.heap.size,0,none⟩) uC.o.lt).trans (uC.o.cell 0),(hg.below.cell (p:=⟨wo.heap.size,2,none⟩) uC.o.lt).trans (uC.o.cell 2)⟩)
  have uF:=aa (fun(W:World) (hg:Grow wr W)=>((sG.o.grow iI.o).grow hg).cell 0);have Xy:=aa (fun(W:World) (hg:Grow wr W)=>show (W.alloc (.cells wD 64)).ownsRow wo.heap.size 64 3 (.slice (some ⟨W.heap.size,0,none⟩) 0 cx.length) 0 []∧Reads (bK (W.alloc (.cells wD 64)) 0 (W.alloc (.cells wD 64)).heap.size) 3 xA cx.length (fU cx) from
   ⟨tE (base:=wo.heap.size) (e:=64) (size:=3) W wD cx.length (bn iI.o.size hg.size) (by simp only[maxLen];omega) HCX.o,eX (fk (((HG.o.trans iI.o).trans hg).alloc _).below (ay _) (ay _) (((HG.o.trans iI.o).trans hg).alloc _).size) eY.o⟩)
  have qU:=aa (show cd.length≤140737488355328 by omega);obtain⟨Qm,hx0,hx1,hx2,hx3⟩:=info_parts Qf;have Qn:=aa hx0;have Qo:=aa hx1;have Qp:=aa hx2;have Qq:=aa hx3;obtain⟨i0,hi0,hz0,hz1,hz2⟩:=info_parts He;have gU:=aa hi0;have gV:=aa hz0;have gW:=aa hz1;have gX:=aa hz2;clear fE hx0 hx1 hx2 hx3 hi0 hz0 hz1 hz2 cr;have al4:=HS.o _ (ah wr);go_wp2_with fail;refine dN ?_;refine dO (S:=fun w'=>w'.cell? ⟨wo.heap.size,0,none⟩=some (.string nm)∧w'.cell? ⟨wo.heap.size,2,none⟩=some (.slice xA cx.length xc)) (by kernel_rfl) (HS.o _ ((ah _).drew)) (fun hHeld=>?_);have HG2:=aa ((ah wr).drew);generalize wr.drew=W2 at HG2 hHeld ⊢;have Qr:=aa (Xy.o _ HG2.o).1;have qV:=aa (Xy.o _ HG2.o).2
  have Qs:=aa (show wo.heap.size≤(W2.alloc (.cells wD 64)).heap.size from bn iI.o.size (HG2.o.alloc _).size);refine aj 0 ?_;refine aj 2 ?_;refine eB 3 ?_;refine aj 4 ?_;refine aj 5 ?_;refine eB 6 ?_;refine aj 7 ?_;refine aj 9 ?_;refine eB 10 ?_;refine bZ [1,8] ?_;refine eK (fun K hK=>?_) (eK (fun K hK=>?_) bY)
  ·have hbb:=uF.o _ HG2.o;go_simp;refine hK.out _ _ (HS.o _ HG2.o) (fun hHeld=>?_);clear hbb;clear hK K
   try simp only[ak]
   refine aK 8 (fun K hK=>?_);go_simp;refine aU hK (HS.o _ (HG2.o.alloc _)) (fun hHeld=>?_);clear hK K;refine aK 11 (fun K hK=>?_);refine jg (by rfl) (.tmp 46) (.tmp 48) 46 46 (by rfl) wo.heap.size 64 Qm _ 3 40 uA Qn.o Qo.o Qp.o Qq.o (by rfl) (.slice (some ⟨W2.heap.size,0,none⟩) 0 cx.length) 0 [] (by rfl) Qr.o (.slice xA cx.length xc) cx.length (fU cx) (by rfl) (fe uA qV.o (DD cx)) (by omega) (by simp only[maxLen];omega) Qs.o ?_;intro A7 c7 w7 fM qT zK;have aX:=aa ((HG2.o.alloc (.cells wD 64)).grown qT (fun k hk=>by simp[Value.ownBlock] at hk;have:=HG2.o.size;omega));rw[pE] at fM;simp only[dY] at fM;have uG:=aa fM;clear fM qT zK;refine aU hK (HS.o _ aX.o) (fun hHeld=>?_);clear hK K;refine aj 12 ?_
   refine aK 13 (fun K hK=>?_);go_simp;refine aU hK (HS.o _ (aX.o.alloc _)) (fun hHeld=>?_);clear hK K;refine aK 14 (fun K hK=>?_);have HE:=aa (LA (LD.o.grow jI (aX.o.alloc (.cells (Cc.cells ⟨nm,A6,cd.length,c6,A7,cx.length,c7⟩) 48))) (uG.o.alloc (.cells (Cc.cells ⟨nm,A6,cd.length,c6,A7,cx.length,c7⟩) 48)) (A':=A') Hi.o uD.o qU.o nm);have oP:=aa ((pX.o.grow lT iI.o).grow lT (aX.o.alloc (.cells (Cc.cells ⟨nm,A6,cd.length,c6,A7,cx.length,c7⟩) 48)));have oQ:=aa (show w.heap.size≤(w7.alloc (.cells (Cc.cells ⟨nm,A6,cd.length,c6,A7,cx.length,c7⟩) 48)).heap.size from bn (HG.o.trans iI.o).size (aX.o.alloc _).size)
   refine jg (by rfl) (.tmp 39) (.tmp 51) 42 42 (by rfl) w.heap.size 48 i0 _ 3 64 mL gU.o gV.o gW.o gX.o (by rfl) (.slice A' es'.length c') es'.length (dK es') (by rfl) oP.o.row _ 1 (Cc.cells ⟨nm,A6,cd.length,c6,A7,cx.length,c7⟩).toList (by rfl) (Src.aA ⟨nm,A6,cd.length,c6,A7,cx.length,c7⟩ _ rfl) (by omega) (by simp only[maxLen];omega) oQ.o ?_;intro A8 c8 w8 cN cS kP;have lW:=aa (GR.add (f:=cF) (z:=3) lT oP.o HE.o cN cS kP);have lX:=aa ((((sG.o.grow iI.o).grow aX.o).alloc (.cells (Cc.cells ⟨nm,A6,cd.length,c6,A7,cx.length,c7⟩) 48)).own cS (fun q hq e=>by rw[bH,e] at hq;exact ez pX.o.row sG.o (by decide) hq))
   have uH:=aa ((((sH.o.grow iI.o).grow aX.o).alloc (.cells (Cc.cells ⟨nm,A6,cd.length,c6,A7,cx.length,c7⟩) 48)).own cS (fun q hq e=>by rw[bH,e] at hq;exact ez pX.o.row sH.o (by decide) hq));have oU:=aa ((((uC.o).grow aX.o).alloc (.cells (Cc.cells ⟨nm,A6,cd.length,c6,A7,cx.length,c7⟩) 48)).own cS (fun q hq e=>by rw[bH,e] at hq;have:=uD.o _ hq;omega));have cD:=aa (((HG.o.trans iI.o).trans (aX.o.alloc (.cells (Cc.cells ⟨nm,A6,cd.length,c6,A7,cx.length,c7⟩) 48))).grown cS (fun q hq=>(bO oP.o.row q hq).1));have Br:=lX.o.cell;have Bt:=lX.o.frozen;clear cN cS kP;refine hK.out _ _ ⟨oU.o.cell 0,oU.o.cell 2⟩ (fun hHeld=>?_);clear hK K
   try simp only[ak]
   refine aj 15 ?_;refine aK 16 (fun K hK=>?_);go_simp;have wE:=aa (lW.o.kept lT (qW (S:=sD w) (dU _ w8) (p:=⟨w.heap.size+1+1+1,0,none⟩) (.inl rfl) (.slice A8 (es'.length+1) c8)) (fun _ h=>h) (fun g hg e=>by
    rcases e with rfl | rfl | e
    ·exact ez lW.o.row lX.o (by decide) hg
    ·exact ez lW.o.row uH.o (by decide) hg
    have:=(bO lW.o.row g (by rw[bH];exact hg)).1;omega))
   have lY:=aa (lX.o.bf 0 (.slice A8 (es'.length+1) c8));have Bu:=aa (uH.o.far (p:=⟨w.heap.size+1+1+1,0,none⟩) (by show w.heap.size+1≠w.heap.size+1+1+1;omega) (.slice A8 (es'.length+1) c8));have gK:=aa (oU.o.far (p:=⟨w.heap.size+1+1+1,0,none⟩) (by show wo.heap.size≠w.heap.size+1+1+1;have:=sI.o;omega) (.slice A8 (es'.length+1) c8));have dH:=aa (cD.o.setCell (p:=⟨w.heap.size+1+1+1,0,none⟩) (by show w.heap.size≤w.heap.size+1+1+1;omega) (.slice A8 (es'.length+1) c8));refine hK.out _ _ ⟨gK.o.cell 0,gK.o.cell 2⟩ (fun hHeld=>?_);clear hK K
   try simp only[ak]
   refine cz ?_;clear Br Bt;go_wp2_with fail;go_roundg gk';have hl:(es'++[(⟨nm,A6,cd.length,c6,A7,cx.length,c7⟩:Cc)]).length=es'.length+1:=by simp
   refine⟨j+1,A8,c8,es'++[⟨nm,A6,cd.length,c6,A7,cx.length,c7⟩],by omega,by omega,by go_num,?_,by rw[hl];exact lY.o,Bu.o,dH.o⟩;have h9:=wE.o;rw[← HC.o,Hg hlt rfl] at h9;exact h9;omega
  go_simp;refine aU hK (HS.o _ (HG2.o.alloc _)) (fun hHeld=>?_);clear hK K;refine bZ [1,11] ?_;refine eK (fun K hK=>?_) (eK (fun K hK=>?_) bY)
  ·have hbb:=uF.o _ (HG2.o.alloc (.cells wD 64));go_simp;refine hK.out _ _ (HS.o _ (HG2.o.alloc (.cells wD 64))) (fun hHeld=>?_);clear hbb;clear hK K
   try simp only[ak]
   refine aK 11 (fun K hK=>?_);refine jg (by rfl) (.tmp 46) (.tmp 48) 46 46 (by rfl) wo.heap.size 64 Qm _ 3 40 uA Qn.o Qo.o Qp.o Qq.o (by rfl) (.slice (some ⟨W2.heap.size,0,none⟩) 0 cx.length) 0 [] (by rfl) Qr.o (.slice xA cx.length xc) cx.length (fU cx) (by rfl) (fe uA qV.o (DD cx)) (by omega) (by simp only[maxLen];omega) Qs.o ?_;intro A7 c7 w7 fM qT zK;have aX:=aa ((HG2.o.alloc (.cells wD 64)).grown qT (fun k hk=>by simp[Value.ownBlock] at hk;have:=HG2.o.size;omega));rw[pE] at fM;simp only[dY] at fM;have uG:=aa fM;clear fM qT zK;refine aU hK (HS.o _ aX.o) (fun hHeld=>?_);clear hK K;refine aj 12 ?_;refine aK 13 (fun K hK=>?_);go_simp;refine aU hK (HS.o _ (aX.o.alloc _)) (fun hHeld=>?_);clear hK K
   refine aK 14 (fun K hK=>?_);have HE:=aa (LA (LD.o.grow jI (aX.o.alloc (.cells (Cc.cells ⟨nm,A6,cd.length,c6,A7,cx.length,c7⟩) 48))) (uG.o.alloc (.cells (Cc.cells ⟨nm,A6,cd.length,c6,A7,cx.length,c7⟩) 48)) (A':=A') Hi.o uD.o qU.o nm);have oP:=aa ((pX.o.grow lT iI.o).grow lT (aX.o.alloc (.cells (Cc.cells ⟨nm,A6,cd.length,c6,A7,cx.length,c7⟩) 48)));have oQ:=aa (show w.heap.size≤(w7.alloc (.cells (Cc.cells ⟨nm,A6,cd.length,c6,A7,cx.length,c7⟩) 48)).heap.size from bn (HG.o.trans iI.o).size (aX.o.alloc _).size)
   refine jg (by rfl) (.tmp 39) (.tmp 51) 42 42 (by rfl) w.heap.size 48 i0 _ 3 64 mL gU.o gV.o gW.o gX.o (by rfl) (.slice A' es'.length c') es'.length (dK es') (by rfl) oP.o.row _ 1 (Cc.cells ⟨nm,A6,cd.length,c6,A7,cx.length,c7⟩).toList (by rfl) (Src.aA ⟨nm,A6,cd.length,c6,A7,cx.length,c7⟩ _ rfl) (by omega) (by simp only[maxLen];omega) oQ.o ?_;intro A8 c8 w8 cN cS kP;have lW:=aa (GR.add (f:=cF) (z:=3) lT oP.o HE.o cN cS kP);have lX:=aa ((((sG.o.grow iI.o).grow aX.o).alloc (.cells (Cc.cells ⟨nm,A6,cd.length,c6,A7,cx.length,c7⟩) 48)).own cS (fun q hq e=>by rw[bH,e] at hq;exact ez pX.o.row sG.o (by decide) hq))
   have uH:=aa ((((sH.o.grow iI.o).grow aX.o).alloc (.cells (Cc.cells ⟨nm,A6,cd.length,c6,A7,cx.length,c7⟩) 48)).own cS (fun q hq e=>by rw[bH,e] at hq;exact ez pX.o.row sH.o (by decide) hq));have oU:=aa ((((uC.o).grow aX.o).alloc (.cells (Cc.cells ⟨nm,A6,cd.length,c6,A7,cx.length,c7⟩) 48)).own cS (fun q hq e=>by rw[bH,e] at hq;have:=uD.o _ hq;omega));have cD:=aa (((HG.o.trans iI.o).trans (aX.o.alloc (.cells (Cc.cells ⟨nm,A6,cd.length,c6,A7,cx.length,c7⟩) 48))).grown cS (fun q hq=>(bO oP.o.row q hq).1));have Br:=lX.o.cell;have Bt:=lX.o.frozen;clear cN cS kP;refine hK.out _ _ ⟨oU.o.cell 0,oU.o.cell 2⟩ (fun hHeld=>?_);clear hK K
   try simp only[ak]
   refine aj 15 ?_;refine aK 16 (fun K hK=>?_);go_simp;have wE:=aa (lW.o.kept lT (qW (S:=sD w) (dU _ w8) (p:=⟨w.heap.size+1+1+1,0,none⟩) (.inl rfl) (.slice A8 (es'.length+1) c8)) (fun _ h=>h) (fun g hg e=>by
    rcases e with rfl | rfl | e
    ·exact ez lW.o.row lX.o (by decide) hg
    ·exact ez lW.o.row uH.o (by decide) hg
    have:=(bO lW.o.row g (by rw[bH];exact hg)).1;omega))
   have lY:=aa (lX.o.bf 0 (.slice A8 (es'.length+1) c8));have Bu:=aa (uH.o.far (p:=⟨w.heap.size+1+1+1,0,none⟩) (by show w.heap.size+1≠w.heap.size+1+1+1;omega) (.slice A8 (es'.length+1) c8));have gK:=aa (oU.o.far (p:=⟨w.heap.size+1+1+1,0,none⟩) (by show wo.heap.size≠w.heap.size+1+1+1;have:=sI.o;omega) (.slice A8 (es'.length+1) c8));have dH:=aa (cD.o.setCell (p:=⟨w.heap.size+1+1+1,0,none⟩) (by show w.heap.size≤w.heap.size+1+1+1;omega) (.slice A8 (es'.length+1) c8));refine hK.out _ _ ⟨gK.o.cell 0,gK.o.cell 2⟩ (fun hHeld=>?_);clear hK K
   try simp only[ak]
   refine cz ?_;clear Br Bt;go_wp2_with fail;go_roundg gk';have hl:(es'++[(⟨nm,A6,cd.length,c6,A7,cx.length,c7⟩:Cc)]).length=es'.length+1:=by simp
   refine⟨j+1,A8,c8,es'++[⟨nm,A6,cd.length,c6,A7,cx.length,c7⟩],by omega,by omega,by go_num,?_,by rw[hl];exact lY.o,Bu.o,dH.o⟩;have h9:=wE.o;rw[← HC.o,Hg hlt rfl] at h9;exact h9;omega
  refine jg (by rfl) (.tmp 46) (.tmp 48) 46 46 (by rfl) wo.heap.size 64 Qm _ 3 40 uA Qn.o Qo.o Qp.o Qq.o (by rfl) (.slice (some ⟨W2.heap.size,0,none⟩) 0 cx.length) 0 [] (by rfl) Qr.o (.slice xA cx.length xc) cx.length (fU cx) (by rfl) (fe uA qV.o (DD cx)) (by omega) (by simp only[maxLen];omega) Qs.o ?_;intro A7 c7 w7 fM qT zK;have aX:=aa ((HG2.o.alloc (.cells wD 64)).grown qT (fun k hk=>by simp[Value.ownBlock] at hk;have:=HG2.o.size;omega));rw[pE] at fM;simp only[dY] at fM;have uG:=aa fM;clear fM qT zK;refine aU hK (HS.o _ aX.o) (fun hHeld=>?_);clear hK K;refine aj 12 ?_;refine bZ [1,13] ?_;refine eK (fun K hK=>?_) (eK (fun K hK=>?_) bY)
  ·have hbb:=uF.o _ aX.o;go_simp;refine hK.out _ _ (HS.o _ aX.o) (fun hHeld=>?_);clear hbb;clear hK K
   try simp only[ak]
   refine aK 13 (fun K hK=>?_);go_simp;refine aU hK (HS.o _ (aX.o.alloc _)) (fun hHeld=>?_);clear hK K;refine aK 14 (fun K hK=>?_);have HE:=aa (LA (LD.o.grow jI (aX.o.alloc (.cells (Cc.cells ⟨nm,A6,cd.length,c6,A7,cx.length,c7⟩) 48))) (uG.o.alloc (.cells (Cc.cells ⟨nm,A6,cd.length,c6,A7,cx.length,c7⟩) 48)) (A':=A') Hi.o uD.o qU.o nm);have oP:=aa ((pX.o.grow lT iI.o).grow lT (aX.o.alloc (.cells (Cc.cells ⟨nm,A6,cd.length,c6,A7,cx.length,c7⟩) 48)));have oQ:=aa (show w.heap.size≤(w7.alloc (.cells (Cc.cells ⟨nm,A6,cd.length,c6,A7,cx.length,c7⟩) 48)).heap.size from bn (HG.o.trans iI.o).size (aX.o.alloc _).size)
   refine jg (by rfl) (.tmp 39) (.tmp 51) 42 42 (by rfl) w.heap.size 48 i0 _ 3 64 mL gU.o gV.o gW.o gX.o (by rfl) (.slice A' es'.length c') es'.length (dK es') (by rfl) oP.o.row _ 1 (Cc.cells ⟨nm,A6,cd.length,c6,A7,cx.length,c7⟩).toList (by rfl) (Src.aA ⟨nm,A6,cd.length,c6,A7,cx.length,c7⟩ _ rfl) (by omega) (by simp only[maxLen];omega) oQ.o ?_;intro A8 c8 w8 cN cS kP;have lW:=aa (GR.add (f:=cF) (z:=3) lT oP.o HE.o cN cS kP);have lX:=aa ((((sG.o.grow iI.o).grow aX.o).alloc (.cells (Cc.cells ⟨nm,A6,cd.length,c6,A7,cx.length,c7⟩) 48)).own cS (fun q hq e=>by rw[bH,e] at hq;exact ez pX.o.row sG.o (by decide) hq))
   have uH:=aa ((((sH.o.grow iI.o).grow aX.o).alloc (.cells (Cc.cells ⟨nm,A6,cd.length,c6,A7,cx.length,c7⟩) 48)).own cS (fun q hq e=>by rw[bH,e] at hq;exact ez pX.o.row sH.o (by decide) hq));have oU:=aa ((((uC.o).grow aX.o).alloc (.cells (Cc.cells ⟨nm,A6,cd.length,c6,A7,cx.length,c7⟩) 48)).own cS (fun q hq e=>by rw[bH,e] at hq;have:=uD.o _ hq;omega));have cD:=aa (((HG.o.trans iI.o).trans (aX.o.alloc (.cells (Cc.cells ⟨nm,A6,cd.length,c6,A7,cx.length,c7⟩) 48))).grown cS (fun q hq=>(bO oP.o.row q hq).1));have Br:=lX.o.cell;have Bt:=lX.o.frozen;clear cN cS kP;refine hK.out _ _ ⟨oU.o.cell 0,oU.o.cell 2⟩ (fun hHeld=>?_);clear hK K
   try simp only[ak]
   refine aj 15 ?_;refine aK 16 (fun K hK=>?_);go_simp;have wE:=aa (lW.o.kept lT (qW (S:=sD w) (dU _ w8) (p:=⟨w.heap.size+1+1+1,0,none⟩) (.inl rfl) (.slice A8 (es'.length+1) c8)) (fun _ h=>h) (fun g hg e=>by
    rcases e with rfl | rfl | e
    ·exact ez lW.o.row lX.o (by decide) hg
    ·exact ez lW.o.row uH.o (by decide) hg
    have:=(bO lW.o.row g (by rw[bH];exact hg)).1;omega))
   have lY:=aa (lX.o.bf 0 (.slice A8 (es'.length+1) c8));have Bu:=aa (uH.o.far (p:=⟨w.heap.size+1+1+1,0,none⟩) (by show w.heap.size+1≠w.heap.size+1+1+1;omega) (.slice A8 (es'.length+1) c8));have gK:=aa (oU.o.far (p:=⟨w.heap.size+1+1+1,0,none⟩) (by show wo.heap.size≠w.heap.size+1+1+1;have:=sI.o;omega) (.slice A8 (es'.length+1) c8));have dH:=aa (cD.o.setCell (p:=⟨w.heap.size+1+1+1,0,none⟩) (by show w.heap.size≤w.heap.size+1+1+1;omega) (.slice A8 (es'.length+1) c8));refine hK.out _ _ ⟨gK.o.cell 0,gK.o.cell 2⟩ (fun hHeld=>?_);clear hK K
   try simp only[ak]
   refine cz ?_;clear Br Bt;go_wp2_with fail;go_roundg gk';have hl:(es'++[(⟨nm,A6,cd.length,c6,A7,cx.length,c7⟩:Cc)]).length=es'.length+1:=by simp
   refine⟨j+1,A8,c8,es'++[⟨nm,A6,cd.length,c6,A7,cx.length,c7⟩],by omega,by omega,by go_num,?_,by rw[hl];exact lY.o,Bu.o,dH.o⟩;have h9:=wE.o;rw[← HC.o,Hg hlt rfl] at h9;exact h9;omega
  go_simp;refine aU hK (HS.o _ (aX.o.alloc _)) (fun hHeld=>?_);clear hK K;refine aK 1 (fun K hK=>?_);have hbb:=uF.o _ (aX.o.alloc (.cells (Cc.cells ⟨nm,A6,cd.length,c6,A7,cx.length,c7⟩) 48));go_simp;refine hK.out _ _ (HS.o _ (aX.o.alloc (.cells (Cc.cells ⟨nm,A6,cd.length,c6,A7,cx.length,c7⟩) 48))) (fun hHeld=>?_);clear hbb;clear hK K
  try simp only[ak]
  refine aK 14 (fun K hK=>?_);have HE:=aa (LA (LD.o.grow jI (aX.o.alloc (.cells (Cc.cells ⟨nm,A6,cd.length,c6,A7,cx.length,c7⟩) 48))) (uG.o.alloc (.cells (Cc.cells ⟨nm,A6,cd.length,c6,A7,cx.length,c7⟩) 48)) (A':=A') Hi.o uD.o qU.o nm);have oP:=aa ((pX.o.grow lT iI.o).grow lT (aX.o.alloc (.cells (Cc.cells ⟨nm,A6,cd.length,c6,A7,cx.length,c7⟩) 48)));have oQ:=aa (show w.heap.size≤(w7.alloc (.cells (Cc.cells ⟨nm,A6,cd.length,c6,A7,cx.length,c7⟩) 48)).heap.size from bn (HG.o.trans iI.o).size (aX.o.alloc _).size)
  refine jg (by rfl) (.tmp 39) (.tmp 51) 42 42 (by rfl) w.heap.size 48 i0 _ 3 64 mL gU.o gV.o gW.o gX.o (by rfl) (.slice A' es'.length c') es'.length (dK es') (by rfl) oP.o.row _ 1 (Cc.cells ⟨nm,A6,cd.length,c6,A7,cx.length,c7⟩).toList (by rfl) (Src.aA ⟨nm,A6,cd.length,c6,A7,cx.length,c7⟩ _ rfl) (by omega) (by simp only[maxLen];omega) oQ.o ?_;intro A8 c8 w8 cN cS kP;have lW:=aa (GR.add (f:=cF) (z:=3) lT oP.o HE.o cN cS kP);have lX:=aa ((((sG.o.grow iI.o).grow aX.o).alloc (.cells (Cc.cells ⟨nm,A6,cd.length,c6,A7,cx.length,c7⟩) 48)).own cS (fun q hq e=>by rw[bH,e] at hq;exact ez pX.o.row sG.o (by decide) hq))
  have uH:=aa ((((sH.o.grow iI.o).grow aX.o).alloc (.cells (Cc.cells ⟨nm,A6,cd.length,c6,A7,cx.length,c7⟩) 48)).own cS (fun q hq e=>by rw[bH,e] at hq;exact ez pX.o.row sH.o (by decide) hq));have oU:=aa ((((uC.o).grow aX.o).alloc (.cells (Cc.cells ⟨nm,A6,cd.length,c6,A7,cx.length,c7⟩) 48)).own cS (fun q hq e=>by rw[bH,e] at hq;have:=uD.o _ hq;omega));have cD:=aa (((HG.o.trans iI.o).trans (aX.o.alloc (.cells (Cc.cells ⟨nm,A6,cd.length,c6,A7,cx.length,c7⟩) 48))).grown cS (fun q hq=>(bO oP.o.row q hq).1));have Br:=lX.o.cell;have Bt:=lX.o.frozen;clear cN cS kP;refine hK.out _ _ ⟨oU.o.cell 0,oU.o.cell 2⟩ (fun hHeld=>?_);clear hK K
  try simp only[ak]
  refine aj 15 ?_;refine aK 16 (fun K hK=>?_);go_simp;have wE:=aa (lW.o.kept lT (qW (S:=sD w) (dU _ w8) (p:=⟨w.heap.size+1+1+1,0,none⟩) (.inl rfl) (.slice A8 (es'.length+1) c8)) (fun _ h=>h) (fun g hg e=>by
   rcases e with rfl | rfl | e
   ·exact ez lW.o.row lX.o (by decide) hg
   ·exact ez lW.o.row uH.o (by decide) hg
   have:=(bO lW.o.row g (by rw[bH];exact hg)).1;omega))
  have lY:=aa (lX.o.bf 0 (.slice A8 (es'.length+1) c8));have Bu:=aa (uH.o.far (p:=⟨w.heap.size+1+1+1,0,none⟩) (by show w.heap.size+1≠w.heap.size+1+1+1;omega) (.slice A8 (es'.length+1) c8));have gK:=aa (oU.o.far (p:=⟨w.heap.size+1+1+1,0,none⟩) (by show wo.heap.size≠w.heap.size+1+1+1;have:=sI.o;omega) (.slice A8 (es'.length+1) c8));have dH:=aa (cD.o.setCell (p:=⟨w.heap.size+1+1+1,0,none⟩) (by show w.heap.size≤w.heap.size+1+1+1;omega) (.slice A8 (es'.length+1) c8));refine hK.out _ _ ⟨gK.o.cell 0,gK.o.cell 2⟩ (fun hHeld=>?_);clear hK K
  try simp only[ak]
  refine cz ?_;clear Br Bt;go_wp2_with fail;go_roundg gk';have hl:(es'++[(⟨nm,A6,cd.length,c6,A7,cx.length,c7⟩:Cc)]).length=es'.length+1:=by simp
  refine⟨j+1,A8,c8,es'++[⟨nm,A6,cd.length,c6,A7,cx.length,c7⟩],by omega,by omega,by go_num,?_,by rw[hl];exact lY.o,Bu.o,dH.o⟩;have h9:=wE.o;rw[← HC.o,Hg hlt rfl] at h9;exact h9;omega
 have hjl:j=st.length:=by omega
 subst hjl;have hcr:=pX.o;rw[fS] at hcr;have wE:=aa (hcr.kept lT (qW (S:=sD w) (dU _ wr) (p:=⟨w.heap.size+1,0,none⟩) (.inr (.inl rfl)) (.slice A' es'.length c')) (fun _ h=>h) (fun g hg e=>by
  rcases e with rfl | rfl | e
  ·exact ez hcr.row sG.o (by decide) hg
  ·exact ez hcr.row sH.o (by decide) hg
  have:=(bO hcr.row g (by rw[bH];exact hg)).1;omega))
 have ae1:=aa (show es'.length=st.length from oN.o);have pV:=aa sH.o;have hb1:=sH.o.cell;have hb4:=sG.o.cell;have uI:=sH.o.frozen;clear hcr;have fJ:=aa (HG.o.setCell (p:=⟨w.heap.size+1,0,none⟩) (by show w.heap.size≤w.heap.size+1;omega) (.slice A' es'.length c'));go_wp2_with fail;exact iE (aeU rfl rfl (show Blk _ _ _ #[.slice A' es'.length c'] from pV.o.bf 0 _)) rfl ⟨fJ.o,A',c',es',by rw[ae1.o],wE.o.row,wE.o.two.mono fun a b k=>lT _ _ (eD.sub fun q hq=>hq.imp id fun h=>.inr (.inr h)) a b k⟩
end
end Go.Proofs.YtndjopkdbdcmdaaGreatDoor
