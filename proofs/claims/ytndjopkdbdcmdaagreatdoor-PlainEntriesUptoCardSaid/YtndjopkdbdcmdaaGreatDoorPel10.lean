/- Part 10 of the proof of pentries_card. -/
import Derived.Test.YtndjopkdbdcmdaaGreatDoorPel8
import Derived.Deep.DeepCutAuto
set_option linter.unusedVariables false
set_option linter.unusedSimpArgs false
set_option maxRecDepth 100000
set_option maxHeartbeats 12800000
open Go.Proofs.Tryz
namespace Go.Proofs.YtndjopkdbdcmdaaGreatDoor
section
open Go.RowKit Go.Shelf
theorem Row.lit{w:World}(x:UInt8){e:Int}(he:(x.toNat:Int)=e):Row (w.alloc (.cells #[.int .u8 e] 5)) w.heap.size (.slice (some ⟨w.heap.size,0,none⟩) 1 1) 1 [x]:=
 ⟨rfl,.inr ⟨w.heap.size,1,#[.int .u8 e],rfl,av _,aH w _ _,av _,by decide,rfl,by simp[bw,he]⟩⟩
def kJ(w:World)(bs:List UInt8)(e:Ending)(w':World):Prop:=
 ∃base A c,e=.returned (.slice A bs.length c)∧w.heap.size≤base∧Row w' base (.slice A bs.length c) bs.length bs∧Grow w w'
theorem kJ.of{w w':World}{base k c:Nat}{A:Option Addr}{zs bs:List UInt8}(hk:k=bs.length)(hz:zs=bs)(hb:w.heap.size≤base)(h1:Row w' base (.slice A k c) k zs)(h2:Grow w w'):kJ w bs (.returned (.slice A k c)) w':=by
 subst hk;subst hz;exact⟨base,A,c,rfl,hb,h1,h2⟩
def Nz(x:V):Prop:=∀(w:World) (c:Cv),In w x c→x.bytes.length≤140737488355328→Calls prog 103 #[c.agg] w (kJ w x.bytes)
theorem abu(w:World)(c:Cv)(hv:In w (V.mk 1 0 [] [] []) c) :
 Calls prog 103 #[c.agg] w (kJ w (V.bytes (V.mk 1 0 [] [] []))):=by
 obtain⟨aB,aL,aF,cB,cL,cF,rfl,h1,h2,h3,h4,h5,h6,h7,h8,h9,hb0⟩:=lu hv;have hz:(w.alloc (.cells #[.int .i64 1,.int .u64 0,.slice aB 0 cB,.slice aL 0 cL,.slice aF 0 cF] 27)).heap.size=w.heap.size+1:=by simp
 have hrow:=Row.lit (w:=w.alloc (.cells #[.int .i64 1,.int .u64 0,.slice aB 0 cB,.slice aL 0 cL,.slice aF 0 cF] 27)) 1 (e:=1) rfl;rw[hz] at hrow;have dJ:=aa hrow;clear hrow hb0;go_enter func103,ntmps103;go_wp2_with fail;go_ret;exact kJ.of (by simp[iT]) (by simp[iT]) (by omega) dJ.o (((ah w).alloc _).alloc _)
theorem abv(w:World)(c:Cv)(n:Nat)(hv:In w (V.mk 2 n [] [] []) c) :
 Calls prog 103 #[c.agg] w (kJ w (V.bytes (V.mk 2 n [] [] []))):=by
 obtain⟨aB,aL,aF,cB,cL,cF,rfl,h1,h2,h3,h4,h5,h6,h7,h8,h9,hb0⟩:=lu hv;have hz:(w.alloc (.cells #[.int .i64 2,.int .u64 n,.slice aB 0 cB,.slice aL 0 cL,.slice aF 0 cF] 27)).heap.size=w.heap.size+1:=by simp
 have hrow:=Row.lit (w:=w.alloc (.cells #[.int .i64 2,.int .u64 n,.slice aB 0 cB,.slice aL 0 cL,.slice aF 0 cF] 27)) 2 (e:=2) rfl;rw[hz] at hrow;have dJ:=aa hrow;have hwr:IntKind.u8.wrap (n:Int)=(n:Int) % 256:=Jw _;clear hrow hb0;go_enter func103,ntmps103;go_wp2_with (first | (at_builtin;refine fK (ys:=[UInt8.ofNat n]) rfl (.tmp 14) (.tmp 18) _ rfl rfl (dJ.o.alloc _) _ rfl (j6 _ (Fi _) (df (by simp) _ _)) (by simp only[aU,bn];omega) (by simp) ?_;intro A2 c2 w2 hr2 hg2;have HG2:=aa (ct ((((ah w).alloc _).alloc _).alloc _) (ez (dU hg2 (dJ.o.alloc _) (by simp)) (by omega)));have bI:=aa hr2;clear hr2 hg2));go_ret;exact kJ.of (by simp[iT]) (by simp[iT]) (by omega) bI.o HG2.o
theorem abw(w:World)(c:Cv)(n:Nat)(hv:In w (V.mk 3 n [] [] []) c) :
 Calls prog 103 #[c.agg] w (kJ w (V.bytes (V.mk 3 n [] [] []))):=by
 obtain⟨aB,aL,aF,cB,cL,cF,rfl,h1,h2,h3,h4,h5,h6,h7,h8,h9,hb0⟩:=lu hv;have hz:(w.alloc (.cells #[.int .i64 3,.int .u64 n,.slice aB 0 cB,.slice aL 0 cL,.slice aF 0 cF] 27)).heap.size=w.heap.size+1:=by simp
 have hrow:=Row.lit (w:=w.alloc (.cells #[.int .i64 3,.int .u64 n,.slice aB 0 cB,.slice aL 0 cL,.slice aF 0 cF] 27)) 3 (e:=3) rfl;rw[hz] at hrow;have dJ:=aa hrow;clear hrow hb0;go_enter func103,ntmps103;go_wp2_with fail;refine(JH n 8 _ h3 (by omega)).mono ?_;rintro e w1 ⟨A1,c1,rfl,hr1,hg1⟩;have np:=aa hr1;have aN:=aa ((((ah w).alloc _).alloc _).trans hg1);have Fj:=aa (dJ.o.grow hg1);have hz1:=hg1.size;simp only[dh] at hz1;clear hr1 hg1
 go_wp2_with (first | (at_builtin;refine fK (ys:=jQ 8 n) rfl (.tmp 23) (.tmp 26) _ rfl rfl Fj.o _ rfl (ej dP np.o.reads.1 (gM _)) (by rw[jA];omega) (by omega) ?_;intro A2 c2 w2 hr2 hg2;have HG2:=aa (ct aN.o (ez (dU hg2 Fj.o (by omega)) (by omega)));have bI:=aa hr2;clear hr2 hg2));go_ret;exact kJ.of (by simp[iT,jA]) (by simp[iT]) (by omega) bI.o HG2.o
theorem abx(w:World)(c:Cv)(n:Nat)(hv:In w (V.mk 4 n [] [] []) c) :
 Calls prog 103 #[c.agg] w (kJ w (V.bytes (V.mk 4 n [] [] []))):=by
 obtain⟨aB,aL,aF,cB,cL,cF,rfl,h1,h2,h3,h4,h5,h6,h7,h8,h9,hb0⟩:=lu hv;have hz:(w.alloc (.cells #[.int .i64 4,.int .u64 n,.slice aB 0 cB,.slice aL 0 cL,.slice aF 0 cF] 27)).heap.size=w.heap.size+1:=by simp
 have hrow:=Row.lit (w:=w.alloc (.cells #[.int .i64 4,.int .u64 n,.slice aB 0 cB,.slice aL 0 cL,.slice aF 0 cF] 27)) 4 (e:=4) rfl;rw[hz] at hrow;have dJ:=aa hrow;clear hrow hb0;go_enter func103,ntmps103;go_wp2_with fail;refine(JH n 8 _ h3 (by omega)).mono ?_;rintro e w1 ⟨A1,c1,rfl,hr1,hg1⟩;have np:=aa hr1;have aN:=aa ((((ah w).alloc _).alloc _).trans hg1);have Fj:=aa (dJ.o.grow hg1);have hz1:=hg1.size;simp only[dh] at hz1;clear hr1 hg1
 go_wp2_with (first | (at_builtin;refine fK (ys:=jQ 8 n) rfl (.tmp 23) (.tmp 26) _ rfl rfl Fj.o _ rfl (ej dP np.o.reads.1 (gM _)) (by rw[jA];omega) (by omega) ?_;intro A2 c2 w2 hr2 hg2;have HG2:=aa (ct aN.o (ez (dU hg2 Fj.o (by omega)) (by omega)));have bI:=aa hr2;clear hr2 hg2));go_ret;exact kJ.of (by simp[iT,jA]) (by simp[iT]) (by omega) bI.o HG2.o
theorem aby(w:World)(c:Cv)(b:List UInt8)(hv:In w (V.mk 5 0 b [] []) c)(hm:3+b.length≤140737488355328) :
 Calls prog 103 #[c.agg] w (kJ w (V.bytes (V.mk 5 0 b [] []))):=by
 obtain⟨aB,aL,aF,cB,cL,cF,rfl,h1,h2,h3,h4,h5,h6,h7,h8,h9,hb0⟩:=lu hv;have hz:(w.alloc (.cells #[.int .i64 5,.int .u64 0,.slice aB b.length cB,.slice aL 0 cL,.slice aF 0 cF] 27)).heap.size=w.heap.size+1:=by simp
 have hrow:=Row.lit (w:=w.alloc (.cells #[.int .i64 5,.int .u64 0,.slice aB b.length cB,.slice aL 0 cL,.slice aF 0 cF] 27)) 5 (e:=5) rfl;rw[hz] at hrow;have dJ:=aa hrow;have bf:=aa ((aH w 27 #[.int .i64 5,.int .u64 0,.slice aB b.length cB,.slice aL 0 cL,.slice aF 0 cF]).alloc (.cells #[.int .u8 5] 5));have aP:=aa (((ah w).alloc (.cells #[.int .i64 5,.int .u64 0,.slice aB b.length cB,.slice aL 0 cL,.slice aF 0 cF] 27)).alloc (.cells #[.int .u8 5] 5));have NA:=aa (show ba w aB b from hb0);have hc1:=bf.o.cell 2;have hwr:IntKind.u64.wrap (b.length:Int)=(b.length:Int):=IntWalk.u64_in _ (by omega);clear hrow hb0;go_enter func103,ntmps103;go_wp2_with fail
 go_region_held3 (fun w'=>w'.cell? ⟨w.heap.size,2,none⟩=some (.slice aB b.length cB)) (first | go_keep | exact hc3 | exact hc2 | exact gf) (first | (go_at_call 152;refine(JH b.length 2 _ (by omega) (by omega)).mono ?_;rintro e w2 ⟨A2,c2,rfl,hr2,hg2⟩;have aG:=aa (bf.o.drew.grow hg2);have hc2:=aG.o.cell 2;have bI:=aa hr2;have lC:=aa (dJ.o.drew.grow hg2);have HG2:=aa (aP.o.drew.trans hg2);have hz2:=HG2.o.size;have abz:=hg2.size;clear hr2 hg2) | (refine n_ (ys:=jQ 2 b.length) (by rfl) (.tmp 31) (.tmp 36) _ (by rfl) (by rfl) lC.o _ (by rfl) (ej dP bI.o.reads.1 (gM _)) (by rw[jA];omega) (by have:=aG.o.lt;omega) ?_;intro A3 c3 w3 hr3 hg3;have aX:=aa (hg3.blk aG.o (p_ lC.o aG.o (by decide)));have hc3:=aX.o.cell 2;have d_:=aa hr3;have aJ:=aa (ct HG2.o (ez (dU hg3 lC.o (by have:=aG.o.lt;omega)) (by omega)));have sQ:=aa (NA.o.grow aJ.o);clear hr3 hg3) | (refine n_ (ys:=b) (by rfl) (.tmp 37) (.tmp 39) _ (by rfl) (by rfl) d_.o _ (by rfl) (ej dP sQ.o (gM b)) (by rw[jA];omega) (by have:=aX.o.lt;omega) ?_;intro A4 c4 w4 hr4 hg4;have au:=aa (hg4.blk aX.o (p_ d_.o aX.o (by decide)));have gf:=au.o.cell 2;have cN:=aa hr4;have bz:=aa (ct aJ.o (ez (dU hg4 d_.o (by have:=aX.o.lt;omega)) (by omega)));clear hr4 hg4))
 go_wp2_with fail;go_ret;exact kJ.of (by simp[iT,jA];omega) (by simp[iT]) (by omega) cN.o bz.o
theorem abA(w:World)(c:Cv)(b:List UInt8)(hv:In w (V.mk 6 0 b [] []) c)(hm:3+b.length≤140737488355328) :
 Calls prog 103 #[c.agg] w (kJ w (V.bytes (V.mk 6 0 b [] []))):=by
 obtain⟨aB,aL,aF,cB,cL,cF,rfl,h1,h2,h3,h4,h5,h6,h7,h8,h9,hb0⟩:=lu hv;have hz:(w.alloc (.cells #[.int .i64 6,.int .u64 0,.slice aB b.length cB,.slice aL 0 cL,.slice aF 0 cF] 27)).heap.size=w.heap.size+1:=by simp
 have hrow:=Row.lit (w:=w.alloc (.cells #[.int .i64 6,.int .u64 0,.slice aB b.length cB,.slice aL 0 cL,.slice aF 0 cF] 27)) 6 (e:=6) rfl;rw[hz] at hrow;have dJ:=aa hrow;have bf:=aa ((aH w 27 #[.int .i64 6,.int .u64 0,.slice aB b.length cB,.slice aL 0 cL,.slice aF 0 cF]).alloc (.cells #[.int .u8 6] 5));have aP:=aa (((ah w).alloc (.cells #[.int .i64 6,.int .u64 0,.slice aB b.length cB,.slice aL 0 cL,.slice aF 0 cF] 27)).alloc (.cells #[.int .u8 6] 5));have NA:=aa (show ba w aB b from hb0);have hc1:=bf.o.cell 2;have hwr:IntKind.u64.wrap (b.length:Int)=(b.length:Int):=IntWalk.u64_in _ (by omega);clear hrow hb0;go_enter func103,ntmps103;go_wp2_with fail
 go_region_held3 (fun w'=>w'.cell? ⟨w.heap.size,2,none⟩=some (.slice aB b.length cB)) (first | go_keep | exact hc3 | exact hc2 | exact gf) (first | (go_at_call 152;refine(JH b.length 2 _ (by omega) (by omega)).mono ?_;rintro e w2 ⟨A2,c2,rfl,hr2,hg2⟩;have aG:=aa (bf.o.drew.grow hg2);have hc2:=aG.o.cell 2;have bI:=aa hr2;have lC:=aa (dJ.o.drew.grow hg2);have HG2:=aa (aP.o.drew.trans hg2);have hz2:=HG2.o.size;have abz:=hg2.size;clear hr2 hg2) | (refine n_ (ys:=jQ 2 b.length) (by rfl) (.tmp 31) (.tmp 36) _ (by rfl) (by rfl) lC.o _ (by rfl) (ej dP bI.o.reads.1 (gM _)) (by rw[jA];omega) (by have:=aG.o.lt;omega) ?_;intro A3 c3 w3 hr3 hg3;have aX:=aa (hg3.blk aG.o (p_ lC.o aG.o (by decide)));have hc3:=aX.o.cell 2;have d_:=aa hr3;have aJ:=aa (ct HG2.o (ez (dU hg3 lC.o (by have:=aG.o.lt;omega)) (by omega)));have sQ:=aa (NA.o.grow aJ.o);clear hr3 hg3) | (refine n_ (ys:=b) (by rfl) (.tmp 37) (.tmp 39) _ (by rfl) (by rfl) d_.o _ (by rfl) (ej dP sQ.o (gM b)) (by rw[jA];omega) (by have:=aX.o.lt;omega) ?_;intro A4 c4 w4 hr4 hg4;have au:=aa (hg4.blk aX.o (p_ d_.o aX.o (by decide)));have gf:=au.o.cell 2;have cN:=aa hr4;have bz:=aa (ct aJ.o (ez (dU hg4 d_.o (by have:=aX.o.lt;omega)) (by omega)));clear hr4 hg4))
 go_wp2_with fail;go_ret;exact kJ.of (by simp[iT,jA];omega) (by simp[iT]) (by omega) cN.o bz.o
theorem abB(w:World)(c:Cv)(l:List V)(hl:∀x∈l,Nz x)(hv:In w (V.mk 7 0 [] l []) c)(hm:2+(l.map V.bytes).flatten.length≤140737488355328) :
 Calls prog 103 #[c.agg] w (kJ w (V.bytes (V.mk 7 0 [] l []))):=by
 have Hl:=aa hl;clear hl;have HV:=aa hv;obtain⟨aB,aL,aF,cB,cL,cF,rfl,h1,h2,h3,h4,h5,h6,h7,h8,h9,hb0⟩:=lu hv;have hz:(w.alloc (.cells #[.int .i64 7,.int .u64 0,.slice aB 0 cB,.slice aL l.length cL,.slice aF 0 cF] 27)).heap.size=w.heap.size+1:=by simp
 have hrow:=Row.lit (w:=w.alloc (.cells #[.int .i64 7,.int .u64 0,.slice aB 0 cB,.slice aL l.length cL,.slice aF 0 cF] 27)) 7 (e:=7) rfl;rw[hz] at hrow;have dJ:=aa hrow;have bf:=aa ((aH w 27 #[.int .i64 7,.int .u64 0,.slice aB 0 cB,.slice aL l.length cL,.slice aF 0 cF]).alloc (.cells #[.int .u8 7] 5));clear hrow hb0 hv;go_enter func103,ntmps103
 go_wp2_with (first | (at_builtin;refine fK (ys:=[UInt8.ofNat l.length]) rfl (.tmp 43) (.tmp 48) _ rfl rfl (dJ.o.alloc _) _ rfl (j6 _ (Fi _) (df (by simp) _ _)) (by simp only[aU,bn];omega) (by simp) ?_;intro A2 c2 w2 hr2 hg2;have HG2:=aa (ct ((((ah w).alloc _).alloc _).alloc _) (ez (dU hg2 (dJ.o.alloc _) (by simp)) (by omega)));have aG:=aa (hg2.blk (bf.o.alloc _) (p_ dJ.o bf.o (by decide)));have bI:=aa hr2;clear hr2 hg2));go_loopg [3,4] (l.length+1) (fun gk v' i wr=>∃(j:Nat) (A':Option Addr) (c':Nat),j≤l.length∧gk+j=l.length+1∧i=.int .i64 j∧v'=.slice A' (2+((l.take j).map V.bytes).flatten.length) c' ∧
  Row wr (w.heap.size+1) (.slice A' (2+((l.take j).map V.bytes).flatten.length) c') (2+((l.take j).map V.bytes).flatten.length) (7::UInt8.ofNat l.length::((l.take j).map V.bytes).flatten)∧Grow w wr∧w.heap.size+1≤wr.heap.size∧Blk wr w.heap.size 27 #[.int .i64 7,.int .u64 0,.slice aB 0 cB,.slice aL l.length cL,.slice aF 0 cF])
 exact⟨0,A2,c2,by omega,by omega,rfl,by simp,by simpa using bI.o,HG2.o,by have:=aG.o.lt;omega,aG.o⟩;obtain⟨j,A',c',hj,hg,rfl,rfl,hr,hgr,sS,hB⟩:=hrel;obtain⟨gk',rfl⟩:=bP gk (by omega);have hc:=hB.cell;have l8:=aa hB;by_cases hlt:j<l.length
 ·have fM:=HV.o.grow hgr;obtain⟨bk,o,x,ha,hbk,e0,e1,e2,e3,e4,hx⟩:=eG.fJ fM j hlt;dsimp only at ha;subst ha;have bG:=yr V.bytes l j hlt;have hm2:=cT List.length bG;rw[bD] at hm2;have hle:=yt V.bytes l (j+1);rw[hm2] at hle;have iC:=aa bG;have l_:=aa hm2;have pB:=aa hr;have ru:=aa hgr;have HX:=aa hx;obtain⟨S,hS⟩:∃S,S=((l.take j).map V.bytes).flatten:=⟨_,rfl⟩;rw[← hS] at hle pB iC l_ ⊢;clear hr hgr hx fM bG hm2 hS hB;go_wp2_with fail;refine(Hl.o _ (aY hlt) _ x HX.o (by omega)).mono ?_;rintro e w3 ⟨alx,A3,c3,rfl,hb3,hr3,hg3⟩;have aJ:=aa (ru.o.trans hg3);have d_:=aa hr3;have lC:=aa (pB.o.grow hg3);have fR:=l8.o.grow hg3;have aX:=aa fR;have hc3:=fR.cell;have hz3:=hg3.size;clear hr3 hg3 e0 e1 e2 e3 e4 hc fR
  go_wp2_with (first | (at_builtin;refine fK (ys:=l[j].bytes) rfl (.tmp 57) (.tmp 63) _ rfl rfl lC.o _ rfl (ej dP d_.o.reads.1 (gM _)) (by omega) (by omega) ?_;intro A4 c4 w4 hr4 hg4;have bz:=aa (ct aJ.o (ez (dU hg4 lC.o (by omega)) (by omega)));have au:=aa (hg4.blk aX.o (p_ lC.o aX.o (by decide)));have cN:=aa hr4;have wP:=hg4.size;clear hr4 hg4 hc3));go_roundg gk';have e1:2+S.length+l[j].bytes.length=2+((l.take (j+1)).map V.bytes).flatten.length:=by rw[l_.o];omega
  refine⟨j+1,A4,c4,by omega,by omega,by go_num,by rw[e1],?_,bz.o,by omega,au.o⟩;rw[← e1,iC.o];simpa using cN.o;omega
 obtain rfl:j=l.length:=by omega
 rw[fC] at hr ⊢;have pB:=aa hr;have ru:=aa hgr;clear hr hgr hg hlt;go_wp2_with fail;go_ret;exact kJ.of (by rw[Cy];simp;omega) (by rw[Cy]) (by omega) pB.o ru.o
theorem abC(w:World)(c:Cv)(f:List (ByteArray×V))(hl:∀x∈f,Nz x.2)(hv:In w (V.mk 8 0 [] [] f) c)(hm:2+(f.map fun x:ByteArray×V=>V.item x.1 x.2.bytes).flatten.length≤140737488355328) :
 Calls prog 103 #[c.agg] w (kJ w (V.bytes (V.mk 8 0 [] [] f))):=by
 have Hl:=aa hl;clear hl;have HV:=aa hv;obtain⟨aB,aL,aF,cB,cL,cF,rfl,h1,h2,h3,h4,h5,h6,h7,h8,h9,hb0⟩:=lu hv;have hz:(w.alloc (.cells #[.int .i64 8,.int .u64 0,.slice aB 0 cB,.slice aL 0 cL,.slice aF f.length cF] 27)).heap.size=w.heap.size+1:=by simp
 have hrow:=Row.lit (w:=w.alloc (.cells #[.int .i64 8,.int .u64 0,.slice aB 0 cB,.slice aL 0 cL,.slice aF f.length cF] 27)) 8 (e:=8) rfl;rw[hz] at hrow;have dJ:=aa hrow;have bf:=aa ((aH w 27 #[.int .i64 8,.int .u64 0,.slice aB 0 cB,.slice aL 0 cL,.slice aF f.length cF]).alloc (.cells #[.int .u8 8] 5));clear hrow hb0 hv;go_enter func103,ntmps103
 go_wp2_with (first | (at_builtin;refine fK (ys:=[UInt8.ofNat f.length]) rfl (.tmp 67) (.tmp 72) _ rfl rfl (dJ.o.alloc _) _ rfl (j6 _ (Fi _) (df (by simp) _ _)) (by simp only[aU,bn];omega) (by simp) ?_;intro A2 c2 w2 hr2 hg2;have HG2:=aa (ct ((((ah w).alloc _).alloc _).alloc _) (ez (dU hg2 (dJ.o.alloc _) (by simp)) (by omega)));have aG:=aa (hg2.blk (bf.o.alloc _) (p_ dJ.o bf.o (by decide)));have bI:=aa hr2;clear hr2 hg2));go_loopg [3,5] (f.length+1) (fun gk v' i wr=>∃(j:Nat) (A':Option Addr) (c':Nat),j≤f.length∧gk+j=f.length+1∧i=.int .i64 j∧v'=.slice A' (2+((f.take j).map fun x:ByteArray×V=>V.item x.1 x.2.bytes).flatten.length) c' ∧
  Row wr (w.heap.size+1) (.slice A' (2+((f.take j).map fun x:ByteArray×V=>V.item x.1 x.2.bytes).flatten.length) c') (2+((f.take j).map fun x:ByteArray×V=>V.item x.1 x.2.bytes).flatten.length) (8::UInt8.ofNat f.length::((f.take j).map fun x:ByteArray×V=>V.item x.1 x.2.bytes).flatten)∧Grow w wr∧w.heap.size+1≤wr.heap.size∧Blk wr w.heap.size 27 #[.int .i64 8,.int .u64 0,.slice aB 0 cB,.slice aL 0 cL,.slice aF f.length cF])
 exact⟨0,A2,c2,by omega,by omega,rfl,by simp,by simpa using bI.o,HG2.o,by have:=aG.o.lt;omega,aG.o⟩;obtain⟨j,A',c',hj,hg,rfl,rfl,hr,hgr,sS,hB⟩:=hrel;obtain⟨gk',rfl⟩:=bP gk (by omega);have hc:=hB.cell;have l8:=aa hB;by_cases hlt:j<f.length
 ·have fM:=HV.o.grow hgr;obtain⟨bk,o,x,ha,hbk,es,iA,e0,e1,e2,e3,e4,hx⟩:=eG.iR fM j hlt;obtain⟨wK,o',x',ha',vd,es',_⟩:=eG.iR HV.o j hlt;dsimp only at ha ha';subst ha;injection ha' with ha';injection ha' with ha1 ha2;subst ha1 ha2;have bG:=yr (fun x:ByteArray×V=>V.item x.1 x.2.bytes) f j hlt;have hm2:=cT List.length bG;rw[bD,Cz] at hm2;have hle:=yt (fun x:ByteArray×V=>V.item x.1 x.2.bytes) f (j+1);rw[hm2] at hle;have iC:=aa bG;have l_:=aa hm2;have pB:=aa hr;have ru:=aa hgr;have HX:=aa hx;obtain⟨S,hS⟩:∃S,S=((f.take j).map fun x:ByteArray×V=>V.item x.1 x.2.bytes).flatten:=⟨_,rfl⟩;rw[← hS] at hle pB iC l_ ⊢;have HF:=aa (Hl.o _ (aY hlt));obtain⟨s,hs⟩:∃s,s=f[j].1:=⟨_,rfl⟩
  obtain⟨y,hy⟩:∃y,y=f[j].2:=⟨_,rfl⟩;have qb:=aa es';rw[← hs] at es iA qb iC l_ hle;rw[← hy] at HX iC l_ hle HF;clear hr hgr hx fM bG hm2 hS hB hs es';have hwr:IntKind.u8.wrap (s.size:Int)=(s.size:Int) % 256:=Jw _;have hcb:=hc 4;go_wp2_with fail
  go_region_held3 (fun w'=>w'.cell? ⟨w.heap.size,4,none⟩=some (.slice (some ⟨bk,o,none⟩) f.length cF)∧w'.cell? ⟨bk,o+j*6,none⟩=some (.string s)) (first | go_keep | exact⟨gf,Ag⟩ | exact⟨hc3,hd3⟩) (first | (refine n_ (ys:=[UInt8.ofNat s.size]) (by rfl) (.tmp 81) (.tmp 90) _ (by rfl) (by rfl) (pB.o.drew.alloc _) _ (by rfl) (j6 _ (Fi _) (df (by simp) _ _)) (by simp only[aU,bn];omega) (by simp;omega) ?_;intro A3 c3 w3 hr3 hg3;have aX:=aa (hg3.blk (l8.o.drew.alloc _) (p_ pB.o l8.o (by decide)));have hc3:=aX.o.cell 4;have aJ:=aa (ct (ru.o.drew.alloc _) (ez (dU hg3 (pB.o.drew.alloc _) (by simp;omega)) (by omega)));have d_:=aa hr3;have hd3:w3.cell? ⟨bk,o+j*6,none⟩=some (.string s):=(Grow.below aJ.o |>.cell vd).trans qb.o;clear hr3 hg3) | (refine n_ (ys:=s.data.toList) (by rfl) (.tmp 91) (.tmp 97) _ (by rfl) (by rfl) d_.o _ (by rfl) (abD s) (by simp only[aU,bn,ye];have:s.data.size=s.size:=rfl;omega) (by have:=aX.o.lt;omega) ?_;intro A4 c4 w4 hr4 hg4;have au:=aa (hg4.blk aX.o (p_ d_.o aX.o (by decide)));have gf:=au.o.cell 4;have bz:=aa (ct aJ.o (ez (dU hg4 d_.o (by have:=aX.o.lt;omega)) (by omega)));have cN:=aa hr4;have Ag:w4.cell? ⟨bk,o+j*6,none⟩=some (.string s):=(Grow.below bz.o |>.cell vd).trans qb.o;clear hr4 hg4))
  have abE:=au.o.cell;have aly:=au.o.lt;obtain⟨vh,o2,y2,ha2,hbk2,NB,_,f0,f1,f2,f3,f4,hx2⟩:=eG.iR (HV.o.grow bz.o) j hlt;injection ha2 with ha2;injection ha2 with hz1 hz2;subst hz1 hz2;rw[← hy] at hx2;have HX2:=aa hx2;have hsz:s.data.toList.length=s.size:=by rw[ye];rfl
  have hr4:=cN.o;rw[show 2+S.length+[UInt8.ofNat s.size].length+s.data.toList.length=2+S.length+1+s.size by rw[hsz];rfl] at hr4;have HRf:=aa hr4;clear hx2 hy hr4 cN hsz;go_wp2_with fail;refine(HF.o _ y2 HX2.o (by omega)).mono ?_;rintro e w5 ⟨alz,A5,c5,rfl,dt,gZ,cr⟩;have bC:=aa (sP bz.o cr);have gP:=aa gZ;have lC:=aa (HRf.o.grow cr);have vk:=au.o.grow cr;have ay:=aa vk;have alA:=cr.size;clear gZ cr f0 f1 f2 f3 f4 abE vk
  go_wp2_with (first | (at_builtin;refine fK (ys:=y.bytes) rfl (.tmp 99) (.tmp 106) _ rfl rfl lC.o _ rfl (ej dP gP.o.reads.1 (gM _)) (by omega) (by omega) ?_;intro A6 c6 w6 mI bU;have bR:=aa (ct bC.o (ez (dU bU lC.o (by omega)) (by omega)));have ma:=aa (bU.blk ay.o (p_ lC.o ay.o (by decide)));have wQ:=aa mI;have CN:=bU.size;clear mI bU));go_roundg gk';have e2:2+S.length+1+s.size+y.bytes.length=2+((f.take (j+1)).map fun x=>V.item x.1 x.2.bytes).flatten.length:=by rw[l_.o];omega
  refine⟨j+1,A6,c6,by omega,by omega,by go_num,by rw[e2],?_,bR.o,by omega,ma.o⟩;rw[← e2,iC.o];simpa [V.item] using wQ.o;omega
 obtain rfl:j=f.length:=by omega
 rw[fC] at hr ⊢;have pB:=aa hr;have ru:=aa hgr;clear hr hgr hg hlt;go_wp2_with fail;go_ret;exact kJ.of (by rw[zZ];simp;omega) (by rw[zZ]) (by omega) pB.o ru.o
theorem abF(v:V):v.formed=true→Nz v:=by
 induction v using V.ind with
 | h k n b l f hl hf =>
  intro fh w c hv hm;rcases u_ fh with h | ⟨_,_,h⟩ | ⟨_,h⟩ | ⟨_,h⟩ | ⟨_,_,h⟩ | ⟨_,h⟩ | ⟨l',hl',h⟩ | ⟨f',hf',hnd,h⟩
  ·cases h;exact abu w c hv
  ·cases h;exact abv w c _ hv
  ·cases h;exact abw w c _ hv
  ·cases h;exact abx w c _ hv
  ·cases h;exact aby w c _ hv (by rw[iT] at hm;simp[jA] at hm;omega)
  ·cases h;exact abA w c _ hv (by rw[iT] at hm;simp[jA] at hm;omega)
  ·cases h
   exact abB w c _ (fun x hx=>hl x hx (hl' x hx)) hv (by rw[Cy] at hm;simp only[aU] at hm;omega)
  cases h
  exact abC w c _ (fun x hx=>hf x hx (hf' x hx).2) hv (by rw[zZ] at hm;simp only[aU] at hm;omega)
end
abbrev wR:=@Row.lit
abbrev alB:=@kJ.of
section
open Go.RowKit Go.Shelf
theorem abG(v:V):∀(w:World) (c:Cv),In w v c →
 Calls prog 101 #[c.agg] w fun e w'=>e=.returned (.bool (decide (64<v.most)))∧Grow w w':=by
 induction v using V.ind with
 | h k n b l f hl hf =>
  intro w c hv;have HV:=aa hv;obtain⟨aB,aL,aF,cB,cL,cF,rfl,h1,h2,h3,h4,h5,h6,h7,h8,h9,hb⟩:=hv.open;have Hl:=aa hl;have Hf:=aa hf;obtain⟨iD,eH⟩:∃A,decide (64<(V.mk k n b l f).most)=A:=⟨_,rfl⟩;rw[eH];have HA:=aa eH;have JO:(64<l.length∨64<f.length∨(∃x∈l,64<x.most)∨∃x∈f,64<x.2.most)→iD=true:=fun h=>by
   rw[← eH,iy];have:=JP k n b l f 64;rcases dH 64 (V.mk k n b l f).most with q | q
   ·exact q
   obtain⟨a1,a2,a3,a4⟩:=this.1 q;rcases h with h | h | ⟨x,hx,h⟩ | ⟨x,hx,h⟩
   ·omega
   ·omega
   ·have:=a3 x hx;omega
   have:=a4 x hx;omega
  have HY:=aa JO;clear hb h1 h2 h3 hl hf h4 h5 hv eH JO;by_cases b1:64<l.length
  ·obtain rfl:=HY.o (.inl b1);go_enter func101,ntmps101;go_wp2_with fail;go_ret;exact⟨rfl,(ah w).alloc _⟩
  by_cases b2:64<f.length
  ·obtain rfl:=HY.o (.inr (.inl b2));go_enter func101,ntmps101;go_wp2_with fail;go_ret;exact⟨rfl,(ah w).alloc _⟩
  go_enter func101,ntmps101;go_wp2_with fail;go_loopg [3] (l.length+1) (fun gk i wr=>∃j:Nat,j≤l.length∧gk+j=l.length+1∧i=.int .i64 j∧(∀t (h:t<l.length),t<j→l[t].most≤64) ∧
   Grow w wr∧Blk wr w.heap.size 27 (Cv.cells ⟨k,(n:Int),aB,b.length,cB,aL,l.length,cL,aF,f.length,cF⟩))
  exact⟨0,by omega,by omega,rfl,fun t _ h=>absurd h (by omega),(ah w).alloc _,aH _ _ _⟩;obtain⟨j,hj,hg,rfl,ht,hw,hB⟩:=hrel;obtain⟨gk',rfl⟩:=bP gk (by omega);have hc:=hB.cell;have hBl:=hB.lt;have pC:=aa ht;have HW:=aa hw;have HB:=aa hB;by_cases hlt:j<l.length
  ·obtain⟨bk,o,x,ha,hbk,e0,e1,e2,e3,e4,hx⟩:=In.fJ (HV.o.grow hw) j hlt;dsimp only at ha;subst ha;have HX:=aa hx;clear hw hx hB ht;go_wp2_with fail;refine(Hl.o _ (aY hlt) _ x HX.o).mono ?_;rintro e w' ⟨rfl,hb'⟩;have hgr:=aa hb';clear hb' e0 e1 e2 e3 e4 hc;obtain⟨R,hR⟩:∃R,decide (64<l[j].most)=R:=⟨_,rfl⟩;rw[hR];have HR:=aa hR;clear hR
   cases R
   ·go_wp2_with fail;go_roundg gk';refine⟨j+1,by omega,by omega,by go_num,fun t h1 h2=>?_,HW.o.trans hgr.o,HB.o.grow hgr.o⟩;rcases dH t j with h | h
    ·exact pC.o t h1 h
    obtain rfl:t=j:=by omega
    have:=of_decide_eq_false HR.o;omega;omega
   go_wp2_with fail;go_ret;refine⟨dm (HY.o (.inr (.inr (.inl ⟨l[j],aY hlt,zL HR.o⟩)))).symm,HW.o.trans hgr.o⟩
  obtain rfl:j=l.length:=by omega
  clear hw hB hlt hg ht;go_wp2_with fail;go_loopg [4] (f.length+1) (fun gk i wr=>∃j:Nat,j≤f.length∧gk+j=f.length+1∧i=.int .i64 j∧(∀t (h:t<f.length),t<j→f[t].2.most≤64) ∧
   Grow w wr∧Blk wr w.heap.size 27 (Cv.cells ⟨k,(n:Int),aB,b.length,cB,aL,l.length,cL,aF,f.length,cF⟩))
  exact⟨0,by omega,by omega,rfl,fun t _ h=>absurd h (by omega),HW.o,HB.o⟩;obtain⟨j,hj,hg,rfl,ht,hw,hB⟩:=hrel;obtain⟨gk',rfl⟩:=bP gk (by omega);clear hc hBl;have hc:=hB.cell;have hBl:=hB.lt;have Ue:=aa ht;have Ah:=aa hw;have NC:=aa hB;by_cases hlt:j<f.length
  ·obtain⟨bk,o,x,ha,hbk,es,iA,e0,e1,e2,e3,e4,hx⟩:=In.iR (HV.o.grow hw) j hlt;dsimp only at ha;subst ha;have HX:=aa hx;clear hw hx hB ht es;go_wp2_with fail;refine(Hf.o _ (aY hlt) _ x HX.o).mono ?_;rintro e w' ⟨rfl,hb'⟩;have hgr:=aa hb';clear hb' e0 e1 e2 e3 e4 hc;obtain⟨R,hR⟩:∃R,decide (64<f[j].2.most)=R:=⟨_,rfl⟩;rw[hR];have HR:=aa hR;clear hR
   cases R
   ·go_wp2_with fail;go_roundg gk';refine⟨j+1,by omega,by omega,by go_num,fun t h1 h2=>?_,Ah.o.trans hgr.o,NC.o.grow hgr.o⟩;rcases dH t j with h | h
    ·exact Ue.o t h1 h
    obtain rfl:t=j:=by omega
    have:=of_decide_eq_false HR.o;omega;omega
   go_wp2_with fail;go_ret;refine⟨dm (HY.o (.inr (.inr (.inr ⟨f[j],aY hlt,zL HR.o⟩)))).symm,Ah.o.trans hgr.o⟩
  obtain rfl:j=f.length:=by omega
  have hno:iD=false:=by
   rw[← HA.o,jO];have:=(JP k n b l f 64).2 ⟨by omega,by omega,fun x hx=>?_,fun x hx=>?_⟩
   ·omega
   ·obtain⟨i,hi,rfl⟩:=sJ.1 hx;exact pC.o i hi hi
   obtain⟨i,hi,rfl⟩:=sJ.1 hx;exact Ue.o i hi hi
  subst hno;clear hw hB hlt hg ht;go_wp2_with fail;go_ret;exact⟨rfl,Ah.o⟩
theorem abH(v:V):∀(w:World) (c:Cv),v.formed=true→v.depth≤1099511627776→In w v c →
 Calls prog 102 #[c.agg] w fun e w'=>e=.returned (.int .i64 v.depth)∧Grow w w':=by
 induction v using V.ind with
 | h k n b l f hl hf =>
  intro w c fh qc hv;have HV:=aa hv;obtain⟨aB,aL,aF,cB,cL,cF,rfl,h1,h2,h3,h4,h5,h6,h7,h8,h9,hb⟩:=hv.open;have Ai:=fh;rw[rh] at Ai;simp only[gV,nU] at Ai;obtain⟨⟨⟨ho,hfl⟩,l7⟩,_⟩:=Ai;simp only[V.own,gV,iy] at ho;have CO:1≤k∧k≤8:=by omega
  have dE:∀x∈l,x.depth≤1099511627776:=fun x hx=>a_ (V.Nh hx) qc
  have Fk:∀x∈f,x.2.depth≤1099511627776:=fun x hx=>a_ (V.Ni hx) qc
  have od:=aa dE;have Fl:=aa Fk;have qd:=aa hfl;have j_:=aa l7;have Hl:=aa hl;have Hf:=aa hf;obtain⟨K,hK⟩:∃K,K=(V.mk k n b l f).depth:=⟨_,rfl⟩;rw[← hK] at qc ⊢;have Fm:=hK;rw[V.yu] at Fm;obtain⟨M,hM⟩:∃M,M=(f.map fun x=>x.2.depth).foldl max ((l.map V.depth).foldl max 0):=⟨_,rfl⟩;rw[← hM] at Fm;have HM:=aa hM;have Uf:M≤1099511627776:=by split at Fm<;>omega
  have HK:=aa Fm;clear hb h1 h2 h3 hl hf h4 h5 hv fh ho hfl l7 dE Fk hK Fm hM;go_enter func102,ntmps102;go_wp2_with fail;go_loopg [3,4] (l.length+1) (fun gk m i wr=>∃j:Nat,j≤l.length∧gk+j=l.length+1∧i=.int .i64 j∧m=.int .i64 ((((l.take j).map V.depth).foldl max 0:Nat):Int) ∧
   Grow w wr∧Blk wr w.heap.size 27 (Cv.cells ⟨k,(n:Int),aB,b.length,cB,aL,l.length,cL,aF,f.length,cF⟩))
  exact⟨0,by omega,by omega,rfl,by simp,(ah w).alloc _,aH _ _ _⟩;obtain⟨j,hj,hg,rfl,rfl,hw,hB⟩:=hrel;obtain⟨gk',rfl⟩:=bP gk (by omega);have hc:=hB.cell;have hBl:=hB.lt;have HW:=aa hw;have HB:=aa hB;by_cases hlt:j<l.length
  ·obtain⟨bk,o,x,ha,hbk,e0,e1,e2,e3,e4,hx⟩:=In.fJ (HV.o.grow hw) j hlt;dsimp only at ha;subst ha;have HX:=aa hx;have hm:=Cu V.depth l 0 j hlt;have iC:=aa hm;clear hw hx hB hm;go_wp2_with fail;refine(Hl.o _ (aY hlt) _ x (qd.o _ (aY hlt)) (od.o _ (aY hlt)) HX.o).mono ?_;rintro e w' ⟨rfl,hb'⟩;have hgr:=aa hb';clear hb' e0 e1 e2 e3 e4 hc;go_wp2_with fail
   all_goals
    go_roundg gk'
    exact⟨j+1,by omega,by omega,by go_num,by rw[iC.o];go_num,HW.o.trans hgr.o,HB.o.grow hgr.o⟩
    omega
  obtain rfl:j=l.length:=by omega
  rw[fC];clear hw hB hlt hg;go_wp2_with fail;go_loopg [3,5] (f.length+1) (fun gk m i wr=>∃j:Nat,j≤f.length∧gk+j=f.length+1∧i=.int .i64 j∧m=.int .i64 ((((f.take j).map fun x=>x.2.depth).foldl max ((l.map V.depth).foldl max 0):Nat):Int) ∧
   Grow w wr∧Blk wr w.heap.size 27 (Cv.cells ⟨k,(n:Int),aB,b.length,cB,aL,l.length,cL,aF,f.length,cF⟩))
  exact⟨0,by omega,by omega,rfl,by simp,HW.o,HB.o⟩;obtain⟨j,hj,hg,rfl,rfl,hw,hB⟩:=hrel;obtain⟨gk',rfl⟩:=bP gk (by omega);clear hc hBl;have hc:=hB.cell;have hBl:=hB.lt;have Ah:=aa hw;have NC:=aa hB;by_cases hlt:j<f.length
  ·obtain⟨bk,o,x,ha,hbk,es,iA,e0,e1,e2,e3,e4,hx⟩:=In.iR (HV.o.grow hw) j hlt;dsimp only at ha;subst ha;have HX:=aa hx;have hm:=Cu (fun x:ByteArray×V=>x.2.depth) f ((l.map V.depth).foldl max 0) j hlt;have iC:=aa hm;have abI:=aa (j_.o _ (aY hlt)).2;clear hw hx hB hm es;go_wp2_with fail;refine(Hf.o _ (aY hlt) _ x abI.o (Fl.o _ (aY hlt)) HX.o).mono ?_;rintro e w' ⟨rfl,hb'⟩;have hgr:=aa hb';clear hb' e0 e1 e2 e3 e4 hc;go_wp2_with fail
   all_goals
    go_roundg gk'
    exact⟨j+1,by omega,by omega,by go_num,by rw[iC.o];go_num,Ah.o.trans hgr.o,NC.o.grow hgr.o⟩
    omega
  obtain rfl:j=f.length:=by omega
  rw[fC,← HM.o];clear hw hB hlt hg;by_cases hk:7≤k
  ·have ND:K=1+M:=by rw[HK.o,ar (by omega)]
   go_wp2_with fail;go_ret;exact⟨dI (by rw[ND];omega),Ah.o⟩
  have ND:K=M:=by rw[HK.o,ai (by omega),dg]
  go_wp2_with fail;go_ret;exact⟨dI (by first | rfl | rw[ND]),Ah.o⟩
theorem Ug(v:V)(w:World)(c:Cv)(hd:v.depth≤1099511627776)(hsz:v.formed=true→v.bytes.length≤140737488355328)(hv:In w v c) :
 Calls prog 55 #[c.agg] w fun e w'=>e=.returned (.int .i64 v.good)∧Grow w w':=by
 have HV:=aa hv;have gq:=aa hsz;obtain⟨iD,eH⟩:∃A,v.good=A:=⟨_,rfl⟩;rw[eH];have HA:=aa eH;clear hv eH hsz;have bf:=aa (aH w 27 c.cells);have aP:=aa ((ah w).alloc (.cells c.cells 27));go_enter func55,ntmps55;go_wp2_with fail;refine(abJ v _ c (HV.o.grow aP.o)).mono ?_;rintro e w1 ⟨rfl,hg1⟩;have eX:=bf.o.grow hg1;have hc:=eX.cell;have hBl:=eX.lt;have aQ:=aa eX;have aN:=aa (aP.o.trans hg1);clear hg1 eX;obtain⟨R,hR⟩:∃R,v.formed=R:=⟨_,rfl⟩;rw[hR];have HR:=aa hR;clear hR
 cases R
 ·go_wp2_with fail;go_ret;exact⟨dI (by rw[← HA.o,V.good,ar HR.o]),aN.o⟩
 go_wp2_with fail;refine(abG v _ c (HV.o.grow aN.o)).mono ?_;rintro e w2 ⟨rfl,hg2⟩;have dK:=aQ.o.grow hg2;clear hc hBl;have hc:=dK.cell;have hBl:=dK.lt;have aG:=aa dK;have HG2:=aa (aN.o.trans hg2);clear hg2 dK;by_cases m1:64<v.most
 ·rw[bT m1];go_wp2_with fail;go_ret;exact⟨dI (by rw[← HA.o,V.good,ai (by rw[HR.o];decide),ar m1]),HG2.o⟩
 rw[bY m1];obtain⟨D,hD⟩:∃D,v.depth=D:=⟨_,rfl⟩;have HD:=aa hD;go_wp2_with fail;refine(abH v _ c HR.o hd (HV.o.grow HG2.o)).mono ?_;rintro e w3 ⟨rfl,hg3⟩;have fR:=aG.o.grow hg3;clear hc hBl;have hc:=fR.cell;have hBl:=fR.lt;have aX:=aa fR;have aJ:=aa (HG2.o.trans hg3);clear hg3 fR;rw[hD];clear hD;by_cases d1:16<D
 ·go_wp2_with fail;go_ret;exact⟨dI (by rw[← HA.o,V.good,ai (by rw[HR.o];decide),ai m1,ar (by rw[HD.o];exact d1)]),aJ.o⟩
 have hS:=gq.o HR.o;go_wp2_with fail;refine(abF v HR.o _ c (HV.o.grow aJ.o) hS).mono ?_;rintro e w4 ⟨base,A4,c4,rfl,hb4,hr4,hg4⟩;have bz:=aa (aJ.o.trans hg4);clear hg4 hr4 hc hBl;obtain⟨S,NF⟩:∃S,v.bytes.length=S:=⟨_,rfl⟩;have HS:=aa NF;rw[NF];clear NF hS;by_cases s1:4096<S
 ·go_wp2_with fail;go_ret;exact⟨dI (by rw[← HA.o,V.good,ai (by rw[HR.o];decide),ai m1,ai (by rw[HD.o];exact d1),ar (by rw[HS.o];exact s1)]),bz.o⟩
 go_wp2_with fail;go_ret;exact⟨dI (by rw[← HA.o,V.good,ai (by rw[HR.o];decide),ai m1,ai (by rw[HD.o];exact d1),ai (by rw[HS.o];exact s1)]),bz.o⟩
theorem Fp(v:V)(w:World)(c:Cv)(eP:v.count≤20000)(hsz:v.formed=true→v.bytes.length≤140737488355328)(hv:In w v c) :
 Calls prog 55 #[c.agg] w fun e w'=>e=.returned (.int .i64 v.good)∧Grow w w':=Ug v w c (CP eP) hsz hv
end
section
open Go.RowKit Go.Shelf
def Aj(x y:V):Prop:=∀(w:World) (c c':Cv),In w x c→In w y c' →
 Calls prog 113 #[c.agg,c'.agg] w fun e w'=>e=.returned (.int .i64 (V.cmp x y))∧Grow w w'
theorem Uh(s:ByteArray):∃(cap:World→Nat) (BW:World→World),∀w,(convert 9 23 (.string s)).run prog w=.ok (.slice (some ⟨w.heap.size,0,none⟩) s.size (cap w)) (BW w)∧Grow w (BW w)∧ba (BW w) (some ⟨w.heap.size,0,none⟩) s.data.toList:=
 ⟨fun w=>Classical.choose (Al w s),fun w=>Classical.choose (wH (Al w s)),fun w=>by
  have h:=wH (wH (Al w s));exact⟨h.1,h.2.2.1,h.2.2.2⟩⟩
theorem abK(x y:V)(h:cls x.k≠cls y.k):Aj x y:=by
 intro w c c' hx hy;obtain⟨k,n,b,l,f⟩:=x;obtain⟨k',n',b',l',f'⟩:=y;change cls k≠cls k' at h;have HE:=aa (show sg (cls k) (cls k')=V.cmp (.mk k n b l f) (.mk k' n' b' l' f') by rw[V.qf,ar h]);obtain⟨aB,aL,aF,cB,cL,cF,rfl,-⟩:=hx.open;obtain⟨bB,bL,bF,dB,dL,dF,rfl,-⟩:=hy.open;have HG:=aa (((ah w).alloc (.cells (Cv.mk k n aB b.length cB aL l.length cL aF f.length cF).cells 27)).alloc (.cells (Cv.mk k' n' bB b'.length dB bL l'.length dL bF f'.length dF).cells 27));have HA:=aa (fun w=>vo k w);have qg:=aa (fun w=>vo k' w);have HC:=aa (fun w=>qh (cls k) (cls k') w);have hz:(cls k != cls k')=true:=by simpa using h
 obtain⟨z,hzz⟩:∃z,sg (cls k) (cls k')=z:=⟨_,rfl⟩;rw[hzz] at HC HE;rw[← HE.o];clear hx hy h hzz;go_enter func113,ntmps113;go_wp2_with fail;go_quiet ((first | (go_at_call 158;exact Calls.quiet_of_same ((HA.o _).mono fun e w' h=>⟨h.1,h.2.symm⟩)) | (go_at_call 158;exact Calls.quiet_of_same ((qg.o _).mono fun e w' h=>⟨h.1,h.2.symm⟩)) | (go_at_call 159;exact Calls.quiet_of_same ((HC.o _).mono fun e w' h=>⟨h.1,h.2.symm⟩))));go_wp2_with fail;go_quiet ((first | (go_at_call 158;exact JQ (HA.o _)) | (go_at_call 158;exact JQ (qg.o _)) | (go_at_call 159;exact JQ (HC.o _))));go_wp2_with fail;go_ret;exact⟨rfl,(HG.o.drewN _).drewN _⟩
theorem NG(k:Int)(n n':Nat)(b b':List UInt8)(l l':List V)(f f':List (ByteArray×V))(c c':Cv)(w:World)(hk2:(k==2)=false)(hk3:(k==3)=false)(hk4:(k==4)=false)(Ui:(k==5)=false)(Fq:(k==6)=false)
 (hv:In w (.mk k n b l f) c) (hv':In w (.mk k n' b' l' f') c') (hl:∀x∈l,∀y∈l',Aj x y) (hf:∀x∈f,∀y∈f',Aj x.2 y.2) :
 Calls prog 113 #[c.agg,c'.agg] w fun e w'=>e=.returned (.int .i64 (eJ (V.cmpL l l') (eJ (V.nr f f') (sg ((l.length:Int)+(f.length:Int)) ((l'.length:Int)+(f'.length:Int))))))∧Grow w w':=by
 obtain⟨aB,aL,aF,cB,cL,cF,rfl,h1,h2,h3,h4,h5,h6,h7,h8,h9,hb⟩:=hv.open;obtain⟨yz,CC,CD,yA,CE,CG,rfl,h1',h2',h3',h4',wJ,h6',Nl,z_,Nn,hb'⟩:=hv'.open;have HV:=aa hv;have E6:=aa hv';have Hl:=aa hl;have Hf:=aa hf;have HA:=aa (fun w=>vo k w);have qg:=aa (fun w=>vo k w);have HC:=aa (fun w=>qh (cls k) (cls k) w);clear hv hv' hb hb' h1 h2 h3 h4 h5 h6 h8 h1' h2' h3' h4' wJ h6' z_ hl hf;go_enter func113,ntmps113;go_wp2_with fail;go_quiet ((first | (go_at_call 158;exact Calls.quiet_of_same ((HA.o _).mono fun e w' h=>⟨h.1,h.2.symm⟩)) | (go_at_call 158;exact Calls.quiet_of_same ((qg.o _).mono fun e w' h=>⟨h.1,h.2.symm⟩)) | (go_at_call 159;exact Calls.quiet_of_same ((HC.o _).mono fun e w' h=>⟨h.1,h.2.symm⟩))));go_wp2_with fail
 go_loopg [5] (l.length+1) (fun gk i wr=>∃j:Nat,j≤l.length∧j≤l'.length∧gk+j=l.length+1∧i=.int .i64 j∧(∀i (h1:i<l.length) (h2:i<l'.length),i<j→V.cmp l[i] l'[i]=0)∧Grow w wr ∧
  Blk wr w.heap.size 27 (Cv.cells ⟨k,(n:Int),aB,b.length,cB,aL,l.length,cL,aF,f.length,cF⟩)∧Blk wr (w.heap.size+1) 27 (Cv.cells ⟨k,(n':Int),yz,b'.length,yA,CC,l'.length,CE,CD,f'.length,CG⟩))
 exact⟨0,by omega,by omega,by omega,rfl,fun i _ _ h=>absurd h (by omega),(((ah w).alloc _).alloc _).drewN _,((aH _ _ _).alloc _).drewN _,(df (by simp) _ _).drewN _⟩;obtain⟨j,hj,hjb,hg,rfl,heq,hw,hB,hB'⟩:=hrel;obtain⟨gk',rfl⟩:=bP gk (by omega);have hc3:=hB.cell;have JI:=hB'.cell;have HW:=aa hw;have jR:=aa heq;have HB:=aa hB;have oc:=aa hB';have hz0:w.heap.size<wr.heap.size:=HB.o.lt;have hz1:w.heap.size+1<wr.heap.size:=oc.o.lt;by_cases hlt:j<l.length∧j<l'.length
 ·obtain⟨lD,hlt'⟩:=hlt;obtain⟨bk,o,x,ha,hbk,e0,e1,e2,e3,e4,hx⟩:=(HV.o.grow hw).fJ j lD;obtain⟨wK,o',x',ha',vd,JJ,Nq,e2',e3',Nr,hx'⟩:=(E6.o.grow hw).fJ j hlt';dsimp only at ha ha';subst ha ha';have HX:=aa hx;have wL:=aa hx';have CI:=aa (Hl.o _ (aY lD) _ (aY hlt'));clear hw hx hx' hB hB' heq;obtain⟨z,hz⟩:∃z,V.cmp l[j] l'[j]=z:=⟨_,rfl⟩;have HJ:=aa (fun w2 (hgr:Grow wr w2)=>CI.o w2 x x' (HX.o.grow hgr) (wL.o.grow hgr));rw[hz] at HJ;have HZ:=aa hz;clear hz;by_cases he:z=0
  ·subst he;go_wp2_with fail;go_region_held3 (fun w'=>∀b o,b<wr.heap.size→w'.cell? ⟨b,o,none⟩=wr.cell? ⟨b,o,none⟩) (first | exact fun _ _ _=>rfl | exact fun b o h=>hgr.below.cell (p:=⟨b,o,none⟩) h)
    (first | (go_at_call 113;refine(HJ.o _ (ah wr).drew).mono ?_;rintro e w2 ⟨rfl,hb2⟩;have hgr:Grow wr w2:=(ah wr).drew.trans hb2))
   have aO:=aa hgr;clear hgr hb2;go_wp2_with fail;go_roundg gk';refine⟨j+1,by omega,by omega,by omega,by go_num,fun i h1 h2 h3=>?_,HW.o.trans aO.o,HB.o.grow aO.o,oc.o.grow aO.o⟩;rcases dH i j with h | h
   ·exact jR.o i h1 h2 h
   obtain rfl:i=j:=by omega
   exact HZ.o;omega
  have Uj:(z != 0)=true:=by simpa using he
  have HE:=aa he;have HR:=aa (V.abL lD hlt' jR.o (by rw[HZ.o];exact he));clear he;go_wp2_with fail;go_region_held3 (fun w'=>∀b o,b<wr.heap.size→w'.cell? ⟨b,o,none⟩=wr.cell? ⟨b,o,none⟩) (first | exact fun _ _ _=>rfl | exact fun b o h=>hgr.below.cell (p:=⟨b,o,none⟩) h)
   (first | (go_at_call 113;refine(HJ.o _ (ah wr).drew).mono ?_;rintro e w2 ⟨rfl,hb2⟩;have hgr:Grow wr w2:=(ah wr).drew.trans hb2))
  have aO:=aa hgr;clear hgr hb2;go_wp2_with fail;go_ret;refine⟨dI ?_,HW.o.trans aO.o⟩;rw[HR.o,HZ.o,qi _ HE.o]
 have NH:=aa (show V.cmpL l l'=0 from V.abM (fun i h1 h2=>jR.o i h1 h2 (by omega)));have hend:j=l.length∨(j<l.length∧j=l'.length):=by omega
 clear hw hB hB' heq jR hlt hg;rcases hend with hjl | ⟨hjl,NI⟩
 all_goals
  first | subst hjl | skip
  try subst NI
  go_wp2_with fail
  go_loopg [7] (f.length+1) (fun gk i wr=>∃j:Nat,j≤f.length∧j≤f'.length∧gk+j=f.length+1∧i=.int .i64 j∧(∀i (h1:i<f.length) (h2:i<f'.length),i<j→V.sU f[i] f'[i]=0)∧Grow w wr ∧
   Blk wr w.heap.size 27 (Cv.cells ⟨k,(n:Int),aB,b.length,cB,aL,l.length,cL,aF,f.length,cF⟩)∧Blk wr (w.heap.size+1) 27 (Cv.cells ⟨k,(n':Int),yz,b'.length,yA,CC,l'.length,CE,CD,f'.length,CG⟩))
  exact⟨0,by omega,by omega,by omega,rfl,fun i _ _ h=>absurd h (by omega),HW.o,HB.o,oc.o⟩
  obtain⟨j,hj,hjb,hg,rfl,heq,hw,hB,hB'⟩:=hrel
  obtain⟨gk',rfl⟩:=bP gk (by omega)
  clear hc3 JI HW HB oc hz0 hz1
  have hc3:=hB.cell
  have JI:=hB'.cell
  have HW:=aa hw
  have jR:=aa heq
  have HB:=aa hB
  have oc:=aa hB'
  have hz0:w.heap.size<wr.heap.size:=HB.o.lt
  have hz1:w.heap.size+1<wr.heap.size:=oc.o.lt
  by_cases hlt:j<f.length∧j<f'.length
  ·obtain⟨lD,hlt'⟩:=hlt
   obtain⟨bk,o,x,ha,hbk,es,iA,e0,e1,e2,e3,e4,hx⟩:=(HV.o.grow hw).iR j lD
   obtain⟨wK,o',x',ha',vd,es',E7,JJ,Nq,e2',e3',Nr,hx'⟩:=(E6.o.grow hw).iR j hlt'
   dsimp only at ha ha'
   subst ha ha'
   have HX:=aa hx
   have wL:=aa hx'
   have CI:=aa (Hf.o _ (aY lD) _ (aY hlt'))
   clear hw hx hx' hB hB' heq
   have HP:=aa (show V.sU f[j] f'[j]=eJ (Lib.compareBytes f[j].1.data.toList f'[j].1.data.toList) (V.cmp f[j].2 f'[j].2) from rfl)
   obtain⟨s1,hs1⟩:∃s,f[j].1=s:=⟨_,rfl⟩
   obtain⟨s2,hs2⟩:∃s,f'[j].1=s:=⟨_,rfl⟩
   obtain⟨z2,hz2⟩:∃z,V.cmp f[j].2 f'[j].2=z:=⟨_,rfl⟩
   have HJ:=aa (fun w2 (hgr:Grow wr w2)=>CI.o w2 x x' (HX.o.grow hgr) (wL.o.grow hgr))
   rw[hz2] at HJ HP
   rw[hs1,hs2] at HP
   rw[hs1] at es iA
   rw[hs2] at es' E7
   have HT:=aa (fun W A B c d (ha:ba W A s1.data.toList) (hb:ba W B s2.data.toList)=>Uk s1.data.toList s2.data.toList A B c d W ha hb (by simpa using iA) (by simpa using E7))
   rw[show s1.data.toList.length=s1.size by simp,show s2.data.toList.length=s2.size by simp] at HT
   obtain⟨z1,Ul⟩:∃z,Lib.compareBytes s1.data.toList s2.data.toList=z:=⟨_,rfl⟩
   rw[Ul] at HT HP
   clear hs1 hs2 hz2 Ul iA E7
   obtain⟨p1,B1,eX⟩:=Uh s1
   obtain⟨p2,B2,dK⟩:=Uh s2
   have hr1:=fun w=>(eX w).1
   have hr2:=fun w=>(dK w).1
   have G1:=aa (fun w=>(eX w).2.1)
   have G2:=aa (fun w=>(dK w).2.1)
   have I1:=aa (fun w=>(eX w).2.2)
   have I2:=aa (fun w=>(dK w).2.2)
   clear eX dK
   by_cases hzz:z1=0
   ·subst hzz
    rw[kK] at HP
    by_cases he:z2=0
    ·subst he
     go_upto_region 21 with fail
     go_cut [8] from 76 to 122 (fun k wx=>k=.int .i64 0∧Grow wr wx)
     case first =>
      refine dN ?_
      refine dO (S:=fun w'=>∀b o,b<wr.heap.size→w'.cell? ⟨b,o,none⟩=wr.cell? ⟨b,o,none⟩) (by kernel_rfl) (fun _ _ _=>rfl) (fun hHeld=>?_)
      refine aj 0 ?_
      refine aj 1 ?_
      refine aj 2 ?_
      refine aj 3 ?_
      refine aj 4 ?_
      refine aj 5 ?_
      refine aj 7 ?_
      refine aj 8 ?_
      refine aj 9 ?_
      refine aj 10 ?_
      refine aj 11 ?_
      refine aj 12 ?_
      refine b_ [6,13] ?_
      refine iz (fun K hK=>?_) ?_
      ·go_simp
       refine aV hK (fun b o h=>((ah wr).drew.trans (G1.o _)).below.cell (p:=⟨b,o,none⟩) h) (fun hHeld=>?_)
       clear hK K
       refine aR 13 (fun K hK=>?_)
       go_simp
       refine aV hK (fun b o h=>(((ah wr).drew.trans (G1.o _)).trans (G2.o _)).below.cell (p:=⟨b,o,none⟩) h) (fun hHeld=>?_)
       clear hK K
       refine aR 14 (fun K hK=>?_)
       go_simp
       go_at_call 161
       refine(HT.o _ _ _ _ _ ((I1.o _).grow (G2.o _)) (I2.o _)).mono ?_
       rintro e wt ⟨rfl,sV⟩
       have hgt:Grow wr wt:=(((ah wr).drew.trans (G1.o _)).trans (G2.o _)).trans sV
       refine aV hK (fun b o h=>(hgt).below.cell (p:=⟨b,o,none⟩) h) (fun hHeld=>?_)
       clear hK K
       refine aj 15 ?_
       refine cz ?_
       go_wp2_with fail
       go_meet
       exact⟨rfl,hgt⟩
      refine iz (fun K hK=>?_) bZ
      go_simp
      refine aV hK (fun b o h=>((ah wr).drew.trans (G2.o _)).below.cell (p:=⟨b,o,none⟩) h) (fun hHeld=>?_)
      clear hK K
      refine aR 6 (fun K hK=>?_)
      go_simp
      refine aV hK (fun b o h=>(((ah wr).drew.trans (G2.o _)).trans (G1.o _)).below.cell (p:=⟨b,o,none⟩) h) (fun hHeld=>?_)
      clear hK K
      refine aR 14 (fun K hK=>?_)
      go_simp
      go_at_call 161
      refine(HT.o _ _ _ _ _ (I1.o _) ((I2.o _).grow (G1.o _))).mono ?_
      rintro e wt ⟨rfl,sV⟩
      have hgt:Grow wr wt:=(((ah wr).drew.trans (G2.o _)).trans (G1.o _)).trans sV
      refine aV hK (fun b o h=>(hgt).below.cell (p:=⟨b,o,none⟩) h) (fun hHeld=>?_)
      clear hK K
      refine aj 15 ?_
      refine cz ?_
      go_wp2_with fail
      go_meet
      exact⟨rfl,hgt⟩
     obtain⟨rfl,hgt⟩:=hcut
     rename World=>wx
     have nu:=aa hgt
     clear hgt
     have hct:=(HB.o.grow nu.o).cell
     have alC:=(oc.o.grow nu.o).cell
     have CQ:∀b o,b<wr.heap.size→wx.cell? ⟨b,o,none⟩=wr.cell? ⟨b,o,none⟩:=fun b o h=>nu.o.below.cell (p:=⟨b,o,none⟩) h
     have hzt:=nu.o.size
     go_wp2_with fail
     go_region_held3 (fun w'=>∀b o,b<wr.heap.size→w'.cell? ⟨b,o,none⟩=wr.cell? ⟨b,o,none⟩) (first | exact CQ | exact fun b o h=>hgr.below.cell (p:=⟨b,o,none⟩) h)
      (first | (go_at_call 113;refine(HJ.o _ nu.o.drew).mono ?_;rintro e w2 ⟨rfl,hb2⟩;have hgr:Grow wr w2:=nu.o.drew.trans hb2))
     have aO:=aa hgr
     clear hgr hb2
     go_wp2_with fail
     go_roundg gk'
     refine⟨j+1,by omega,by omega,by omega,by go_num,fun i h1 h2 h3=>?_,HW.o.trans aO.o,HB.o.grow aO.o,oc.o.grow aO.o⟩
     rcases dH i j with h | h
     ·exact jR.o i h1 h2 h
     obtain rfl:i=j:=by omega
     exact HP.o
     omega
    have Uj:(z2 != 0)=true:=by simpa using he
    have HE:=aa he
    have HR:=aa (V.Um lD hlt' jR.o (by rw[HP.o];exact he))
    clear he
    go_upto_region 21 with fail
    go_cut [8] from 76 to 122 (fun k wx=>k=.int .i64 0∧Grow wr wx)
    case first =>
     refine dN ?_
     refine dO (S:=fun w'=>∀b o,b<wr.heap.size→w'.cell? ⟨b,o,none⟩=wr.cell? ⟨b,o,none⟩) (by kernel_rfl) (fun _ _ _=>rfl) (fun hHeld=>?_)
     refine aj 0 ?_
     refine aj 1 ?_
     refine aj 2 ?_
     refine aj 3 ?_
     refine aj 4 ?_
     refine aj 5 ?_
     refine aj 7 ?_
     refine aj 8 ?_
     refine aj 9 ?_
     refine aj 10 ?_
     refine aj 11 ?_
     refine aj 12 ?_
     refine b_ [6,13] ?_
     refine iz (fun K hK=>?_) ?_
     ·go_simp
      refine aV hK (fun b o h=>((ah wr).drew.trans (G1.o _)).below.cell (p:=⟨b,o,none⟩) h) (fun hHeld=>?_)
      clear hK K
      refine aR 13 (fun K hK=>?_)
      go_simp
      refine aV hK (fun b o h=>(((ah wr).drew.trans (G1.o _)).trans (G2.o _)).below.cell (p:=⟨b,o,none⟩) h) (fun hHeld=>?_)
      clear hK K
      refine aR 14 (fun K hK=>?_)
      go_simp
      go_at_call 161
      refine(HT.o _ _ _ _ _ ((I1.o _).grow (G2.o _)) (I2.o _)).mono ?_
      rintro e wt ⟨rfl,sV⟩
      have hgt:Grow wr wt:=(((ah wr).drew.trans (G1.o _)).trans (G2.o _)).trans sV
      refine aV hK (fun b o h=>(hgt).below.cell (p:=⟨b,o,none⟩) h) (fun hHeld=>?_)
      clear hK K
      refine aj 15 ?_
      refine cz ?_
      go_wp2_with fail
      go_meet
      exact⟨rfl,hgt⟩
     refine iz (fun K hK=>?_) bZ
     go_simp
     refine aV hK (fun b o h=>((ah wr).drew.trans (G2.o _)).below.cell (p:=⟨b,o,none⟩) h) (fun hHeld=>?_)
     clear hK K
     refine aR 6 (fun K hK=>?_)
     go_simp
     refine aV hK (fun b o h=>(((ah wr).drew.trans (G2.o _)).trans (G1.o _)).below.cell (p:=⟨b,o,none⟩) h) (fun hHeld=>?_)
     clear hK K
     refine aR 14 (fun K hK=>?_)
     go_simp
     go_at_call 161
     refine(HT.o _ _ _ _ _ (I1.o _) ((I2.o _).grow (G1.o _))).mono ?_
     rintro e wt ⟨rfl,sV⟩
     have hgt:Grow wr wt:=(((ah wr).drew.trans (G2.o _)).trans (G1.o _)).trans sV
     refine aV hK (fun b o h=>(hgt).below.cell (p:=⟨b,o,none⟩) h) (fun hHeld=>?_)
     clear hK K
     refine aj 15 ?_
     refine cz ?_
     go_wp2_with fail
     go_meet
     exact⟨rfl,hgt⟩
    obtain⟨rfl,hgt⟩:=hcut
    rename World=>wx
    have nu:=aa hgt
    clear hgt
    have CQ:∀b o,b<wr.heap.size→wx.cell? ⟨b,o,none⟩=wr.cell? ⟨b,o,none⟩:=fun b o h=>nu.o.below.cell (p:=⟨b,o,none⟩) h
    have hzt:=nu.o.size
    go_wp2_with fail
    go_region_held3 (fun w'=>∀b o,b<wr.heap.size→w'.cell? ⟨b,o,none⟩=wr.cell? ⟨b,o,none⟩) (first | exact CQ | exact fun b o h=>hgr.below.cell (p:=⟨b,o,none⟩) h)
     (first | (go_at_call 113;refine(HJ.o _ nu.o.drew).mono ?_;rintro e w2 ⟨rfl,hb2⟩;have hgr:Grow wr w2:=nu.o.drew.trans hb2))
    have aO:=aa hgr
    clear hgr hb2
    go_wp2_with fail
    go_ret
    refine⟨dI ?_,HW.o.trans aO.o⟩
    rw[NH.o,kK,HR.o,HP.o,qi _ HE.o]
   have alD:(z1==0)=false:=by simpa using hzz
   have alE:(z1 != 0)=true:=by simpa using hzz
   have HE:=aa hzz
   rw[qi _ hzz] at HP
   have HR:=aa (V.Um lD hlt' jR.o (by rw[HP.o];exact hzz))
   clear hzz
   go_upto_region 21 with fail
   go_cut [8] from 76 to 122 (fun k wx=>k=.int .i64 z1∧Grow wr wx)
   case first =>
    refine dN ?_
    refine dO (S:=fun w'=>∀b o,b<wr.heap.size→w'.cell? ⟨b,o,none⟩=wr.cell? ⟨b,o,none⟩) (by kernel_rfl) (fun _ _ _=>rfl) (fun hHeld=>?_)
    refine aj 0 ?_
    refine aj 1 ?_
    refine aj 2 ?_
    refine aj 3 ?_
    refine aj 4 ?_
    refine aj 5 ?_
    refine aj 7 ?_
    refine aj 8 ?_
    refine aj 9 ?_
    refine aj 10 ?_
    refine aj 11 ?_
    refine aj 12 ?_
    refine b_ [6,13] ?_
    refine iz (fun K hK=>?_) ?_
    ·go_simp
     refine aV hK (fun b o h=>((ah wr).drew.trans (G1.o _)).below.cell (p:=⟨b,o,none⟩) h) (fun hHeld=>?_)
     clear hK K
     refine aR 13 (fun K hK=>?_)
     go_simp
     refine aV hK (fun b o h=>(((ah wr).drew.trans (G1.o _)).trans (G2.o _)).below.cell (p:=⟨b,o,none⟩) h) (fun hHeld=>?_)
     clear hK K
     refine aR 14 (fun K hK=>?_)
     go_simp
     go_at_call 161
     refine(HT.o _ _ _ _ _ ((I1.o _).grow (G2.o _)) (I2.o _)).mono ?_
     rintro e wt ⟨rfl,sV⟩
     have hgt:Grow wr wt:=(((ah wr).drew.trans (G1.o _)).trans (G2.o _)).trans sV
     refine aV hK (fun b o h=>(hgt).below.cell (p:=⟨b,o,none⟩) h) (fun hHeld=>?_)
     clear hK K
     refine aj 15 ?_
     refine cz ?_
     go_wp2_with fail
     go_meet
     exact⟨rfl,hgt⟩
    refine iz (fun K hK=>?_) bZ
    go_simp
    refine aV hK (fun b o h=>((ah wr).drew.trans (G2.o _)).below.cell (p:=⟨b,o,none⟩) h) (fun hHeld=>?_)
    clear hK K
    refine aR 6 (fun K hK=>?_)
    go_simp
    refine aV hK (fun b o h=>(((ah wr).drew.trans (G2.o _)).trans (G1.o _)).below.cell (p:=⟨b,o,none⟩) h) (fun hHeld=>?_)
    clear hK K
    refine aR 14 (fun K hK=>?_)
    go_simp
    go_at_call 161
    refine(HT.o _ _ _ _ _ (I1.o _) ((I2.o _).grow (G1.o _))).mono ?_
    rintro e wt ⟨rfl,sV⟩
    have hgt:Grow wr wt:=(((ah wr).drew.trans (G2.o _)).trans (G1.o _)).trans sV
    refine aV hK (fun b o h=>(hgt).below.cell (p:=⟨b,o,none⟩) h) (fun hHeld=>?_)
    clear hK K
    refine aj 15 ?_
    refine cz ?_
    go_wp2_with fail
    go_meet
    exact⟨rfl,hgt⟩
   obtain⟨rfl,hgt⟩:=hcut
   rename World=>wx
   have nu:=aa hgt
   clear hgt
   go_wp2_with fail
   go_ret
   refine⟨dI ?_,HW.o.trans nu.o⟩
   rw[NH.o,kK,HR.o,HP.o,qi _ HE.o]
  have HF0:=aa (show V.nr f f'=0 from V.abN (fun i h1 h2=>jR.o i h1 h2 (by omega)))
  have hend:j=f.length∨(j<f.length∧j=f'.length):=by omega
  clear hw hB hB' heq jR hlt hg
  have HN:=aa (fun w=>qh ((l.length:Int)+(f.length:Int)) ((l'.length:Int)+(f'.length:Int)) w)
  rcases hend with hjl | ⟨hjl,NI⟩
  all_goals
   first | subst hjl | skip
   try subst NI
   go_wp2_with (go_at_call 159;refine(HN.o _).mono ?_;rintro e w2 ⟨rfl,rfl⟩)
   go_ret
   refine⟨dI ?_,HW.o⟩
   rw[NH.o,HF0.o,kK,kK]
theorem abO(k k':Int)(n n':Nat)(hk:k=3∨k=4)(hk':k'=3∨k'=4):Aj (.mk k n [] [] []) (.mk k' n' [] [] []):=by
 intro w c c' hx hy;rw[V.Un hk hk'];have HN:=aa (fun w2 (hg:Grow w w2)=>abP k k' n n' c c' w2 hk hk' (hx.grow hg) (hy.grow hg));obtain⟨aB,aL,aF,cB,cL,cF,rfl,-⟩:=hx.open;obtain⟨bB,bL,bF,dB,dL,dF,rfl,-⟩:=hy.open;have HG:=aa (((ah w).alloc (.cells (Cv.mk k n aB 0 cB aL 0 cL aF 0 cF).cells 27)).alloc (.cells (Cv.mk k' n' bB 0 dB bL 0 dL bF 0 dF).cells 27));have HA:=aa (fun w=>vo k w);have qg:=aa (fun w=>vo k' w);have HC:=aa (fun w=>qh 3 3 w);rw[pD rfl] at HC;rw[show cls k=3 by rcases hk with rfl | rfl<;>rfl] at HA;rw[show cls k'=3 by rcases hk' with rfl | rfl<;>rfl] at qg;have hk2:(k==2)=false:=by rcases hk with rfl | rfl<;>rfl
 clear hx hy;rcases hk with rfl | rfl
 all_goals
  go_enter func113,ntmps113
  go_wp2_with fail
  go_quiet ((first | (go_at_call 158;exact Calls.quiet_of_same ((HA.o _).mono fun e w' h=>⟨h.1,h.2.symm⟩)) | (go_at_call 158;exact Calls.quiet_of_same ((qg.o _).mono fun e w' h=>⟨h.1,h.2.symm⟩)) | (go_at_call 159;exact Calls.quiet_of_same ((HC.o _).mono fun e w' h=>⟨h.1,h.2.symm⟩))))
  go_wp2_with fail
  refine(HN.o _ (HG.o.drewN _)).mono ?_
  rintro e w2 ⟨rfl,hg⟩
  have HG2:=aa ((HG.o.drewN _).trans hg)
  clear hg
  go_wp2_with fail
  go_ret
  exact⟨rfl,HG2.o⟩
theorem abQ(n n':Nat)(hn:n≤1)(hn':n'≤1):Aj (.mk 2 n [] [] []) (.mk 2 n' [] [] []):=by
 intro w c c' hx hy;have HE:=aa (show sg n n'=V.cmp (.mk 2 n [] [] []) (.mk 2 n' [] [] []) by rw[V.qf];rfl);rw[← HE.o];obtain⟨aB,aL,aF,cB,cL,cF,rfl,-⟩:=hx.open;obtain⟨bB,bL,bF,dB,dL,dF,rfl,-⟩:=hy.open;have HG:=aa (((ah w).alloc (.cells (Cv.mk 2 n aB 0 cB aL 0 cL aF 0 cF).cells 27)).alloc (.cells (Cv.mk 2 n' bB 0 dB bL 0 dL bF 0 dF).cells 27));have HA:=aa (fun w=>vo 2 w);have qg:=aa (fun w=>vo 2 w);have HC:=aa (fun w=>qh 2 2 w);rw[pD rfl] at HC;rw[show cls 2=2 from rfl] at HA qg;have HN:=aa (fun w=>qh n n' w);clear hx hy;go_enter func113,ntmps113;go_wp2_with fail
 go_quiet ((first | (go_at_call 158;exact Calls.quiet_of_same ((HA.o _).mono fun e w' h=>⟨h.1,h.2.symm⟩)) | (go_at_call 158;exact Calls.quiet_of_same ((qg.o _).mono fun e w' h=>⟨h.1,h.2.symm⟩)) | (go_at_call 159;exact Calls.quiet_of_same ((HC.o _).mono fun e w' h=>⟨h.1,h.2.symm⟩))));go_wp2_with (go_at_call 159;refine(HN.o _).mono ?_;rintro e w2 ⟨rfl,rfl⟩);go_ret;exact⟨rfl,HG.o.drewN _⟩
theorem abR(k:Int)(b b':List UInt8)(hk:k=5∨k=6):Aj (.mk k 0 b [] []) (.mk k 0 b' [] []):=by
 intro w c c' hx hy;have HE:=aa (show Lib.compareBytes b b'=V.cmp (.mk k 0 b [] []) (.mk k 0 b' [] []) by rw[V.qf,ai (by simp),ai (by omega),ai (by omega),ar hk]);rw[← HE.o];obtain⟨aB,aL,aF,cB,cL,cF,rfl,-,-,-,-,hbl,-,-,-,-,hb⟩:=hx.open;obtain⟨bB,bL,bF,dB,dL,dF,rfl,-,-,-,-,abS,-,-,-,-,hb'⟩:=hy.open;have HG:=aa (((ah w).alloc (.cells (Cv.mk k 0 aB b.length cB aL 0 cL aF 0 cF).cells 27)).alloc (.cells (Cv.mk k 0 bB b'.length dB bL 0 dL bF 0 dF).cells 27));have HA:=aa (fun w=>vo k w);have qg:=aa (fun w=>vo k w);have HC:=aa (fun w=>qh k k w);rw[pD rfl] at HC;rw[show cls k=k by rcases hk with rfl | rfl<;>rfl] at HA qg;have HN:=aa (fun w2 (hg:Grow w w2)=>Uk b b' aB bB cB dB w2 (hb.grow hg) (hb'.grow hg) hbl abS)
 have hk2:(k==2)=false:=by rcases hk with rfl | rfl<;>rfl
 have hk3:(k==3)=false:=by rcases hk with rfl | rfl<;>rfl
 have hk4:(k==4)=false:=by rcases hk with rfl | rfl<;>rfl
 clear hx hy hb hb';rcases hk with rfl | rfl
 all_goals
  go_enter func113,ntmps113
  go_wp2_with fail
  go_quiet ((first | (go_at_call 158;exact Calls.quiet_of_same ((HA.o _).mono fun e w' h=>⟨h.1,h.2.symm⟩)) | (go_at_call 158;exact Calls.quiet_of_same ((qg.o _).mono fun e w' h=>⟨h.1,h.2.symm⟩)) | (go_at_call 159;exact Calls.quiet_of_same ((HC.o _).mono fun e w' h=>⟨h.1,h.2.symm⟩))))
  go_wp2_with (go_at_call 161;refine(HN.o _ (HG.o.drewN _)).mono ?_;rintro e w2 ⟨rfl,hg⟩)
  go_ret
  exact⟨rfl,(HG.o.drewN _).trans hg⟩
theorem Uo(x:V):∀y:V,x.formed=true→y.formed=true→Aj x y:=by
 induction x using V.ind with
 | h k n b l f hl hf =>
  intro y hx hy;obtain⟨k',n',b',l',f'⟩:=y;by_cases hcl:cls k≠cls k'
  ·exact abK _ _ hcl
  have hcl:cls k=cls k':=yi hcl;rcases u_ hx with h | ⟨m,hm,h⟩ | ⟨m,h⟩ | ⟨m,h⟩ | ⟨m,hm,h⟩ | ⟨m,h⟩ | ⟨m,hm,h⟩ | ⟨m,hm,hnd,h⟩<;>cases h <;>
  rcases u_ hy with h | ⟨m',hm',h⟩ | ⟨m',h⟩ | ⟨m',h⟩ | ⟨m',hm',h⟩ | ⟨m',h⟩ | ⟨m',hm',h⟩ | ⟨m',hm',hnd',h⟩<;>cases h <;>
  first
  | exact absurd hcl (by decide)
  | exact abO _ _ _ _ (by decide) (by decide)
  | exact abQ _ _ hm hm'
  | exact abR _ _ _ (by decide)
  | skip
  ·intro w c c' h h';refine(NG 1 0 0 [] [] [] [] [] [] c c' w rfl rfl rfl rfl rfl h h' (fun _ hx=>by simp at hx) (fun _ hx=>by simp at hx)).mono ?_;rintro e w' ⟨rfl,hg⟩;exact⟨dI (by rw[V.qf];rfl),hg⟩
  ·intro w c c' h h';refine(NG 7 0 0 [] [] l l' [] [] c c' w rfl rfl rfl rfl rfl h h' (fun x hx y hy=>hl x hx y (hm x hx) (hm' y hy)) (fun _ hx=>by simp at hx)).mono ?_;rintro e w' ⟨rfl,hg⟩;refine⟨dI ?_,hg⟩;rw[V.qf,ai (by simp),ai (by decide),ai (by decide),ai (by decide)];have e0:V.nr [] []=0:=rfl;rw[e0,Uq];simp only[bn,fF,kK,Int.natCast_zero,Int.add_zero]
  intro w c c' h h';refine(NG 8 0 0 [] [] [] [] f f' c c' w rfl rfl rfl rfl rfl h h' (fun _ hx=>by simp at hx) (fun x hx y hy=>hf x hx y.2 (hm x hx).2 (hm' y hy).2)).mono ?_;rintro e w' ⟨rfl,hg⟩;refine⟨dI ?_,hg⟩;rw[V.qf,ai (by simp),ai (by decide),ai (by decide),ai (by decide)];have e0:V.cmpL [] []=0:=rfl;rw[e0,Uq];simp only[bn,dg,kK,Int.natCast_zero,Int.zero_add]
end
end Go.Proofs.YtndjopkdbdcmdaaGreatDoor
