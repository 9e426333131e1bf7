/- Part 8 of the proof of pfinds_card. -/
import Derived.Test.YtndjopkdbdcmdaaGreatDoorPfi7
import Derived.Deep.DeepCutAuto
set_option linter.unusedVariables false
set_option linter.unusedSimpArgs false
set_option maxRecDepth 100000
set_option maxHeartbeats 12800000
open Go.Proofs.Tryz
namespace Go.Proofs.YtndjopkdbdcmdaaGreatDoor
section
open Go.RowKit Go.Shelf
theorem Row.lit{w:World}(x:UInt8){e:Int}(he:(x.toNat:Int)=e):Row (w.alloc (.cells #[.int .u8 e] 5)) w.heap.size (.slice (some ⟨w.heap.size,0,none⟩) 1 1) 1 [x]:=
 ⟨rfl,.inr ⟨w.heap.size,1,#[.int .u8 e],rfl,ay _,aD w _ _,ay _,by decide,rfl,by simp[bT,he]⟩⟩
def lB(w:World)(bs:List UInt8)(e:Ending)(w':World):Prop:=
 ∃base A c,e=.returned (.slice A bs.length c)∧w.heap.size≤base∧Row w' base (.slice A bs.length c) bs.length bs∧Grow w w'
theorem lB.of{w w':World}{base k c:Nat}{A:Option Addr}{zs bs:List UInt8}(hk:k=bs.length)(hz:zs=bs)(hb:w.heap.size≤base)(h1:Row w' base (.slice A k c) k zs)(h2:Grow w w'):lB w bs (.returned (.slice A k c)) w':=by
 subst hk;subst hz;exact⟨base,A,c,rfl,hb,h1,h2⟩
def Ue(x:V):Prop:=∀(w:World) (c:Cv),In w x c→x.bytes.length≤140737488355328→Calls prog 103 #[c.agg] w (lB w x.bytes)
theorem alc(w:World)(c:Cv)(hv:In w (V.mk 1 0 [] [] []) c) :
 Calls prog 103 #[c.agg] w (lB w (V.bytes (V.mk 1 0 [] [] []))):=by
 obtain⟨aB,aL,aF,cB,cL,cF,rfl,h1,h2,h3,h4,h5,h6,h7,h8,h9,hb0⟩:=mz hv;have hz:(w.alloc (.cells #[.int .i64 1,.int .u64 0,.slice aB 0 cB,.slice aL 0 cL,.slice aF 0 cF] 27)).heap.size=w.heap.size+1:=by simp
 have hrow:=Row.lit (w:=w.alloc (.cells #[.int .i64 1,.int .u64 0,.slice aB 0 cB,.slice aL 0 cL,.slice aF 0 cF] 27)) 1 (e:=1) rfl;rw[hz] at hrow;have ed:=aa hrow;clear hrow hb0;go_enter func103,ntmps103;go_wp2_with fail;go_ret;exact lB.of (by simp[i7]) (by simp[i7]) (by omega) ed.o (((ah w).alloc _).alloc _)
theorem ald(w:World)(c:Cv)(n:Nat)(hv:In w (V.mk 2 n [] [] []) c) :
 Calls prog 103 #[c.agg] w (lB w (V.bytes (V.mk 2 n [] [] []))):=by
 obtain⟨aB,aL,aF,cB,cL,cF,rfl,h1,h2,h3,h4,h5,h6,h7,h8,h9,hb0⟩:=mz hv;have hz:(w.alloc (.cells #[.int .i64 2,.int .u64 n,.slice aB 0 cB,.slice aL 0 cL,.slice aF 0 cF] 27)).heap.size=w.heap.size+1:=by simp
 have hrow:=Row.lit (w:=w.alloc (.cells #[.int .i64 2,.int .u64 n,.slice aB 0 cB,.slice aL 0 cL,.slice aF 0 cF] 27)) 2 (e:=2) rfl;rw[hz] at hrow;have ed:=aa hrow;have hwr:IntKind.u8.wrap (n:Int)=(n:Int) % 256:=Kl _;clear hrow hb0;go_enter func103,ntmps103;go_wp2_with (first | (at_builtin;refine gy (ys:=[UInt8.ofNat n]) rfl (.tmp 14) (.tmp 18) _ rfl rfl (ed.o.alloc _) _ rfl (kG _ (Ha _) (cX (by simp) _ _)) (by simp only[aT,bz];omega) (by simp) ?_;intro A2 c2 w2 hr2 hg2;have HG2:=aa (cU ((((ah w).alloc _).alloc _).alloc _) (eJ (eI hg2 (ed.o.alloc _) (by simp)) (by omega)));have cE:=aa hr2;clear hr2 hg2));go_ret;exact lB.of (by simp[i7]) (by simp[i7]) (by omega) cE.o HG2.o
theorem ale(w:World)(c:Cv)(n:Nat)(hv:In w (V.mk 3 n [] [] []) c) :
 Calls prog 103 #[c.agg] w (lB w (V.bytes (V.mk 3 n [] [] []))):=by
 obtain⟨aB,aL,aF,cB,cL,cF,rfl,h1,h2,h3,h4,h5,h6,h7,h8,h9,hb0⟩:=mz hv;have hz:(w.alloc (.cells #[.int .i64 3,.int .u64 n,.slice aB 0 cB,.slice aL 0 cL,.slice aF 0 cF] 27)).heap.size=w.heap.size+1:=by simp
 have hrow:=Row.lit (w:=w.alloc (.cells #[.int .i64 3,.int .u64 n,.slice aB 0 cB,.slice aL 0 cL,.slice aF 0 cF] 27)) 3 (e:=3) rfl;rw[hz] at hrow;have ed:=aa hrow;clear hrow hb0;go_enter func103,ntmps103;go_wp2_with fail;refine(Ky n 8 _ h3 (by omega)).mono ?_;rintro e w1 ⟨A1,c1,rfl,hr1,hg1⟩;have xq:=aa hr1;have aO:=aa ((((ah w).alloc _).alloc _).trans hg1);have JV:=aa (ed.o.grow hg1);have hz1:=hg1.size;simp only[dJ] at hz1;clear hr1 hg1
 go_wp2_with (first | (at_builtin;refine gy (ys:=j5 8 n) rfl (.tmp 23) (.tmp 26) _ rfl rfl JV.o _ rfl (fe eH xq.o.reads.1 (i6 _)) (by rw[jG];omega) (by omega) ?_;intro A2 c2 w2 hr2 hg2;have HG2:=aa (cU aO.o (eJ (eI hg2 JV.o (by omega)) (by omega)));have cE:=aa hr2;clear hr2 hg2));go_ret;exact lB.of (by simp[i7,jG]) (by simp[i7]) (by omega) cE.o HG2.o
theorem alf(w:World)(c:Cv)(n:Nat)(hv:In w (V.mk 4 n [] [] []) c) :
 Calls prog 103 #[c.agg] w (lB w (V.bytes (V.mk 4 n [] [] []))):=by
 obtain⟨aB,aL,aF,cB,cL,cF,rfl,h1,h2,h3,h4,h5,h6,h7,h8,h9,hb0⟩:=mz hv;have hz:(w.alloc (.cells #[.int .i64 4,.int .u64 n,.slice aB 0 cB,.slice aL 0 cL,.slice aF 0 cF] 27)).heap.size=w.heap.size+1:=by simp
 have hrow:=Row.lit (w:=w.alloc (.cells #[.int .i64 4,.int .u64 n,.slice aB 0 cB,.slice aL 0 cL,.slice aF 0 cF] 27)) 4 (e:=4) rfl;rw[hz] at hrow;have ed:=aa hrow;clear hrow hb0;go_enter func103,ntmps103;go_wp2_with fail;refine(Ky n 8 _ h3 (by omega)).mono ?_;rintro e w1 ⟨A1,c1,rfl,hr1,hg1⟩;have xq:=aa hr1;have aO:=aa ((((ah w).alloc _).alloc _).trans hg1);have JV:=aa (ed.o.grow hg1);have hz1:=hg1.size;simp only[dJ] at hz1;clear hr1 hg1
 go_wp2_with (first | (at_builtin;refine gy (ys:=j5 8 n) rfl (.tmp 23) (.tmp 26) _ rfl rfl JV.o _ rfl (fe eH xq.o.reads.1 (i6 _)) (by rw[jG];omega) (by omega) ?_;intro A2 c2 w2 hr2 hg2;have HG2:=aa (cU aO.o (eJ (eI hg2 JV.o (by omega)) (by omega)));have cE:=aa hr2;clear hr2 hg2));go_ret;exact lB.of (by simp[i7,jG]) (by simp[i7]) (by omega) cE.o HG2.o
theorem alg(w:World)(c:Cv)(b:List UInt8)(hv:In w (V.mk 5 0 b [] []) c)(hm:3+b.length≤140737488355328) :
 Calls prog 103 #[c.agg] w (lB w (V.bytes (V.mk 5 0 b [] []))):=by
 obtain⟨aB,aL,aF,cB,cL,cF,rfl,h1,h2,h3,h4,h5,h6,h7,h8,h9,hb0⟩:=mz hv;have hz:(w.alloc (.cells #[.int .i64 5,.int .u64 0,.slice aB b.length cB,.slice aL 0 cL,.slice aF 0 cF] 27)).heap.size=w.heap.size+1:=by simp
 have hrow:=Row.lit (w:=w.alloc (.cells #[.int .i64 5,.int .u64 0,.slice aB b.length cB,.slice aL 0 cL,.slice aF 0 cF] 27)) 5 (e:=5) rfl;rw[hz] at hrow;have ed:=aa hrow;have bg:=aa ((aD w 27 #[.int .i64 5,.int .u64 0,.slice aB b.length cB,.slice aL 0 cL,.slice aF 0 cF]).alloc (.cells #[.int .u8 5] 5));have aM:=aa (((ah w).alloc (.cells #[.int .i64 5,.int .u64 0,.slice aB b.length cB,.slice aL 0 cL,.slice aF 0 cF] 27)).alloc (.cells #[.int .u8 5] 5));have Uf:=aa (show bA w aB b from hb0);have hc1:=bg.o.cell 2;have hwr:IntKind.u64.wrap (b.length:Int)=(b.length:Int):=IntWalk.u64_in _ (by omega);clear hrow hb0;go_enter func103,ntmps103;go_wp2_with fail
 go_region_held3 (fun w'=>w'.cell? ⟨w.heap.size,2,none⟩=some (.slice aB b.length cB)) (first | go_keep | exact hc3 | exact hc2 | exact gz) (first | (go_at_call 152;refine(Ky b.length 2 _ (by omega) (by omega)).mono ?_;rintro e w2 ⟨A2,c2,rfl,hr2,hg2⟩;have aG:=aa (bg.o.drew.grow hg2);have hc2:=aG.o.cell 2;have cE:=aa hr2;have lS:=aa (ed.o.drew.grow hg2);have HG2:=aa (aM.o.drew.trans hg2);have hz2:=HG2.o.size;have JK:=hg2.size;clear hr2 hg2) | (refine oJ (ys:=j5 2 b.length) (by rfl) (.tmp 31) (.tmp 36) _ (by rfl) (by rfl) lS.o _ (by rfl) (fe eH cE.o.reads.1 (i6 _)) (by rw[jG];omega) (by have:=aG.o.lt;omega) ?_;intro A3 c3 w3 hr3 hg3;have aV:=aa (hg3.blk aG.o (qA lS.o aG.o (by decide)));have hc3:=aV.o.cell 2;have fT:=aa hr3;have aP:=aa (cU HG2.o (eJ (eI hg3 lS.o (by have:=aG.o.lt;omega)) (by omega)));have Cx:=aa (Uf.o.grow aP.o);clear hr3 hg3) | (refine oJ (ys:=b) (by rfl) (.tmp 37) (.tmp 39) _ (by rfl) (by rfl) fT.o _ (by rfl) (fe eH Cx.o (i6 b)) (by rw[jG];omega) (by have:=aV.o.lt;omega) ?_;intro A4 c4 w4 hr4 hg4;have av:=aa (hg4.blk aV.o (qA fT.o aV.o (by decide)));have gz:=av.o.cell 2;have dP:=aa hr4;have cj:=aa (cU aP.o (eJ (eI hg4 fT.o (by have:=aV.o.lt;omega)) (by omega)));clear hr4 hg4))
 go_wp2_with fail;go_ret;exact lB.of (by simp[i7,jG];omega) (by simp[i7]) (by omega) dP.o cj.o
theorem alh(w:World)(c:Cv)(b:List UInt8)(hv:In w (V.mk 6 0 b [] []) c)(hm:3+b.length≤140737488355328) :
 Calls prog 103 #[c.agg] w (lB w (V.bytes (V.mk 6 0 b [] []))):=by
 obtain⟨aB,aL,aF,cB,cL,cF,rfl,h1,h2,h3,h4,h5,h6,h7,h8,h9,hb0⟩:=mz hv;have hz:(w.alloc (.cells #[.int .i64 6,.int .u64 0,.slice aB b.length cB,.slice aL 0 cL,.slice aF 0 cF] 27)).heap.size=w.heap.size+1:=by simp
 have hrow:=Row.lit (w:=w.alloc (.cells #[.int .i64 6,.int .u64 0,.slice aB b.length cB,.slice aL 0 cL,.slice aF 0 cF] 27)) 6 (e:=6) rfl;rw[hz] at hrow;have ed:=aa hrow;have bg:=aa ((aD w 27 #[.int .i64 6,.int .u64 0,.slice aB b.length cB,.slice aL 0 cL,.slice aF 0 cF]).alloc (.cells #[.int .u8 6] 5));have aM:=aa (((ah w).alloc (.cells #[.int .i64 6,.int .u64 0,.slice aB b.length cB,.slice aL 0 cL,.slice aF 0 cF] 27)).alloc (.cells #[.int .u8 6] 5));have Uf:=aa (show bA w aB b from hb0);have hc1:=bg.o.cell 2;have hwr:IntKind.u64.wrap (b.length:Int)=(b.length:Int):=IntWalk.u64_in _ (by omega);clear hrow hb0;go_enter func103,ntmps103;go_wp2_with fail
 go_region_held3 (fun w'=>w'.cell? ⟨w.heap.size,2,none⟩=some (.slice aB b.length cB)) (first | go_keep | exact hc3 | exact hc2 | exact gz) (first | (go_at_call 152;refine(Ky b.length 2 _ (by omega) (by omega)).mono ?_;rintro e w2 ⟨A2,c2,rfl,hr2,hg2⟩;have aG:=aa (bg.o.drew.grow hg2);have hc2:=aG.o.cell 2;have cE:=aa hr2;have lS:=aa (ed.o.drew.grow hg2);have HG2:=aa (aM.o.drew.trans hg2);have hz2:=HG2.o.size;have JK:=hg2.size;clear hr2 hg2) | (refine oJ (ys:=j5 2 b.length) (by rfl) (.tmp 31) (.tmp 36) _ (by rfl) (by rfl) lS.o _ (by rfl) (fe eH cE.o.reads.1 (i6 _)) (by rw[jG];omega) (by have:=aG.o.lt;omega) ?_;intro A3 c3 w3 hr3 hg3;have aV:=aa (hg3.blk aG.o (qA lS.o aG.o (by decide)));have hc3:=aV.o.cell 2;have fT:=aa hr3;have aP:=aa (cU HG2.o (eJ (eI hg3 lS.o (by have:=aG.o.lt;omega)) (by omega)));have Cx:=aa (Uf.o.grow aP.o);clear hr3 hg3) | (refine oJ (ys:=b) (by rfl) (.tmp 37) (.tmp 39) _ (by rfl) (by rfl) fT.o _ (by rfl) (fe eH Cx.o (i6 b)) (by rw[jG];omega) (by have:=aV.o.lt;omega) ?_;intro A4 c4 w4 hr4 hg4;have av:=aa (hg4.blk aV.o (qA fT.o aV.o (by decide)));have gz:=av.o.cell 2;have dP:=aa hr4;have cj:=aa (cU aP.o (eJ (eI hg4 fT.o (by have:=aV.o.lt;omega)) (by omega)));clear hr4 hg4))
 go_wp2_with fail;go_ret;exact lB.of (by simp[i7,jG];omega) (by simp[i7]) (by omega) dP.o cj.o
theorem ali(w:World)(c:Cv)(l:List V)(hl:∀x∈l,Ue x)(hv:In w (V.mk 7 0 [] l []) c)(hm:2+(l.map V.bytes).flatten.length≤140737488355328) :
 Calls prog 103 #[c.agg] w (lB w (V.bytes (V.mk 7 0 [] l []))):=by
 have Hl:=aa hl;clear hl;have HV:=aa hv;obtain⟨aB,aL,aF,cB,cL,cF,rfl,h1,h2,h3,h4,h5,h6,h7,h8,h9,hb0⟩:=mz hv;have hz:(w.alloc (.cells #[.int .i64 7,.int .u64 0,.slice aB 0 cB,.slice aL l.length cL,.slice aF 0 cF] 27)).heap.size=w.heap.size+1:=by simp
 have hrow:=Row.lit (w:=w.alloc (.cells #[.int .i64 7,.int .u64 0,.slice aB 0 cB,.slice aL l.length cL,.slice aF 0 cF] 27)) 7 (e:=7) rfl;rw[hz] at hrow;have ed:=aa hrow;have bg:=aa ((aD w 27 #[.int .i64 7,.int .u64 0,.slice aB 0 cB,.slice aL l.length cL,.slice aF 0 cF]).alloc (.cells #[.int .u8 7] 5));clear hrow hb0 hv;go_enter func103,ntmps103
 go_wp2_with (first | (at_builtin;refine gy (ys:=[UInt8.ofNat l.length]) rfl (.tmp 43) (.tmp 48) _ rfl rfl (ed.o.alloc _) _ rfl (kG _ (Ha _) (cX (by simp) _ _)) (by simp only[aT,bz];omega) (by simp) ?_;intro A2 c2 w2 hr2 hg2;have HG2:=aa (cU ((((ah w).alloc _).alloc _).alloc _) (eJ (eI hg2 (ed.o.alloc _) (by simp)) (by omega)));have aG:=aa (hg2.blk (bg.o.alloc _) (qA ed.o bg.o (by decide)));have cE:=aa hr2;clear hr2 hg2));go_loopg [3,4] (l.length+1) (fun gk v' i wr=>∃(j:Nat) (A':Option Addr) (c':Nat),j≤l.length∧gk+j=l.length+1∧i=.int .i64 j∧v'=.slice A' (2+((l.take j).map V.bytes).flatten.length) c' ∧
  Row wr (w.heap.size+1) (.slice A' (2+((l.take j).map V.bytes).flatten.length) c') (2+((l.take j).map V.bytes).flatten.length) (7::UInt8.ofNat l.length::((l.take j).map V.bytes).flatten)∧Grow w wr∧w.heap.size+1≤wr.heap.size∧Blk wr w.heap.size 27 #[.int .i64 7,.int .u64 0,.slice aB 0 cB,.slice aL l.length cL,.slice aF 0 cF])
 exact⟨0,A2,c2,by omega,by omega,rfl,by simp,by simpa using cE.o,HG2.o,by have:=aG.o.lt;omega,aG.o⟩;obtain⟨j,A',c',hj,hg,rfl,rfl,hr,hgr,uv,hB⟩:=hrel;obtain⟨gk',rfl⟩:=bS gk (by omega);have hc:=hB.cell;have mC:=aa hB;by_cases hlt:j<l.length
 ·have fE:=HV.o.grow hgr;obtain⟨bk,o,x,ha,hbk,e0,e1,e2,e3,e4,hx⟩:=eN.fO fE j hlt;dsimp only at ha;subst ha;have bU:=yQ V.bytes l j hlt;have hm2:=cT List.length bU;rw[bG] at hm2;have hle:=yR V.bytes l (j+1);rw[hm2] at hle;have ju:=aa bU;have lV:=aa hm2;have qo:=aa hr;have sA:=aa hgr;have HX:=aa hx;obtain⟨S,hS⟩:∃S,S=((l.take j).map V.bytes).flatten:=⟨_,rfl⟩;rw[← hS] at hle qo ju lV ⊢;clear hr hgr hx fE bU hm2 hS hB;go_wp2_with fail;refine(Hl.o _ (aW hlt) _ x HX.o (by omega)).mono ?_;rintro e w3 ⟨amO,A3,c3,rfl,hb3,hr3,hg3⟩;have aP:=aa (sA.o.trans hg3);have fT:=aa hr3;have lS:=aa (qo.o.grow hg3);have fZ:=mC.o.grow hg3;have aV:=aa fZ;have hc3:=fZ.cell;have hz3:=hg3.size;clear hr3 hg3 e0 e1 e2 e3 e4 hc fZ
  go_wp2_with (first | (at_builtin;refine gy (ys:=l[j].bytes) rfl (.tmp 57) (.tmp 63) _ rfl rfl lS.o _ rfl (fe eH fT.o.reads.1 (i6 _)) (by omega) (by omega) ?_;intro A4 c4 w4 hr4 hg4;have cj:=aa (cU aP.o (eJ (eI hg4 lS.o (by omega)) (by omega)));have av:=aa (hg4.blk aV.o (qA lS.o aV.o (by decide)));have dP:=aa hr4;have xC:=hg4.size;clear hr4 hg4 hc3));go_roundg gk';have e1:2+S.length+l[j].bytes.length=2+((l.take (j+1)).map V.bytes).flatten.length:=by rw[lV.o];omega
  refine⟨j+1,A4,c4,by omega,by omega,by go_num,by rw[e1],?_,cj.o,by omega,av.o⟩;rw[← e1,ju.o];simpa using dP.o;omega
 obtain rfl:j=l.length:=by omega
 rw[fS] at hr ⊢;have qo:=aa hr;have sA:=aa hgr;clear hr hgr hg hlt;go_wp2_with fail;go_ret;exact lB.of (by rw[C9];simp;omega) (by rw[C9]) (by omega) qo.o sA.o
theorem alj(w:World)(c:Cv)(f:List (ByteArray×V))(hl:∀x∈f,Ue x.2)(hv:In w (V.mk 8 0 [] [] f) c)(hm:2+(f.map fun x:ByteArray×V=>V.item x.1 x.2.bytes).flatten.length≤140737488355328) :
 Calls prog 103 #[c.agg] w (lB w (V.bytes (V.mk 8 0 [] [] f))):=by
 have Hl:=aa hl;clear hl;have HV:=aa hv;obtain⟨aB,aL,aF,cB,cL,cF,rfl,h1,h2,h3,h4,h5,h6,h7,h8,h9,hb0⟩:=mz hv;have hz:(w.alloc (.cells #[.int .i64 8,.int .u64 0,.slice aB 0 cB,.slice aL 0 cL,.slice aF f.length cF] 27)).heap.size=w.heap.size+1:=by simp
 have hrow:=Row.lit (w:=w.alloc (.cells #[.int .i64 8,.int .u64 0,.slice aB 0 cB,.slice aL 0 cL,.slice aF f.length cF] 27)) 8 (e:=8) rfl;rw[hz] at hrow;have ed:=aa hrow;have bg:=aa ((aD w 27 #[.int .i64 8,.int .u64 0,.slice aB 0 cB,.slice aL 0 cL,.slice aF f.length cF]).alloc (.cells #[.int .u8 8] 5));clear hrow hb0 hv;go_enter func103,ntmps103
 go_wp2_with (first | (at_builtin;refine gy (ys:=[UInt8.ofNat f.length]) rfl (.tmp 67) (.tmp 72) _ rfl rfl (ed.o.alloc _) _ rfl (kG _ (Ha _) (cX (by simp) _ _)) (by simp only[aT,bz];omega) (by simp) ?_;intro A2 c2 w2 hr2 hg2;have HG2:=aa (cU ((((ah w).alloc _).alloc _).alloc _) (eJ (eI hg2 (ed.o.alloc _) (by simp)) (by omega)));have aG:=aa (hg2.blk (bg.o.alloc _) (qA ed.o bg.o (by decide)));have cE:=aa hr2;clear hr2 hg2));go_loopg [3,5] (f.length+1) (fun gk v' i wr=>∃(j:Nat) (A':Option Addr) (c':Nat),j≤f.length∧gk+j=f.length+1∧i=.int .i64 j∧v'=.slice A' (2+((f.take j).map fun x:ByteArray×V=>V.item x.1 x.2.bytes).flatten.length) c' ∧
  Row wr (w.heap.size+1) (.slice A' (2+((f.take j).map fun x:ByteArray×V=>V.item x.1 x.2.bytes).flatten.length) c') (2+((f.take j).map fun x:ByteArray×V=>V.item x.1 x.2.bytes).flatten.length) (8::UInt8.ofNat f.length::((f.take j).map fun x:ByteArray×V=>V.item x.1 x.2.bytes).flatten)∧Grow w wr∧w.heap.size+1≤wr.heap.size∧Blk wr w.heap.size 27 #[.int .i64 8,.int .u64 0,.slice aB 0 cB,.slice aL 0 cL,.slice aF f.length cF])
 exact⟨0,A2,c2,by omega,by omega,rfl,by simp,by simpa using cE.o,HG2.o,by have:=aG.o.lt;omega,aG.o⟩;obtain⟨j,A',c',hj,hg,rfl,rfl,hr,hgr,uv,hB⟩:=hrel;obtain⟨gk',rfl⟩:=bS gk (by omega);have hc:=hB.cell;have mC:=aa hB;by_cases hlt:j<f.length
 ·have fE:=HV.o.grow hgr;obtain⟨bk,o,x,ha,hbk,es,im,e0,e1,e2,e3,e4,hx⟩:=eN.iF fE j hlt;obtain⟨tU,o',x',ha',vN,es',_⟩:=eN.iF HV.o j hlt;dsimp only at ha ha';subst ha;injection ha' with ha';injection ha' with ha1 ha2;subst ha1 ha2;have bU:=yQ (fun x:ByteArray×V=>V.item x.1 x.2.bytes) f j hlt;have hm2:=cT List.length bU;rw[bG,C_] at hm2;have hle:=yR (fun x:ByteArray×V=>V.item x.1 x.2.bytes) f (j+1);rw[hm2] at hle;have ju:=aa bU;have lV:=aa hm2;have qo:=aa hr;have sA:=aa hgr;have HX:=aa hx;obtain⟨S,hS⟩:∃S,S=((f.take j).map fun x:ByteArray×V=>V.item x.1 x.2.bytes).flatten:=⟨_,rfl⟩;rw[← hS] at hle qo ju lV ⊢;have HF:=aa (Hl.o _ (aW hlt));obtain⟨s,hs⟩:∃s,s=f[j].1:=⟨_,rfl⟩
  obtain⟨y,hy⟩:∃y,y=f[j].2:=⟨_,rfl⟩;have qP:=aa es';rw[← hs] at es im qP ju lV hle;rw[← hy] at HX ju lV hle HF;clear hr hgr hx fE bU hm2 hS hB hs es';have hwr:IntKind.u8.wrap (s.size:Int)=(s.size:Int) % 256:=Kl _;have hcb:=hc 4;go_wp2_with fail
  go_region_held3 (fun w'=>w'.cell? ⟨w.heap.size,4,none⟩=some (.slice (some ⟨bk,o,none⟩) f.length cF)∧w'.cell? ⟨bk,o+j*6,none⟩=some (.string s)) (first | go_keep | exact⟨gz,BX⟩ | exact⟨hc3,hd3⟩) (first | (refine oJ (ys:=[UInt8.ofNat s.size]) (by rfl) (.tmp 81) (.tmp 90) _ (by rfl) (by rfl) (qo.o.drew.alloc _) _ (by rfl) (kG _ (Ha _) (cX (by simp) _ _)) (by simp only[aT,bz];omega) (by simp;omega) ?_;intro A3 c3 w3 hr3 hg3;have aV:=aa (hg3.blk (mC.o.drew.alloc _) (qA qo.o mC.o (by decide)));have hc3:=aV.o.cell 4;have aP:=aa (cU (sA.o.drew.alloc _) (eJ (eI hg3 (qo.o.drew.alloc _) (by simp;omega)) (by omega)));have fT:=aa hr3;have hd3:w3.cell? ⟨bk,o+j*6,none⟩=some (.string s):=(Grow.below aP.o |>.cell vN).trans qP.o;clear hr3 hg3) | (refine oJ (ys:=s.data.toList) (by rfl) (.tmp 91) (.tmp 97) _ (by rfl) (by rfl) fT.o _ (by rfl) (ajW s) (by simp only[aT,bz,yJ];have:s.data.size=s.size:=rfl;omega) (by have:=aV.o.lt;omega) ?_;intro A4 c4 w4 hr4 hg4;have av:=aa (hg4.blk aV.o (qA fT.o aV.o (by decide)));have gz:=av.o.cell 4;have cj:=aa (cU aP.o (eJ (eI hg4 fT.o (by have:=aV.o.lt;omega)) (by omega)));have dP:=aa hr4;have BX:w4.cell? ⟨bk,o+j*6,none⟩=some (.string s):=(Grow.below cj.o |>.cell vN).trans qP.o;clear hr4 hg4))
  have alk:=av.o.cell;have amP:=av.o.lt;obtain⟨nW,o2,y2,ha2,hbk2,es2,_,f0,f1,f2,f3,f4,hx2⟩:=eN.iF (HV.o.grow cj.o) j hlt;injection ha2 with ha2;injection ha2 with hz1 hz2;subst hz1 hz2;rw[← hy] at hx2;have Nc:=aa hx2;have hsz:s.data.toList.length=s.size:=by rw[yJ];rfl
  have hr4:=dP.o;rw[show 2+S.length+[UInt8.ofNat s.size].length+s.data.toList.length=2+S.length+1+s.size by rw[hsz];rfl] at hr4;have HRf:=aa hr4;clear hx2 hy hr4 dP hsz;go_wp2_with fail;refine(HF.o _ y2 Nc.o (by omega)).mono ?_;rintro e w5 ⟨amQ,A5,c5,rfl,cr,iw,bP⟩;have bN:=aa (tO cj.o bP);have h_:=aa iw;have lS:=aa (HRf.o.grow bP);have vV:=av.o.grow bP;have ar:=aa vV;have amR:=bP.size;clear iw bP f0 f1 f2 f3 f4 alk vV
  go_wp2_with (first | (at_builtin;refine gy (ys:=y.bytes) rfl (.tmp 99) (.tmp 106) _ rfl rfl lS.o _ rfl (fe eH h_.o.reads.1 (i6 _)) (by omega) (by omega) ?_;intro A6 c6 w6 pW cH;have bp:=aa (cU bN.o (eJ (eI cH lS.o (by omega)) (by omega)));have dg:=aa (cH.blk ar.o (qA lS.o ar.o (by decide)));have xJ:=aa pW;have D7:=cH.size;clear pW cH));go_roundg gk';have e2:2+S.length+1+s.size+y.bytes.length=2+((f.take (j+1)).map fun x=>V.item x.1 x.2.bytes).flatten.length:=by rw[lV.o];omega
  refine⟨j+1,A6,c6,by omega,by omega,by go_num,by rw[e2],?_,bp.o,by omega,dg.o⟩;rw[← e2,ju.o];simpa [V.item] using xJ.o;omega
 obtain rfl:j=f.length:=by omega
 rw[fS] at hr ⊢;have qo:=aa hr;have sA:=aa hgr;clear hr hgr hg hlt;go_wp2_with fail;go_ret;exact lB.of (by rw[AK];simp;omega) (by rw[AK]) (by omega) qo.o sA.o
theorem alm(v:V):v.formed=true→Ue v:=by
 induction v using V.ind with
 | h k n b l f hl hf =>
  intro fF w c hv hm;rcases rU fF with h | ⟨_,_,h⟩ | ⟨_,h⟩ | ⟨_,h⟩ | ⟨_,_,h⟩ | ⟨_,h⟩ | ⟨l',hl',h⟩ | ⟨f',hf',hnd,h⟩
  ·cases h;exact alc w c hv
  ·cases h;exact ald w c _ hv
  ·cases h;exact ale w c _ hv
  ·cases h;exact alf w c _ hv
  ·cases h;exact alg w c _ hv (by rw[i7] at hm;simp[jG] at hm;omega)
  ·cases h;exact alh w c _ hv (by rw[i7] at hm;simp[jG] at hm;omega)
  ·cases h
   exact ali w c _ (fun x hx=>hl x hx (hl' x hx)) hv (by rw[C9] at hm;simp only[aT] at hm;omega)
  cases h
  exact alj w c _ (fun x hx=>hf x hx (hf' x hx).2) hv (by rw[AK] at hm;simp only[aT] at hm;omega)
end
abbrev xI:=@Row.lit
abbrev amS:=@lB.of
section
open Go.RowKit Go.Shelf
theorem aln(v:V):∀(w:World) (c:Cv),In w v c →
 Calls prog 101 #[c.agg] w fun e w'=>e=.returned (.bool (decide (64<v.most)))∧Grow w w':=by
 induction v using V.ind with
 | h k n b l f hl hf =>
  intro w c hv;have HV:=aa hv;obtain⟨aB,aL,aF,cB,cL,cF,rfl,h1,h2,h3,h4,h5,h6,h7,h8,h9,hb⟩:=hv.open;have Hl:=aa hl;have Hf:=aa hf;obtain⟨iH,eW⟩:∃A,decide (64<(V.mk k n b l f).most)=A:=⟨_,rfl⟩;rw[eW];have HA:=aa eW;have yx:(64<l.length∨64<f.length∨(∃x∈l,64<x.most)∨∃x∈f,64<x.2.most)→iH=true:=fun h=>by
   rw[← eW,iC];have:=Ls k n b l f 64;rcases fh 64 (V.mk k n b l f).most with q | q
   ·exact q
   obtain⟨a1,a2,a3,a4⟩:=this.1 q;rcases h with h | h | ⟨x,hx,h⟩ | ⟨x,hx,h⟩
   ·omega
   ·omega
   ·have:=a3 x hx;omega
   have:=a4 x hx;omega
  have HY:=aa yx;clear hb h1 h2 h3 hl hf h4 h5 hv eW yx;by_cases b1:64<l.length
  ·obtain rfl:=HY.o (.inl b1);go_enter func101,ntmps101;go_wp2_with fail;go_ret;exact⟨rfl,(ah w).alloc _⟩
  by_cases b2:64<f.length
  ·obtain rfl:=HY.o (.inr (.inl b2));go_enter func101,ntmps101;go_wp2_with fail;go_ret;exact⟨rfl,(ah w).alloc _⟩
  go_enter func101,ntmps101;go_wp2_with fail;go_loopg [3] (l.length+1) (fun gk i wr=>∃j:Nat,j≤l.length∧gk+j=l.length+1∧i=.int .i64 j∧(∀t (h:t<l.length),t<j→l[t].most≤64) ∧
   Grow w wr∧Blk wr w.heap.size 27 (Cv.cells ⟨k,(n:Int),aB,b.length,cB,aL,l.length,cL,aF,f.length,cF⟩))
  exact⟨0,by omega,by omega,rfl,fun t _ h=>absurd h (by omega),(ah w).alloc _,aD _ _ _⟩;obtain⟨j,hj,hg,rfl,ht,hw,hB⟩:=hrel;obtain⟨gk',rfl⟩:=bS gk (by omega);have hc:=hB.cell;have hBl:=hB.lt;have qm:=aa ht;have HW:=aa hw;have HB:=aa hB;by_cases hlt:j<l.length
  ·obtain⟨bk,o,x,ha,hbk,e0,e1,e2,e3,e4,hx⟩:=In.fO (HV.o.grow hw) j hlt;dsimp only at ha;subst ha;have HX:=aa hx;clear hw hx hB ht;go_wp2_with fail;refine(Hl.o _ (aW hlt) _ x HX.o).mono ?_;rintro e w' ⟨rfl,hb'⟩;have hgr:=aa hb';clear hb' e0 e1 e2 e3 e4 hc;obtain⟨R,hR⟩:∃R,decide (64<l[j].most)=R:=⟨_,rfl⟩;rw[hR];have HR:=aa hR;clear hR
   cases R
   ·go_wp2_with fail;go_roundg gk';refine⟨j+1,by omega,by omega,by go_num,fun t h1 h2=>?_,HW.o.trans hgr.o,HB.o.grow hgr.o⟩;rcases fh t j with h | h
    ·exact qm.o t h1 h
    obtain rfl:t=j:=by omega
    have:=of_decide_eq_false HR.o;omega;omega
   go_wp2_with fail;go_ret;refine⟨dE (HY.o (.inr (.inr (.inl ⟨l[j],aW hlt,yI HR.o⟩)))).symm,HW.o.trans hgr.o⟩
  obtain rfl:j=l.length:=by omega
  clear hw hB hlt hg ht;go_wp2_with fail;go_loopg [4] (f.length+1) (fun gk i wr=>∃j:Nat,j≤f.length∧gk+j=f.length+1∧i=.int .i64 j∧(∀t (h:t<f.length),t<j→f[t].2.most≤64) ∧
   Grow w wr∧Blk wr w.heap.size 27 (Cv.cells ⟨k,(n:Int),aB,b.length,cB,aL,l.length,cL,aF,f.length,cF⟩))
  exact⟨0,by omega,by omega,rfl,fun t _ h=>absurd h (by omega),HW.o,HB.o⟩;obtain⟨j,hj,hg,rfl,ht,hw,hB⟩:=hrel;obtain⟨gk',rfl⟩:=bS gk (by omega);clear hc hBl;have hc:=hB.cell;have hBl:=hB.lt;have HTf:=aa ht;have CI:=aa hw;have Ug:=aa hB;by_cases hlt:j<f.length
  ·obtain⟨bk,o,x,ha,hbk,es,im,e0,e1,e2,e3,e4,hx⟩:=In.iF (HV.o.grow hw) j hlt;dsimp only at ha;subst ha;have HX:=aa hx;clear hw hx hB ht es;go_wp2_with fail;refine(Hf.o _ (aW hlt) _ x HX.o).mono ?_;rintro e w' ⟨rfl,hb'⟩;have hgr:=aa hb';clear hb' e0 e1 e2 e3 e4 hc;obtain⟨R,hR⟩:∃R,decide (64<f[j].2.most)=R:=⟨_,rfl⟩;rw[hR];have HR:=aa hR;clear hR
   cases R
   ·go_wp2_with fail;go_roundg gk';refine⟨j+1,by omega,by omega,by go_num,fun t h1 h2=>?_,CI.o.trans hgr.o,Ug.o.grow hgr.o⟩;rcases fh t j with h | h
    ·exact HTf.o t h1 h
    obtain rfl:t=j:=by omega
    have:=of_decide_eq_false HR.o;omega;omega
   go_wp2_with fail;go_ret;refine⟨dE (HY.o (.inr (.inr (.inr ⟨f[j],aW hlt,yI HR.o⟩)))).symm,CI.o.trans hgr.o⟩
  obtain rfl:j=f.length:=by omega
  have hno:iH=false:=by
   rw[← HA.o,j4];have:=(Ls k n b l f 64).2 ⟨by omega,by omega,fun x hx=>?_,fun x hx=>?_⟩
   ·omega
   ·obtain⟨i,hi,rfl⟩:=tG.1 hx;exact qm.o i hi hi
   obtain⟨i,hi,rfl⟩:=tG.1 hx;exact HTf.o i hi hi
  subst hno;clear hw hB hlt hg ht;go_wp2_with fail;go_ret;exact⟨rfl,CI.o⟩
theorem alo(v:V):∀(w:World) (c:Cv),v.formed=true→v.depth≤1099511627776→In w v c →
 Calls prog 102 #[c.agg] w fun e w'=>e=.returned (.int .i64 v.depth)∧Grow w w':=by
 induction v using V.ind with
 | h k n b l f hl hf =>
  intro w c fF rH hv;have HV:=aa hv;obtain⟨aB,aL,aF,cB,cL,cF,rfl,h1,h2,h3,h4,h5,h6,h7,h8,h9,hb⟩:=hv.open;have CH:=fF;rw[rT] at CH;simp only[il,nS] at CH;obtain⟨⟨⟨ho,hfl⟩,mB⟩,_⟩:=CH;simp only[V.own,il,iC] at ho;have Dx:1≤k∧k≤8:=by omega
  have ej:∀x∈l,x.depth≤1099511627776:=fun x hx=>bn (V.Od hx) rH
  have IY:∀x∈f,x.2.depth≤1099511627776:=fun x hx=>bn (V.Oe hx) rH
  have qU:=aa ej;have IZ:=aa IY;have oa:=aa hfl;have jt:=aa mB;have Hl:=aa hl;have Hf:=aa hf;obtain⟨K,hK⟩:∃K,K=(V.mk k n b l f).depth:=⟨_,rfl⟩;rw[← hK] at rH ⊢;have JW:=hK;rw[V.yS] at JW;obtain⟨M,hM⟩:∃M,M=(f.map fun x=>x.2.depth).foldl max ((l.map V.depth).foldl max 0):=⟨_,rfl⟩;rw[← hM] at JW;have HM:=aa hM;have Qb:M≤1099511627776:=by split at JW<;>omega
  have HK:=aa JW;clear hb h1 h2 h3 hl hf h4 h5 hv fF ho hfl mB ej IY hK JW hM;go_enter func102,ntmps102;go_wp2_with fail;go_loopg [3,4] (l.length+1) (fun gk m i wr=>∃j:Nat,j≤l.length∧gk+j=l.length+1∧i=.int .i64 j∧m=.int .i64 ((((l.take j).map V.depth).foldl max 0:Nat):Int) ∧
   Grow w wr∧Blk wr w.heap.size 27 (Cv.cells ⟨k,(n:Int),aB,b.length,cB,aL,l.length,cL,aF,f.length,cF⟩))
  exact⟨0,by omega,by omega,rfl,by simp,(ah w).alloc _,aD _ _ _⟩;obtain⟨j,hj,hg,rfl,rfl,hw,hB⟩:=hrel;obtain⟨gk',rfl⟩:=bS gk (by omega);have hc:=hB.cell;have hBl:=hB.lt;have HW:=aa hw;have HB:=aa hB;by_cases hlt:j<l.length
  ·obtain⟨bk,o,x,ha,hbk,e0,e1,e2,e3,e4,hx⟩:=In.fO (HV.o.grow hw) j hlt;dsimp only at ha;subst ha;have HX:=aa hx;have hm:=C6 V.depth l 0 j hlt;have ju:=aa hm;clear hw hx hB hm;go_wp2_with fail;refine(Hl.o _ (aW hlt) _ x (oa.o _ (aW hlt)) (qU.o _ (aW hlt)) HX.o).mono ?_;rintro e w' ⟨rfl,hb'⟩;have hgr:=aa hb';clear hb' e0 e1 e2 e3 e4 hc;go_wp2_with fail
   all_goals
    go_roundg gk'
    exact⟨j+1,by omega,by omega,by go_num,by rw[ju.o];go_num,HW.o.trans hgr.o,HB.o.grow hgr.o⟩
    omega
  obtain rfl:j=l.length:=by omega
  rw[fS];clear hw hB hlt hg;go_wp2_with fail;go_loopg [3,5] (f.length+1) (fun gk m i wr=>∃j:Nat,j≤f.length∧gk+j=f.length+1∧i=.int .i64 j∧m=.int .i64 ((((f.take j).map fun x=>x.2.depth).foldl max ((l.map V.depth).foldl max 0):Nat):Int) ∧
   Grow w wr∧Blk wr w.heap.size 27 (Cv.cells ⟨k,(n:Int),aB,b.length,cB,aL,l.length,cL,aF,f.length,cF⟩))
  exact⟨0,by omega,by omega,rfl,by simp,HW.o,HB.o⟩;obtain⟨j,hj,hg,rfl,rfl,hw,hB⟩:=hrel;obtain⟨gk',rfl⟩:=bS gk (by omega);clear hc hBl;have hc:=hB.cell;have hBl:=hB.lt;have CI:=aa hw;have Ug:=aa hB;by_cases hlt:j<f.length
  ·obtain⟨bk,o,x,ha,hbk,es,im,e0,e1,e2,e3,e4,hx⟩:=In.iF (HV.o.grow hw) j hlt;dsimp only at ha;subst ha;have HX:=aa hx;have hm:=C6 (fun x:ByteArray×V=>x.2.depth) f ((l.map V.depth).foldl max 0) j hlt;have ju:=aa hm;have alp:=aa (jt.o _ (aW hlt)).2;clear hw hx hB hm es;go_wp2_with fail;refine(Hf.o _ (aW hlt) _ x alp.o (IZ.o _ (aW hlt)) HX.o).mono ?_;rintro e w' ⟨rfl,hb'⟩;have hgr:=aa hb';clear hb' e0 e1 e2 e3 e4 hc;go_wp2_with fail
   all_goals
    go_roundg gk'
    exact⟨j+1,by omega,by omega,by go_num,by rw[ju.o];go_num,CI.o.trans hgr.o,Ug.o.grow hgr.o⟩
    omega
  obtain rfl:j=f.length:=by omega
  rw[fS,← HM.o];clear hw hB hlt hg;by_cases hk:7≤k
  ·have Uh:K=1+M:=by rw[HK.o,aw (by omega)]
   go_wp2_with fail;go_ret;exact⟨cA (by rw[Uh];omega),CI.o⟩
  have Uh:K=M:=by rw[HK.o,ai (by omega),dY]
  go_wp2_with fail;go_ret;exact⟨cA (by first | rfl | rw[Uh]),CI.o⟩
theorem Wl(v:V)(w:World)(c:Cv)(hd:v.depth≤1099511627776)(hsz:v.formed=true→v.bytes.length≤140737488355328)(hv:In w v c) :
 Calls prog 55 #[c.agg] w fun e w'=>e=.returned (.int .i64 v.good)∧Grow w w':=by
 have HV:=aa hv;have HSZ:=aa hsz;obtain⟨iH,eW⟩:∃A,v.good=A:=⟨_,rfl⟩;rw[eW];have HA:=aa eW;clear hv eW hsz;have bg:=aa (aD w 27 c.cells);have aM:=aa ((ah w).alloc (.cells c.cells 27));go_enter func55,ntmps55;go_wp2_with fail;refine(ala v _ c (HV.o.grow aM.o)).mono ?_;rintro e w1 ⟨rfl,hg1⟩;have fB:=bg.o.grow hg1;have hc:=fB.cell;have hBl:=fB.lt;have aQ:=aa fB;have aO:=aa (aM.o.trans hg1);clear hg1 fB;obtain⟨R,hR⟩:∃R,v.formed=R:=⟨_,rfl⟩;rw[hR];have HR:=aa hR;clear hR
 cases R
 ·go_wp2_with fail;go_ret;exact⟨cA (by rw[← HA.o,V.good,aw HR.o]),aO.o⟩
 go_wp2_with fail;refine(aln v _ c (HV.o.grow aO.o)).mono ?_;rintro e w2 ⟨rfl,hg2⟩;have d_:=aQ.o.grow hg2;clear hc hBl;have hc:=d_.cell;have hBl:=d_.lt;have aG:=aa d_;have HG2:=aa (aO.o.trans hg2);clear hg2 d_;by_cases m1:64<v.most
 ·rw[bW m1];go_wp2_with fail;go_ret;exact⟨cA (by rw[← HA.o,V.good,ai (by rw[HR.o];decide),aw m1]),HG2.o⟩
 rw[bX m1];obtain⟨D,hD⟩:∃D,v.depth=D:=⟨_,rfl⟩;have HD:=aa hD;go_wp2_with fail;refine(alo v _ c HR.o hd (HV.o.grow HG2.o)).mono ?_;rintro e w3 ⟨rfl,hg3⟩;have fZ:=aG.o.grow hg3;clear hc hBl;have hc:=fZ.cell;have hBl:=fZ.lt;have aV:=aa fZ;have aP:=aa (HG2.o.trans hg3);clear hg3 fZ;rw[hD];clear hD;by_cases d1:16<D
 ·go_wp2_with fail;go_ret;exact⟨cA (by rw[← HA.o,V.good,ai (by rw[HR.o];decide),ai m1,aw (by rw[HD.o];exact d1)]),aP.o⟩
 have hS:=HSZ.o HR.o;go_wp2_with fail;refine(alm v HR.o _ c (HV.o.grow aP.o) hS).mono ?_;rintro e w4 ⟨base,A4,c4,rfl,hb4,hr4,hg4⟩;have cj:=aa (aP.o.trans hg4);clear hg4 hr4 hc hBl;obtain⟨S,Ui⟩:∃S,v.bytes.length=S:=⟨_,rfl⟩;have HS:=aa Ui;rw[Ui];clear Ui hS;by_cases s1:4096<S
 ·go_wp2_with fail;go_ret;exact⟨cA (by rw[← HA.o,V.good,ai (by rw[HR.o];decide),ai m1,ai (by rw[HD.o];exact d1),aw (by rw[HS.o];exact s1)]),cj.o⟩
 go_wp2_with fail;go_ret;exact⟨cA (by rw[← HA.o,V.good,ai (by rw[HR.o];decide),ai m1,ai (by rw[HD.o];exact d1),ai (by rw[HS.o];exact s1)]),cj.o⟩
theorem Ig(v:V)(w:World)(c:Cv)(gB:v.count≤20000)(hsz:v.formed=true→v.bytes.length≤140737488355328)(hv:In w v c) :
 Calls prog 55 #[c.agg] w fun e w'=>e=.returned (.int .i64 v.good)∧Grow w w':=Wl v w c (Er gB) hsz hv
end
section
open Go.RowKit Go.Shelf
def CJ(x y:V):Prop:=∀(w:World) (c c':Cv),In w x c→In w y c' →
 Calls prog 113 #[c.agg,c'.agg] w fun e w'=>e=.returned (.int .i64 (V.cmp x y))∧Grow w w'
theorem abt(s:ByteArray):∃(cap:World→Nat) (BW:World→World),∀w,(convert 9 23 (.string s)).run prog w=.ok (.slice (some ⟨w.heap.size,0,none⟩) s.size (cap w)) (BW w)∧Grow w (BW w)∧bA (BW w) (some ⟨w.heap.size,0,none⟩) s.data.toList:=
 ⟨fun w=>Classical.choose (A_ w s),fun w=>Classical.choose (xd (A_ w s)),fun w=>by
  have h:=xd (xd (A_ w s));exact⟨h.1,h.2.2.1,h.2.2.2⟩⟩
theorem alq(x y:V)(h:cls x.k≠cls y.k):CJ x y:=by
 intro w c c' hx hy;obtain⟨k,n,b,l,f⟩:=x;obtain⟨k',n',b',l',f'⟩:=y;change cls k≠cls k' at h;have HE:=aa (show sg (cls k) (cls k')=V.cmp (.mk k n b l f) (.mk k' n' b' l' f') by rw[tu,aw h]);obtain⟨aB,aL,aF,cB,cL,cF,rfl,-⟩:=hx.open;obtain⟨bB,bL,bF,dB,dL,dF,rfl,-⟩:=hy.open;have HG:=aa (((ah w).alloc (.cells (Cv.mk k n aB b.length cB aL l.length cL aF f.length cF).cells 27)).alloc (.cells (Cv.mk k' n' bB b'.length dB bL l'.length dL bF f'.length dF).cells 27));have HA:=aa (fun w=>wV k w);have kB:=aa (fun w=>wV k' w);have HC:=aa (fun w=>rG (cls k) (cls k') w);have hz:(cls k != cls k')=true:=by simpa using h
 obtain⟨z,hzz⟩:∃z,sg (cls k) (cls k')=z:=⟨_,rfl⟩;rw[hzz] at HC HE;rw[← HE.o];clear hx hy h hzz;go_enter func113,ntmps113;go_wp2_with fail;go_quiet ((first | (go_at_call 158;exact Calls.quiet_of_same ((HA.o _).mono fun e w' h=>⟨h.1,h.2.symm⟩)) | (go_at_call 158;exact Calls.quiet_of_same ((kB.o _).mono fun e w' h=>⟨h.1,h.2.symm⟩)) | (go_at_call 159;exact Calls.quiet_of_same ((HC.o _).mono fun e w' h=>⟨h.1,h.2.symm⟩))));go_wp2_with fail;go_quiet ((first | (go_at_call 158;exact Nr (HA.o _)) | (go_at_call 158;exact Nr (kB.o _)) | (go_at_call 159;exact Nr (HC.o _))));go_wp2_with fail;go_ret;exact⟨rfl,(HG.o.drewN _).drewN _⟩
theorem Uj(k:Int)(n n':Nat)(b b':List UInt8)(l l':List V)(f f':List (ByteArray×V))(c c':Cv)(w:World)(hk2:(k==2)=false)(hk3:(k==3)=false)(hk4:(k==4)=false)(Rc:(k==5)=false)(wG:(k==6)=false)
 (hv:In w (.mk k n b l f) c) (hv':In w (.mk k n' b' l' f') c') (hl:∀x∈l,∀y∈l',CJ x y) (hf:∀x∈f,∀y∈f',CJ x.2 y.2) :
 Calls prog 113 #[c.agg,c'.agg] w fun e w'=>e=.returned (.int .i64 (dM (V.cmpL l l') (dM (V.l_ f f') (sg ((l.length:Int)+(f.length:Int)) ((l'.length:Int)+(f'.length:Int))))))∧Grow w w':=by
 obtain⟨aB,aL,aF,cB,cL,cF,rfl,h1,h2,h3,h4,h5,h6,h7,h8,h9,hb⟩:=hv.open;obtain⟨qC,tQ,tR,qD,tS,tT,rfl,h1',h2',h3',h4',qE,h6',Kz,xk,KA,hb'⟩:=hv'.open;have HV:=aa hv;have yV:=aa hv';have Hl:=aa hl;have Hf:=aa hf;have HA:=aa (fun w=>wV k w);have kB:=aa (fun w=>wV k w);have HC:=aa (fun w=>rG (cls k) (cls k) w);clear hv hv' hb hb' h1 h2 h3 h4 h5 h6 h8 h1' h2' h3' h4' qE h6' xk hl hf;go_enter func113,ntmps113;go_wp2_with fail;go_quiet ((first | (go_at_call 158;exact Calls.quiet_of_same ((HA.o _).mono fun e w' h=>⟨h.1,h.2.symm⟩)) | (go_at_call 158;exact Calls.quiet_of_same ((kB.o _).mono fun e w' h=>⟨h.1,h.2.symm⟩)) | (go_at_call 159;exact Calls.quiet_of_same ((HC.o _).mono fun e w' h=>⟨h.1,h.2.symm⟩))));go_wp2_with fail
 go_loopg [5] (l.length+1) (fun gk i wr=>∃j:Nat,j≤l.length∧j≤l'.length∧gk+j=l.length+1∧i=.int .i64 j∧(∀i (h1:i<l.length) (h2:i<l'.length),i<j→V.cmp l[i] l'[i]=0)∧Grow w wr ∧
  Blk wr w.heap.size 27 (Cv.cells ⟨k,(n:Int),aB,b.length,cB,aL,l.length,cL,aF,f.length,cF⟩)∧Blk wr (w.heap.size+1) 27 (Cv.cells ⟨k,(n':Int),qC,b'.length,qD,tQ,l'.length,tS,tR,f'.length,tT⟩))
 exact⟨0,by omega,by omega,by omega,rfl,fun i _ _ h=>absurd h (by omega),(((ah w).alloc _).alloc _).drewN _,((aD _ _ _).alloc _).drewN _,(cX (by simp) _ _).drewN _⟩;obtain⟨j,hj,hjb,hg,rfl,heq,hw,hB,hB'⟩:=hrel;obtain⟨gk',rfl⟩:=bS gk (by omega);have hc3:=hB.cell;have AO:=hB'.cell;have HW:=aa hw;have gY:=aa heq;have HB:=aa hB;have jH:=aa hB';have hz0:w.heap.size<wr.heap.size:=HB.o.lt;have hz1:w.heap.size+1<wr.heap.size:=jH.o.lt;by_cases hlt:j<l.length∧j<l'.length
 ·obtain⟨iO,hlt'⟩:=hlt;obtain⟨bk,o,x,ha,hbk,e0,e1,e2,e3,e4,hx⟩:=(HV.o.grow hw).fO j iO;obtain⟨tU,o',x',ha',vN,Dc,FT,e2',e3',FU,hx'⟩:=(yV.o.grow hw).fO j hlt';dsimp only at ha ha';subst ha ha';have HX:=aa hx;have qF:=aa hx';have vO:=aa (Hl.o _ (aW iO) _ (aW hlt'));clear hw hx hx' hB hB' heq;obtain⟨z,hz⟩:∃z,V.cmp l[j] l'[j]=z:=⟨_,rfl⟩;have HJ:=aa (fun w2 (hgr:Grow wr w2)=>vO.o w2 x x' (HX.o.grow hgr) (qF.o.grow hgr));rw[hz] at HJ;have HZ:=aa hz;clear hz;by_cases he:z=0
  ·subst he;go_wp2_with fail;go_region_held3 (fun w'=>∀b o,b<wr.heap.size→w'.cell? ⟨b,o,none⟩=wr.cell? ⟨b,o,none⟩) (first | exact fun _ _ _=>rfl | exact fun b o h=>hgr.below.cell (p:=⟨b,o,none⟩) h)
    (first | (go_at_call 113;refine(HJ.o _ (ah wr).drew).mono ?_;rintro e w2 ⟨rfl,hb2⟩;have hgr:Grow wr w2:=(ah wr).drew.trans hb2))
   have aH:=aa hgr;clear hgr hb2;go_wp2_with fail;go_roundg gk';refine⟨j+1,by omega,by omega,by omega,by go_num,fun i h1 h2 h3=>?_,HW.o.trans aH.o,HB.o.grow aH.o,jH.o.grow aH.o⟩;rcases fh i j with h | h
   ·exact gY.o i h1 h2 h
   obtain rfl:i=j:=by omega
   exact HZ.o;omega
  have E7:(z != 0)=true:=by simpa using he
  have HE:=aa he;have HR:=aa (V.aa3 iO hlt' gY.o (by rw[HZ.o];exact he));clear he;go_wp2_with fail;go_region_held3 (fun w'=>∀b o,b<wr.heap.size→w'.cell? ⟨b,o,none⟩=wr.cell? ⟨b,o,none⟩) (first | exact fun _ _ _=>rfl | exact fun b o h=>hgr.below.cell (p:=⟨b,o,none⟩) h)
   (first | (go_at_call 113;refine(HJ.o _ (ah wr).drew).mono ?_;rintro e w2 ⟨rfl,hb2⟩;have hgr:Grow wr w2:=(ah wr).drew.trans hb2))
  have aH:=aa hgr;clear hgr hb2;go_wp2_with fail;go_ret;refine⟨cA ?_,HW.o.trans aH.o⟩;rw[HR.o,HZ.o,nu _ HE.o]
 have z_:=aa (show V.cmpL l l'=0 from V.aa4 (fun i h1 h2=>gY.o i h1 h2 (by omega)));have hend:j=l.length∨(j<l.length∧j=l'.length):=by omega
 clear hw hB hB' heq gY hlt hg;rcases hend with hjl | ⟨hjl,Uk⟩
 all_goals
  first | subst hjl | skip
  try subst Uk
  go_wp2_with fail
  go_loopg [7] (f.length+1) (fun gk i wr=>∃j:Nat,j≤f.length∧j≤f'.length∧gk+j=f.length+1∧i=.int .i64 j∧(∀i (h1:i<f.length) (h2:i<f'.length),i<j→V.rB f[i] f'[i]=0)∧Grow w wr ∧
   Blk wr w.heap.size 27 (Cv.cells ⟨k,(n:Int),aB,b.length,cB,aL,l.length,cL,aF,f.length,cF⟩)∧Blk wr (w.heap.size+1) 27 (Cv.cells ⟨k,(n':Int),qC,b'.length,qD,tQ,l'.length,tS,tR,f'.length,tT⟩))
  exact⟨0,by omega,by omega,by omega,rfl,fun i _ _ h=>absurd h (by omega),HW.o,HB.o,jH.o⟩
  obtain⟨j,hj,hjb,hg,rfl,heq,hw,hB,hB'⟩:=hrel
  obtain⟨gk',rfl⟩:=bS gk (by omega)
  clear hc3 AO HW HB jH hz0 hz1
  have hc3:=hB.cell
  have AO:=hB'.cell
  have HW:=aa hw
  have gY:=aa heq
  have HB:=aa hB
  have jH:=aa hB'
  have hz0:w.heap.size<wr.heap.size:=HB.o.lt
  have hz1:w.heap.size+1<wr.heap.size:=jH.o.lt
  by_cases hlt:j<f.length∧j<f'.length
  ·obtain⟨iO,hlt'⟩:=hlt
   obtain⟨bk,o,x,ha,hbk,es,im,e0,e1,e2,e3,e4,hx⟩:=(HV.o.grow hw).iF j iO
   obtain⟨tU,o',x',ha',vN,es',Dd,Dc,FT,e2',e3',FU,hx'⟩:=(yV.o.grow hw).iF j hlt'
   dsimp only at ha ha'
   subst ha ha'
   have HX:=aa hx
   have qF:=aa hx'
   have vO:=aa (Hf.o _ (aW iO) _ (aW hlt'))
   clear hw hx hx' hB hB' heq
   have HP:=aa (show V.rB f[j] f'[j]=dM (Lib.compareBytes f[j].1.data.toList f'[j].1.data.toList) (V.cmp f[j].2 f'[j].2) from rfl)
   obtain⟨s1,hs1⟩:∃s,f[j].1=s:=⟨_,rfl⟩
   obtain⟨s2,hs2⟩:∃s,f'[j].1=s:=⟨_,rfl⟩
   obtain⟨z2,hz2⟩:∃z,V.cmp f[j].2 f'[j].2=z:=⟨_,rfl⟩
   have HJ:=aa (fun w2 (hgr:Grow wr w2)=>vO.o w2 x x' (HX.o.grow hgr) (qF.o.grow hgr))
   rw[hz2] at HJ HP
   rw[hs1,hs2] at HP
   rw[hs1] at es im
   rw[hs2] at es' Dd
   have HT:=aa (fun W A B c d (ha:bA W A s1.data.toList) (hb:bA W B s2.data.toList)=>abr s1.data.toList s2.data.toList A B c d W ha hb (by simpa using im) (by simpa using Dd))
   rw[show s1.data.toList.length=s1.size by simp,show s2.data.toList.length=s2.size by simp] at HT
   obtain⟨z1,yA⟩:∃z,Lib.compareBytes s1.data.toList s2.data.toList=z:=⟨_,rfl⟩
   rw[yA] at HT HP
   clear hs1 hs2 hz2 yA im Dd
   obtain⟨p1,B1,fB⟩:=abt s1
   obtain⟨p2,B2,d_⟩:=abt s2
   have hr1:=fun w=>(fB w).1
   have hr2:=fun w=>(d_ w).1
   have G1:=aa (fun w=>(fB w).2.1)
   have G2:=aa (fun w=>(d_ w).2.1)
   have I1:=aa (fun w=>(fB w).2.2)
   have I2:=aa (fun w=>(d_ w).2.2)
   clear fB d_
   by_cases hzz:z1=0
   ·subst hzz
    rw[iR] at HP
    by_cases he:z2=0
    ·subst he
     go_upto_region 21 with fail
     go_cut [8] from 76 to 122 (fun k wx=>k=.int .i64 0∧Grow wr wx)
     case first =>
      refine dN ?_
      refine dO (S:=fun w'=>∀b o,b<wr.heap.size→w'.cell? ⟨b,o,none⟩=wr.cell? ⟨b,o,none⟩) (by kernel_rfl) (fun _ _ _=>rfl) (fun hHeld=>?_)
      refine aj 0 ?_
      refine aj 1 ?_
      refine aj 2 ?_
      refine aj 3 ?_
      refine aj 4 ?_
      refine aj 5 ?_
      refine aj 7 ?_
      refine aj 8 ?_
      refine aj 9 ?_
      refine aj 10 ?_
      refine aj 11 ?_
      refine aj 12 ?_
      refine bZ [6,13] ?_
      refine eK (fun K hK=>?_) ?_
      ·go_simp
       refine aU hK (fun b o h=>((ah wr).drew.trans (G1.o _)).below.cell (p:=⟨b,o,none⟩) h) (fun hHeld=>?_)
       clear hK K
       refine aK 13 (fun K hK=>?_)
       go_simp
       refine aU hK (fun b o h=>(((ah wr).drew.trans (G1.o _)).trans (G2.o _)).below.cell (p:=⟨b,o,none⟩) h) (fun hHeld=>?_)
       clear hK K
       refine aK 14 (fun K hK=>?_)
       go_simp
       go_at_call 161
       refine(HT.o _ _ _ _ _ ((I1.o _).grow (G2.o _)) (I2.o _)).mono ?_
       rintro e wt ⟨rfl,vr⟩
       have hgt:Grow wr wt:=(((ah wr).drew.trans (G1.o _)).trans (G2.o _)).trans vr
       refine aU hK (fun b o h=>(hgt).below.cell (p:=⟨b,o,none⟩) h) (fun hHeld=>?_)
       clear hK K
       refine aj 15 ?_
       refine cz ?_
       go_wp2_with fail
       go_meet
       exact⟨rfl,hgt⟩
      refine eK (fun K hK=>?_) bY
      go_simp
      refine aU hK (fun b o h=>((ah wr).drew.trans (G2.o _)).below.cell (p:=⟨b,o,none⟩) h) (fun hHeld=>?_)
      clear hK K
      refine aK 6 (fun K hK=>?_)
      go_simp
      refine aU hK (fun b o h=>(((ah wr).drew.trans (G2.o _)).trans (G1.o _)).below.cell (p:=⟨b,o,none⟩) h) (fun hHeld=>?_)
      clear hK K
      refine aK 14 (fun K hK=>?_)
      go_simp
      go_at_call 161
      refine(HT.o _ _ _ _ _ (I1.o _) ((I2.o _).grow (G1.o _))).mono ?_
      rintro e wt ⟨rfl,vr⟩
      have hgt:Grow wr wt:=(((ah wr).drew.trans (G2.o _)).trans (G1.o _)).trans vr
      refine aU hK (fun b o h=>(hgt).below.cell (p:=⟨b,o,none⟩) h) (fun hHeld=>?_)
      clear hK K
      refine aj 15 ?_
      refine cz ?_
      go_wp2_with fail
      go_meet
      exact⟨rfl,hgt⟩
     obtain⟨rfl,hgt⟩:=hcut
     rename World=>wx
     have ow:=aa hgt
     clear hgt
     have hct:=(HB.o.grow ow.o).cell
     have amT:=(jH.o.grow ow.o).cell
     have E9:∀b o,b<wr.heap.size→wx.cell? ⟨b,o,none⟩=wr.cell? ⟨b,o,none⟩:=fun b o h=>ow.o.below.cell (p:=⟨b,o,none⟩) h
     have hzt:=ow.o.size
     go_wp2_with fail
     go_region_held3 (fun w'=>∀b o,b<wr.heap.size→w'.cell? ⟨b,o,none⟩=wr.cell? ⟨b,o,none⟩) (first | exact E9 | exact fun b o h=>hgr.below.cell (p:=⟨b,o,none⟩) h)
      (first | (go_at_call 113;refine(HJ.o _ ow.o.drew).mono ?_;rintro e w2 ⟨rfl,hb2⟩;have hgr:Grow wr w2:=ow.o.drew.trans hb2))
     have aH:=aa hgr
     clear hgr hb2
     go_wp2_with fail
     go_roundg gk'
     refine⟨j+1,by omega,by omega,by omega,by go_num,fun i h1 h2 h3=>?_,HW.o.trans aH.o,HB.o.grow aH.o,jH.o.grow aH.o⟩
     rcases fh i j with h | h
     ·exact gY.o i h1 h2 h
     obtain rfl:i=j:=by omega
     exact HP.o
     omega
    have E7:(z2 != 0)=true:=by simpa using he
    have HE:=aa he
    have HR:=aa (V.TI iO hlt' gY.o (by rw[HP.o];exact he))
    clear he
    go_upto_region 21 with fail
    go_cut [8] from 76 to 122 (fun k wx=>k=.int .i64 0∧Grow wr wx)
    case first =>
     refine dN ?_
     refine dO (S:=fun w'=>∀b o,b<wr.heap.size→w'.cell? ⟨b,o,none⟩=wr.cell? ⟨b,o,none⟩) (by kernel_rfl) (fun _ _ _=>rfl) (fun hHeld=>?_)
     refine aj 0 ?_
     refine aj 1 ?_
     refine aj 2 ?_
     refine aj 3 ?_
     refine aj 4 ?_
     refine aj 5 ?_
     refine aj 7 ?_
     refine aj 8 ?_
     refine aj 9 ?_
     refine aj 10 ?_
     refine aj 11 ?_
     refine aj 12 ?_
     refine bZ [6,13] ?_
     refine eK (fun K hK=>?_) ?_
     ·go_simp
      refine aU hK (fun b o h=>((ah wr).drew.trans (G1.o _)).below.cell (p:=⟨b,o,none⟩) h) (fun hHeld=>?_)
      clear hK K
      refine aK 13 (fun K hK=>?_)
      go_simp
      refine aU hK (fun b o h=>(((ah wr).drew.trans (G1.o _)).trans (G2.o _)).below.cell (p:=⟨b,o,none⟩) h) (fun hHeld=>?_)
      clear hK K
      refine aK 14 (fun K hK=>?_)
      go_simp
      go_at_call 161
      refine(HT.o _ _ _ _ _ ((I1.o _).grow (G2.o _)) (I2.o _)).mono ?_
      rintro e wt ⟨rfl,vr⟩
      have hgt:Grow wr wt:=(((ah wr).drew.trans (G1.o _)).trans (G2.o _)).trans vr
      refine aU hK (fun b o h=>(hgt).below.cell (p:=⟨b,o,none⟩) h) (fun hHeld=>?_)
      clear hK K
      refine aj 15 ?_
      refine cz ?_
      go_wp2_with fail
      go_meet
      exact⟨rfl,hgt⟩
     refine eK (fun K hK=>?_) bY
     go_simp
     refine aU hK (fun b o h=>((ah wr).drew.trans (G2.o _)).below.cell (p:=⟨b,o,none⟩) h) (fun hHeld=>?_)
     clear hK K
     refine aK 6 (fun K hK=>?_)
     go_simp
     refine aU hK (fun b o h=>(((ah wr).drew.trans (G2.o _)).trans (G1.o _)).below.cell (p:=⟨b,o,none⟩) h) (fun hHeld=>?_)
     clear hK K
     refine aK 14 (fun K hK=>?_)
     go_simp
     go_at_call 161
     refine(HT.o _ _ _ _ _ (I1.o _) ((I2.o _).grow (G1.o _))).mono ?_
     rintro e wt ⟨rfl,vr⟩
     have hgt:Grow wr wt:=(((ah wr).drew.trans (G2.o _)).trans (G1.o _)).trans vr
     refine aU hK (fun b o h=>(hgt).below.cell (p:=⟨b,o,none⟩) h) (fun hHeld=>?_)
     clear hK K
     refine aj 15 ?_
     refine cz ?_
     go_wp2_with fail
     go_meet
     exact⟨rfl,hgt⟩
    obtain⟨rfl,hgt⟩:=hcut
    rename World=>wx
    have ow:=aa hgt
    clear hgt
    have E9:∀b o,b<wr.heap.size→wx.cell? ⟨b,o,none⟩=wr.cell? ⟨b,o,none⟩:=fun b o h=>ow.o.below.cell (p:=⟨b,o,none⟩) h
    have hzt:=ow.o.size
    go_wp2_with fail
    go_region_held3 (fun w'=>∀b o,b<wr.heap.size→w'.cell? ⟨b,o,none⟩=wr.cell? ⟨b,o,none⟩) (first | exact E9 | exact fun b o h=>hgr.below.cell (p:=⟨b,o,none⟩) h)
     (first | (go_at_call 113;refine(HJ.o _ ow.o.drew).mono ?_;rintro e w2 ⟨rfl,hb2⟩;have hgr:Grow wr w2:=ow.o.drew.trans hb2))
    have aH:=aa hgr
    clear hgr hb2
    go_wp2_with fail
    go_ret
    refine⟨cA ?_,HW.o.trans aH.o⟩
    rw[z_.o,iR,HR.o,HP.o,nu _ HE.o]
   have amU:(z1==0)=false:=by simpa using hzz
   have amV:(z1 != 0)=true:=by simpa using hzz
   have HE:=aa hzz
   rw[nu _ hzz] at HP
   have HR:=aa (V.TI iO hlt' gY.o (by rw[HP.o];exact hzz))
   clear hzz
   go_upto_region 21 with fail
   go_cut [8] from 76 to 122 (fun k wx=>k=.int .i64 z1∧Grow wr wx)
   case first =>
    refine dN ?_
    refine dO (S:=fun w'=>∀b o,b<wr.heap.size→w'.cell? ⟨b,o,none⟩=wr.cell? ⟨b,o,none⟩) (by kernel_rfl) (fun _ _ _=>rfl) (fun hHeld=>?_)
    refine aj 0 ?_
    refine aj 1 ?_
    refine aj 2 ?_
    refine aj 3 ?_
    refine aj 4 ?_
    refine aj 5 ?_
    refine aj 7 ?_
    refine aj 8 ?_
    refine aj 9 ?_
    refine aj 10 ?_
    refine aj 11 ?_
    refine aj 12 ?_
    refine bZ [6,13] ?_
    refine eK (fun K hK=>?_) ?_
    ·go_simp
     refine aU hK (fun b o h=>((ah wr).drew.trans (G1.o _)).below.cell (p:=⟨b,o,none⟩) h) (fun hHeld=>?_)
     clear hK K
     refine aK 13 (fun K hK=>?_)
     go_simp
     refine aU hK (fun b o h=>(((ah wr).drew.trans (G1.o _)).trans (G2.o _)).below.cell (p:=⟨b,o,none⟩) h) (fun hHeld=>?_)
     clear hK K
     refine aK 14 (fun K hK=>?_)
     go_simp
     go_at_call 161
     refine(HT.o _ _ _ _ _ ((I1.o _).grow (G2.o _)) (I2.o _)).mono ?_
     rintro e wt ⟨rfl,vr⟩
     have hgt:Grow wr wt:=(((ah wr).drew.trans (G1.o _)).trans (G2.o _)).trans vr
     refine aU hK (fun b o h=>(hgt).below.cell (p:=⟨b,o,none⟩) h) (fun hHeld=>?_)
     clear hK K
     refine aj 15 ?_
     refine cz ?_
     go_wp2_with fail
     go_meet
     exact⟨rfl,hgt⟩
    refine eK (fun K hK=>?_) bY
    go_simp
    refine aU hK (fun b o h=>((ah wr).drew.trans (G2.o _)).below.cell (p:=⟨b,o,none⟩) h) (fun hHeld=>?_)
    clear hK K
    refine aK 6 (fun K hK=>?_)
    go_simp
    refine aU hK (fun b o h=>(((ah wr).drew.trans (G2.o _)).trans (G1.o _)).below.cell (p:=⟨b,o,none⟩) h) (fun hHeld=>?_)
    clear hK K
    refine aK 14 (fun K hK=>?_)
    go_simp
    go_at_call 161
    refine(HT.o _ _ _ _ _ (I1.o _) ((I2.o _).grow (G1.o _))).mono ?_
    rintro e wt ⟨rfl,vr⟩
    have hgt:Grow wr wt:=(((ah wr).drew.trans (G2.o _)).trans (G1.o _)).trans vr
    refine aU hK (fun b o h=>(hgt).below.cell (p:=⟨b,o,none⟩) h) (fun hHeld=>?_)
    clear hK K
    refine aj 15 ?_
    refine cz ?_
    go_wp2_with fail
    go_meet
    exact⟨rfl,hgt⟩
   obtain⟨rfl,hgt⟩:=hcut
   rename World=>wx
   have ow:=aa hgt
   clear hgt
   go_wp2_with fail
   go_ret
   refine⟨cA ?_,HW.o.trans ow.o⟩
   rw[z_.o,iR,HR.o,HP.o,nu _ HE.o]
  have TK:=aa (show V.l_ f f'=0 from V.aa5 (fun i h1 h2=>gY.o i h1 h2 (by omega)))
  have hend:j=f.length∨(j<f.length∧j=f'.length):=by omega
  clear hw hB hB' heq gY hlt hg
  have HN:=aa (fun w=>rG ((l.length:Int)+(f.length:Int)) ((l'.length:Int)+(f'.length:Int)) w)
  rcases hend with hjl | ⟨hjl,Uk⟩
  all_goals
   first | subst hjl | skip
   try subst Uk
   go_wp2_with (go_at_call 159;refine(HN.o _).mono ?_;rintro e w2 ⟨rfl,rfl⟩)
   go_ret
   refine⟨cA ?_,HW.o⟩
   rw[z_.o,TK.o,iR,iR]
theorem alr(k k':Int)(n n':Nat)(hk:k=3∨k=4)(hk':k'=3∨k'=4):CJ (.mk k n [] [] []) (.mk k' n' [] [] []):=by
 intro w c c' hx hy;rw[V.Sh hk hk'];have HN:=aa (fun w2 (hg:Grow w w2)=>ajM k k' n n' c c' w2 hk hk' (hx.grow hg) (hy.grow hg));obtain⟨aB,aL,aF,cB,cL,cF,rfl,-⟩:=hx.open;obtain⟨bB,bL,bF,dB,dL,dF,rfl,-⟩:=hy.open;have HG:=aa (((ah w).alloc (.cells (Cv.mk k n aB 0 cB aL 0 cL aF 0 cF).cells 27)).alloc (.cells (Cv.mk k' n' bB 0 dB bL 0 dL bF 0 dF).cells 27));have HA:=aa (fun w=>wV k w);have kB:=aa (fun w=>wV k' w);have HC:=aa (fun w=>rG 3 3 w);rw[jV rfl] at HC;rw[show cls k=3 by rcases hk with rfl | rfl<;>rfl] at HA;rw[show cls k'=3 by rcases hk' with rfl | rfl<;>rfl] at kB;have hk2:(k==2)=false:=by rcases hk with rfl | rfl<;>rfl
 clear hx hy;rcases hk with rfl | rfl
 all_goals
  go_enter func113,ntmps113
  go_wp2_with fail
  go_quiet ((first | (go_at_call 158;exact Calls.quiet_of_same ((HA.o _).mono fun e w' h=>⟨h.1,h.2.symm⟩)) | (go_at_call 158;exact Calls.quiet_of_same ((kB.o _).mono fun e w' h=>⟨h.1,h.2.symm⟩)) | (go_at_call 159;exact Calls.quiet_of_same ((HC.o _).mono fun e w' h=>⟨h.1,h.2.symm⟩))))
  go_wp2_with fail
  refine(HN.o _ (HG.o.drewN _)).mono ?_
  rintro e w2 ⟨rfl,hg⟩
  have HG2:=aa ((HG.o.drewN _).trans hg)
  clear hg
  go_wp2_with fail
  go_ret
  exact⟨rfl,HG2.o⟩
theorem als(n n':Nat)(hn:n≤1)(hn':n'≤1):CJ (.mk 2 n [] [] []) (.mk 2 n' [] [] []):=by
 intro w c c' hx hy;have HE:=aa (show sg n n'=V.cmp (.mk 2 n [] [] []) (.mk 2 n' [] [] []) by rw[tu];rfl);rw[← HE.o];obtain⟨aB,aL,aF,cB,cL,cF,rfl,-⟩:=hx.open;obtain⟨bB,bL,bF,dB,dL,dF,rfl,-⟩:=hy.open;have HG:=aa (((ah w).alloc (.cells (Cv.mk 2 n aB 0 cB aL 0 cL aF 0 cF).cells 27)).alloc (.cells (Cv.mk 2 n' bB 0 dB bL 0 dL bF 0 dF).cells 27));have HA:=aa (fun w=>wV 2 w);have kB:=aa (fun w=>wV 2 w);have HC:=aa (fun w=>rG 2 2 w);rw[jV rfl] at HC;rw[show cls 2=2 from rfl] at HA kB;have HN:=aa (fun w=>rG n n' w);clear hx hy;go_enter func113,ntmps113;go_wp2_with fail
 go_quiet ((first | (go_at_call 158;exact Calls.quiet_of_same ((HA.o _).mono fun e w' h=>⟨h.1,h.2.symm⟩)) | (go_at_call 158;exact Calls.quiet_of_same ((kB.o _).mono fun e w' h=>⟨h.1,h.2.symm⟩)) | (go_at_call 159;exact Calls.quiet_of_same ((HC.o _).mono fun e w' h=>⟨h.1,h.2.symm⟩))));go_wp2_with (go_at_call 159;refine(HN.o _).mono ?_;rintro e w2 ⟨rfl,rfl⟩);go_ret;exact⟨rfl,HG.o.drewN _⟩
theorem alu(k:Int)(b b':List UInt8)(hk:k=5∨k=6):CJ (.mk k 0 b [] []) (.mk k 0 b' [] []):=by
 intro w c c' hx hy;have HE:=aa (show Lib.compareBytes b b'=V.cmp (.mk k 0 b [] []) (.mk k 0 b' [] []) by rw[tu,ai (by simp),ai (by omega),ai (by omega),aw hk]);rw[← HE.o];obtain⟨aB,aL,aF,cB,cL,cF,rfl,-,-,-,-,hbl,-,-,-,-,hb⟩:=hx.open;obtain⟨bB,bL,bF,dB,dL,dF,rfl,-,-,-,-,alv,-,-,-,-,hb'⟩:=hy.open;have HG:=aa (((ah w).alloc (.cells (Cv.mk k 0 aB b.length cB aL 0 cL aF 0 cF).cells 27)).alloc (.cells (Cv.mk k 0 bB b'.length dB bL 0 dL bF 0 dF).cells 27));have HA:=aa (fun w=>wV k w);have kB:=aa (fun w=>wV k w);have HC:=aa (fun w=>rG k k w);rw[jV rfl] at HC;rw[show cls k=k by rcases hk with rfl | rfl<;>rfl] at HA kB;have HN:=aa (fun w2 (hg:Grow w w2)=>abr b b' aB bB cB dB w2 (hb.grow hg) (hb'.grow hg) hbl alv)
 have hk2:(k==2)=false:=by rcases hk with rfl | rfl<;>rfl
 have hk3:(k==3)=false:=by rcases hk with rfl | rfl<;>rfl
 have hk4:(k==4)=false:=by rcases hk with rfl | rfl<;>rfl
 clear hx hy hb hb';rcases hk with rfl | rfl
 all_goals
  go_enter func113,ntmps113
  go_wp2_with fail
  go_quiet ((first | (go_at_call 158;exact Calls.quiet_of_same ((HA.o _).mono fun e w' h=>⟨h.1,h.2.symm⟩)) | (go_at_call 158;exact Calls.quiet_of_same ((kB.o _).mono fun e w' h=>⟨h.1,h.2.symm⟩)) | (go_at_call 159;exact Calls.quiet_of_same ((HC.o _).mono fun e w' h=>⟨h.1,h.2.symm⟩))))
  go_wp2_with (go_at_call 161;refine(HN.o _ (HG.o.drewN _)).mono ?_;rintro e w2 ⟨rfl,hg⟩)
  go_ret
  exact⟨rfl,(HG.o.drewN _).trans hg⟩
theorem Y5(x:V):∀y:V,x.formed=true→y.formed=true→CJ x y:=by
 induction x using V.ind with
 | h k n b l f hl hf =>
  intro y hx hy;obtain⟨k',n',b',l',f'⟩:=y;by_cases hcl:cls k≠cls k'
  ·exact alq _ _ hcl
  have hcl:cls k=cls k':=tH hcl;rcases rU hx with h | ⟨m,hm,h⟩ | ⟨m,h⟩ | ⟨m,h⟩ | ⟨m,hm,h⟩ | ⟨m,h⟩ | ⟨m,hm,h⟩ | ⟨m,hm,hnd,h⟩<;>cases h <;>
  rcases rU hy with h | ⟨m',hm',h⟩ | ⟨m',h⟩ | ⟨m',h⟩ | ⟨m',hm',h⟩ | ⟨m',h⟩ | ⟨m',hm',h⟩ | ⟨m',hm',hnd',h⟩<;>cases h <;>
  first
  | exact absurd hcl (by decide)
  | exact alr _ _ _ _ (by decide) (by decide)
  | exact als _ _ hm hm'
  | exact alu _ _ _ (by decide)
  | skip
  ·intro w c c' h h';refine(Uj 1 0 0 [] [] [] [] [] [] c c' w rfl rfl rfl rfl rfl h h' (fun _ hx=>by simp at hx) (fun _ hx=>by simp at hx)).mono ?_;rintro e w' ⟨rfl,hg⟩;exact⟨cA (by rw[tu];rfl),hg⟩
  ·intro w c c' h h';refine(Uj 7 0 0 [] [] l l' [] [] c c' w rfl rfl rfl rfl rfl h h' (fun x hx y hy=>hl x hx y (hm x hx) (hm' y hy)) (fun _ hx=>by simp at hx)).mono ?_;rintro e w' ⟨rfl,hg⟩;refine⟨cA ?_,hg⟩;rw[tu,ai (by simp),ai (by decide),ai (by decide),ai (by decide)];have e0:V.l_ [] []=0:=rfl;rw[e0,Ns];simp only[bz,gf,iR,Int.natCast_zero,Int.add_zero]
  intro w c c' h h';refine(Uj 8 0 0 [] [] [] [] f f' c c' w rfl rfl rfl rfl rfl h h' (fun _ hx=>by simp at hx) (fun x hx y hy=>hf x hx y.2 (hm x hx).2 (hm' y hy).2)).mono ?_;rintro e w' ⟨rfl,hg⟩;refine⟨cA ?_,hg⟩;rw[tu,ai (by simp),ai (by decide),ai (by decide),ai (by decide)];have e0:V.cmpL [] []=0:=rfl;rw[e0,Ns];simp only[bz,dY,iR,Int.natCast_zero,Int.zero_add]
end
end Go.Proofs.YtndjopkdbdcmdaaGreatDoor
