/- Part 11 of the proof of pgets_card. -/
import Derived.Test.YtndjopkdbdcmdaaGreatDoorPge7
import Derived.Deep.DeepCutAuto
set_option linter.unusedVariables false
set_option linter.unusedSimpArgs false
set_option maxRecDepth 100000
set_option maxHeartbeats 12800000
open Go.Proofs.Tryz
namespace Go.Proofs.YtndjopkdbdcmdaaGreatDoor
variable {A:Option Addr}{base c:Nat}{bs zs:List UInt8}{e:Int}{w w':World}
section
open Go.RowKit Go.Shelf
theorem Row.lit(x:UInt8)(he:(x.toNat:Int)=e):Row (w.alloc (.cells #[.int .u8 e] 5)) w.heap.size (.slice (some ⟨w.heap.size,0,none⟩) 1 1) 1 [x]:=
 ⟨rfl,.inr ⟨w.heap.size,1,#[.int .u8 e],rfl,au _,az w _ _,au _,by decide,rfl,by simp[b_,he]⟩⟩
def lJ(w:World)(bs:List UInt8)(e:Ending)(w':World):Prop:=
 ∃base A c,e=.returned (.slice A bs.length c)∧w.heap.size≤base∧Row w' base (.slice A bs.length c) bs.length bs∧Grow w w'
theorem lJ.of{k:Nat}(hk:k=bs.length)(hz:zs=bs)(hb:w.heap.size≤base)(h1:Row w' base (.slice A k c) k zs)(h2:Grow w w'):lJ w bs (.returned (.slice A k c)) w':=by
 subst hk;subst hz;exact⟨base,A,c,rfl,hb,h1,h2⟩
def O4(x:V):Prop:=∀(w:World) (c:Cv),In w x c→x.bytes.length≤140737488355328→Calls prog 103 #[c.agg] w (lJ w x.bytes)
theorem acR(w:World)(c:Cv)(hv:In w (V.mk 1 0 [] [] []) c) :
 Calls prog 103 #[c.agg] w (lJ w (V.bytes (V.mk 1 0 [] [] []))):=by
 obtain⟨aB,aL,aF,cB,cL,cF,rfl,h1,h2,h3,h4,h5,h6,h7,h8,h9,hb0⟩:=mg hv;have hz:(w.alloc (.cells #[.int .i64 1,.int .u64 0,.slice aB 0 cB,.slice aL 0 cL,.slice aF 0 cF] 27)).heap.size=w.heap.size+1:=by simp
 have hrow:=Row.lit (w:=w.alloc (.cells #[.int .i64 1,.int .u64 0,.slice aB 0 cB,.slice aL 0 cL,.slice aF 0 cF] 27)) 1 (e:=1) rfl;rw[hz] at hrow;have dP:=aa hrow;clear hrow hb0;go_enter func103,ntmps103;go_wp2_with fail;go_ret;exact lJ.of (by simp[iP]) (by simp[iP]) (by omega) dP.o (((ah w).alloc _).alloc _)
theorem acS(w:World)(c:Cv)(n:Nat)(hv:In w (V.mk 2 n [] [] []) c) :
 Calls prog 103 #[c.agg] w (lJ w (V.bytes (V.mk 2 n [] [] []))):=by
 obtain⟨aB,aL,aF,cB,cL,cF,rfl,h1,h2,h3,h4,h5,h6,h7,h8,h9,hb0⟩:=mg hv;have hz:(w.alloc (.cells #[.int .i64 2,.int .u64 n,.slice aB 0 cB,.slice aL 0 cL,.slice aF 0 cF] 27)).heap.size=w.heap.size+1:=by simp
 have hrow:=Row.lit (w:=w.alloc (.cells #[.int .i64 2,.int .u64 n,.slice aB 0 cB,.slice aL 0 cL,.slice aF 0 cF] 27)) 2 (e:=2) rfl;rw[hz] at hrow;have dP:=aa hrow;have hwr:IntKind.u8.wrap (n:Int)=(n:Int) % 256:=Kk _;clear hrow hb0;go_enter func103,ntmps103;go_wp2_with (first | (at_builtin;refine gA (ys:=[UInt8.ofNat n]) rfl (.tmp 14) (.tmp 18) _ rfl rfl (dP.o.alloc _) _ rfl (lD _ (Gf _) (cM (by simp) _ _)) (by simp only[aU,bT];omega) (by simp) ?_;intro A2 c2 w2 hr2 hg2;have HG2:=aa (cJ ((((ah w).alloc _).alloc _).alloc _) (eO (ej hg2 (dP.o.alloc _) (by simp)) (by omega)));have bM:=aa hr2;clear hr2 hg2));go_ret;exact lJ.of (by simp[iP]) (by simp[iP]) (by omega) bM.o HG2.o
theorem acT(w:World)(c:Cv)(n:Nat)(hv:In w (V.mk 3 n [] [] []) c) :
 Calls prog 103 #[c.agg] w (lJ w (V.bytes (V.mk 3 n [] [] []))):=by
 obtain⟨aB,aL,aF,cB,cL,cF,rfl,h1,h2,h3,h4,h5,h6,h7,h8,h9,hb0⟩:=mg hv;have hz:(w.alloc (.cells #[.int .i64 3,.int .u64 n,.slice aB 0 cB,.slice aL 0 cL,.slice aF 0 cF] 27)).heap.size=w.heap.size+1:=by simp
 have hrow:=Row.lit (w:=w.alloc (.cells #[.int .i64 3,.int .u64 n,.slice aB 0 cB,.slice aL 0 cL,.slice aF 0 cF] 27)) 3 (e:=3) rfl;rw[hz] at hrow;have dP:=aa hrow;clear hrow hb0;go_enter func103,ntmps103;go_wp2_with fail;refine(Kv n 8 _ h3 (by omega)).mono ?_;rintro e w1 ⟨A1,c1,rfl,hr1,hg1⟩;have fO:=aa hr1;have aO:=aa ((((ah w).alloc _).alloc _).trans hg1);have Gg:=aa (dP.o.grow hg1);have hz1:=hg1.size;simp only[ei] at hz1;clear hr1 hg1
 go_wp2_with (first | (at_builtin;refine gA (ys:=kW 8 n) rfl (.tmp 23) (.tmp 26) _ rfl rfl Gg.o _ rfl (eW fk fO.o.reads.1 (iI _)) (by rw[jJ];omega) (by omega) ?_;intro A2 c2 w2 hr2 hg2;have HG2:=aa (cJ aO.o (eO (ej hg2 Gg.o (by omega)) (by omega)));have bM:=aa hr2;clear hr2 hg2));go_ret;exact lJ.of (by simp[iP,jJ]) (by simp[iP]) (by omega) bM.o HG2.o
theorem acU(w:World)(c:Cv)(n:Nat)(hv:In w (V.mk 4 n [] [] []) c) :
 Calls prog 103 #[c.agg] w (lJ w (V.bytes (V.mk 4 n [] [] []))):=by
 obtain⟨aB,aL,aF,cB,cL,cF,rfl,h1,h2,h3,h4,h5,h6,h7,h8,h9,hb0⟩:=mg hv;have hz:(w.alloc (.cells #[.int .i64 4,.int .u64 n,.slice aB 0 cB,.slice aL 0 cL,.slice aF 0 cF] 27)).heap.size=w.heap.size+1:=by simp
 have hrow:=Row.lit (w:=w.alloc (.cells #[.int .i64 4,.int .u64 n,.slice aB 0 cB,.slice aL 0 cL,.slice aF 0 cF] 27)) 4 (e:=4) rfl;rw[hz] at hrow;have dP:=aa hrow;clear hrow hb0;go_enter func103,ntmps103;go_wp2_with fail;refine(Kv n 8 _ h3 (by omega)).mono ?_;rintro e w1 ⟨A1,c1,rfl,hr1,hg1⟩;have fO:=aa hr1;have aO:=aa ((((ah w).alloc _).alloc _).trans hg1);have Gg:=aa (dP.o.grow hg1);have hz1:=hg1.size;simp only[ei] at hz1;clear hr1 hg1
 go_wp2_with (first | (at_builtin;refine gA (ys:=kW 8 n) rfl (.tmp 23) (.tmp 26) _ rfl rfl Gg.o _ rfl (eW fk fO.o.reads.1 (iI _)) (by rw[jJ];omega) (by omega) ?_;intro A2 c2 w2 hr2 hg2;have HG2:=aa (cJ aO.o (eO (ej hg2 Gg.o (by omega)) (by omega)));have bM:=aa hr2;clear hr2 hg2));go_ret;exact lJ.of (by simp[iP,jJ]) (by simp[iP]) (by omega) bM.o HG2.o
theorem acV(w:World)(c:Cv)(b:List UInt8)(hv:In w (V.mk 5 0 b [] []) c)(hm:3+b.length≤140737488355328) :
 Calls prog 103 #[c.agg] w (lJ w (V.bytes (V.mk 5 0 b [] []))):=by
 obtain⟨aB,aL,aF,cB,cL,cF,rfl,h1,h2,h3,h4,h5,h6,h7,h8,h9,hb0⟩:=mg hv;have hz:(w.alloc (.cells #[.int .i64 5,.int .u64 0,.slice aB b.length cB,.slice aL 0 cL,.slice aF 0 cF] 27)).heap.size=w.heap.size+1:=by simp
 have hrow:=Row.lit (w:=w.alloc (.cells #[.int .i64 5,.int .u64 0,.slice aB b.length cB,.slice aL 0 cL,.slice aF 0 cF] 27)) 5 (e:=5) rfl;rw[hz] at hrow;have dP:=aa hrow;have bO:=aa ((az w 27 #[.int .i64 5,.int .u64 0,.slice aB b.length cB,.slice aL 0 cL,.slice aF 0 cF]).alloc (.cells #[.int .u8 5] 5));have aN:=aa (((ah w).alloc (.cells #[.int .i64 5,.int .u64 0,.slice aB b.length cB,.slice aL 0 cL,.slice aF 0 cF] 27)).alloc (.cells #[.int .u8 5] 5));have O5:=aa (show bh w aB b from hb0);have hc1:=bO.o.cell 2;have hwr:IntKind.u64.wrap (b.length:Int)=(b.length:Int):=IntWalk.u64_in _ (by omega);clear hrow hb0;go_enter func103,ntmps103;go_wp2_with fail
 go_region_held3 (fun w'=>w'.cell? ⟨w.heap.size,2,none⟩=some (.slice aB b.length cB)) (first | go_keep | exact hc3 | exact hc2 | exact iz) (first | (go_at_call 152;refine(Kv b.length 2 _ (by omega) (by omega)).mono ?_;rintro e w2 ⟨A2,c2,rfl,hr2,hg2⟩;have bf:=aa (bO.o.drew.grow hg2);have hc2:=bf.o.cell 2;have bM:=aa hr2;have ml:=aa (dP.o.drew.grow hg2);have HG2:=aa (aN.o.drew.trans hg2);have hz2:=HG2.o.size;have KL:=hg2.size;clear hr2 hg2) | (refine pB (ys:=kW 2 b.length) (by rfl) (.tmp 31) (.tmp 36) _ (by rfl) (by rfl) ml.o _ (by rfl) (eW fk bM.o.reads.1 (iI _)) (by rw[jJ];omega) (by have:=bf.o.lt;omega) ?_;intro A3 c3 w3 hr3 hg3;have bn:=aa (hg3.blk bf.o (sY ml.o bf.o (by decide)));have hc3:=bn.o.cell 2;have cE:=aa hr3;have aG:=aa (cJ HG2.o (eO (ej hg3 ml.o (by have:=bf.o.lt;omega)) (by omega)));have rP:=aa (O5.o.grow aG.o);clear hr3 hg3) | (refine pB (ys:=b) (by rfl) (.tmp 37) (.tmp 39) _ (by rfl) (by rfl) cE.o _ (by rfl) (eW fk rP.o (iI b)) (by rw[jJ];omega) (by have:=bn.o.lt;omega) ?_;intro A4 c4 w4 hr4 hg4;have ar:=aa (hg4.blk bn.o (sY cE.o bn.o (by decide)));have iz:=ar.o.cell 2;have bY:=aa hr4;have bP:=aa (cJ aG.o (eO (ej hg4 cE.o (by have:=bn.o.lt;omega)) (by omega)));clear hr4 hg4))
 go_wp2_with fail;go_ret;exact lJ.of (by simp[iP,jJ];omega) (by simp[iP]) (by omega) bY.o bP.o
theorem acW(w:World)(c:Cv)(b:List UInt8)(hv:In w (V.mk 6 0 b [] []) c)(hm:3+b.length≤140737488355328) :
 Calls prog 103 #[c.agg] w (lJ w (V.bytes (V.mk 6 0 b [] []))):=by
 obtain⟨aB,aL,aF,cB,cL,cF,rfl,h1,h2,h3,h4,h5,h6,h7,h8,h9,hb0⟩:=mg hv;have hz:(w.alloc (.cells #[.int .i64 6,.int .u64 0,.slice aB b.length cB,.slice aL 0 cL,.slice aF 0 cF] 27)).heap.size=w.heap.size+1:=by simp
 have hrow:=Row.lit (w:=w.alloc (.cells #[.int .i64 6,.int .u64 0,.slice aB b.length cB,.slice aL 0 cL,.slice aF 0 cF] 27)) 6 (e:=6) rfl;rw[hz] at hrow;have dP:=aa hrow;have bO:=aa ((az w 27 #[.int .i64 6,.int .u64 0,.slice aB b.length cB,.slice aL 0 cL,.slice aF 0 cF]).alloc (.cells #[.int .u8 6] 5));have aN:=aa (((ah w).alloc (.cells #[.int .i64 6,.int .u64 0,.slice aB b.length cB,.slice aL 0 cL,.slice aF 0 cF] 27)).alloc (.cells #[.int .u8 6] 5));have O5:=aa (show bh w aB b from hb0);have hc1:=bO.o.cell 2;have hwr:IntKind.u64.wrap (b.length:Int)=(b.length:Int):=IntWalk.u64_in _ (by omega);clear hrow hb0;go_enter func103,ntmps103;go_wp2_with fail
 go_region_held3 (fun w'=>w'.cell? ⟨w.heap.size,2,none⟩=some (.slice aB b.length cB)) (first | go_keep | exact hc3 | exact hc2 | exact iz) (first | (go_at_call 152;refine(Kv b.length 2 _ (by omega) (by omega)).mono ?_;rintro e w2 ⟨A2,c2,rfl,hr2,hg2⟩;have bf:=aa (bO.o.drew.grow hg2);have hc2:=bf.o.cell 2;have bM:=aa hr2;have ml:=aa (dP.o.drew.grow hg2);have HG2:=aa (aN.o.drew.trans hg2);have hz2:=HG2.o.size;have KL:=hg2.size;clear hr2 hg2) | (refine pB (ys:=kW 2 b.length) (by rfl) (.tmp 31) (.tmp 36) _ (by rfl) (by rfl) ml.o _ (by rfl) (eW fk bM.o.reads.1 (iI _)) (by rw[jJ];omega) (by have:=bf.o.lt;omega) ?_;intro A3 c3 w3 hr3 hg3;have bn:=aa (hg3.blk bf.o (sY ml.o bf.o (by decide)));have hc3:=bn.o.cell 2;have cE:=aa hr3;have aG:=aa (cJ HG2.o (eO (ej hg3 ml.o (by have:=bf.o.lt;omega)) (by omega)));have rP:=aa (O5.o.grow aG.o);clear hr3 hg3) | (refine pB (ys:=b) (by rfl) (.tmp 37) (.tmp 39) _ (by rfl) (by rfl) cE.o _ (by rfl) (eW fk rP.o (iI b)) (by rw[jJ];omega) (by have:=bn.o.lt;omega) ?_;intro A4 c4 w4 hr4 hg4;have ar:=aa (hg4.blk bn.o (sY cE.o bn.o (by decide)));have iz:=ar.o.cell 2;have bY:=aa hr4;have bP:=aa (cJ aG.o (eO (ej hg4 cE.o (by have:=bn.o.lt;omega)) (by omega)));clear hr4 hg4))
 go_wp2_with fail;go_ret;exact lJ.of (by simp[iP,jJ];omega) (by simp[iP]) (by omega) bY.o bP.o
theorem acX(w:World)(c:Cv)(l:List V)(hl:∀x∈l,O4 x)(hv:In w (V.mk 7 0 [] l []) c)(hm:2+(l.map V.bytes).flatten.length≤140737488355328) :
 Calls prog 103 #[c.agg] w (lJ w (V.bytes (V.mk 7 0 [] l []))):=by
 have Hl:=aa hl;clear hl;have HV:=aa hv;obtain⟨aB,aL,aF,cB,cL,cF,rfl,h1,h2,h3,h4,h5,h6,h7,h8,h9,hb0⟩:=mg hv;have hz:(w.alloc (.cells #[.int .i64 7,.int .u64 0,.slice aB 0 cB,.slice aL l.length cL,.slice aF 0 cF] 27)).heap.size=w.heap.size+1:=by simp
 have hrow:=Row.lit (w:=w.alloc (.cells #[.int .i64 7,.int .u64 0,.slice aB 0 cB,.slice aL l.length cL,.slice aF 0 cF] 27)) 7 (e:=7) rfl;rw[hz] at hrow;have dP:=aa hrow;have bO:=aa ((az w 27 #[.int .i64 7,.int .u64 0,.slice aB 0 cB,.slice aL l.length cL,.slice aF 0 cF]).alloc (.cells #[.int .u8 7] 5));clear hrow hb0 hv;go_enter func103,ntmps103
 go_wp2_with (first | (at_builtin;refine gA (ys:=[UInt8.ofNat l.length]) rfl (.tmp 43) (.tmp 48) _ rfl rfl (dP.o.alloc _) _ rfl (lD _ (Gf _) (cM (by simp) _ _)) (by simp only[aU,bT];omega) (by simp) ?_;intro A2 c2 w2 hr2 hg2;have HG2:=aa (cJ ((((ah w).alloc _).alloc _).alloc _) (eO (ej hg2 (dP.o.alloc _) (by simp)) (by omega)));have bf:=aa (hg2.blk (bO.o.alloc _) (sY dP.o bO.o (by decide)));have bM:=aa hr2;clear hr2 hg2));go_loopg [3,4] (l.length+1) (fun gk v' i wr=>∃(j:Nat) (A':Option Addr) (c':Nat),j≤l.length∧gk+j=l.length+1∧i=.int .i64 j∧v'=.slice A' (2+((l.take j).map V.bytes).flatten.length) c' ∧
  Row wr (w.heap.size+1) (.slice A' (2+((l.take j).map V.bytes).flatten.length) c') (2+((l.take j).map V.bytes).flatten.length) (7::UInt8.ofNat l.length::((l.take j).map V.bytes).flatten)∧Grow w wr∧w.heap.size+1≤wr.heap.size∧Blk wr w.heap.size 27 #[.int .i64 7,.int .u64 0,.slice aB 0 cB,.slice aL l.length cL,.slice aF 0 cF])
 exact⟨0,A2,c2,by omega,by omega,rfl,by simp,by simpa using bM.o,HG2.o,by have:=bf.o.lt;omega,bf.o⟩;obtain⟨j,A',c',hj,hg,rfl,rfl,hr,hgr,xX,hB⟩:=hrel;obtain⟨gk',rfl⟩:=bz gk (by omega);have hc:=hB.cell;have mN:=aa hB;by_cases hlt:j<l.length
 ·have eF:=HV.o.grow hgr;obtain⟨bk,o,x,ha,hbk,e0,e1,e2,e3,e4,hx⟩:=dW.fh eF j hlt;dsimp only at ha;subst ha;have fU:=ze V.bytes l j hlt;have hm2:=dJ List.length fU;rw[bp] at hm2;have hle:=zf V.bytes l (j+1);rw[hm2] at hle;have fD:=aa fU;have iT:=aa hm2;have qE:=aa hr;have tF:=aa hgr;have HX:=aa hx;obtain⟨S,hS⟩:∃S,S=((l.take j).map V.bytes).flatten:=⟨_,rfl⟩;rw[← hS] at hle qE fD iT ⊢;clear hr hgr hx eF fU hm2 hS hB;go_wp2_with fail;refine(Hl.o _ (aS hlt) _ x HX.o (by omega)).mono ?_;rintro e w3 ⟨am4,A3,c3,rfl,hb3,hr3,hg3⟩;have aG:=aa (tF.o.trans hg3);have cE:=aa hr3;have ml:=aa (qE.o.grow hg3);have f_:=mN.o.grow hg3;have bn:=aa f_;have hc3:=f_.cell;have hz3:=hg3.size;clear hr3 hg3 e0 e1 e2 e3 e4 hc f_
  go_wp2_with (first | (at_builtin;refine gA (ys:=l[j].bytes) rfl (.tmp 57) (.tmp 63) _ rfl rfl ml.o _ rfl (eW fk cE.o.reads.1 (iI _)) (by omega) (by omega) ?_;intro A4 c4 w4 hr4 hg4;have bP:=aa (cJ aG.o (eO (ej hg4 ml.o (by omega)) (by omega)));have ar:=aa (hg4.blk bn.o (sY ml.o bn.o (by decide)));have bY:=aa hr4;have zq:=hg4.size;clear hr4 hg4 hc3));go_roundg gk';have e1:2+S.length+l[j].bytes.length=2+((l.take (j+1)).map V.bytes).flatten.length:=by rw[iT.o];omega
  refine⟨j+1,A4,c4,by omega,by omega,by go_num,by rw[e1],?_,bP.o,by omega,ar.o⟩;rw[← e1,fD.o];simpa using bY.o;omega
 obtain rfl:j=l.length:=by omega
 rw[fT] at hr ⊢;have qE:=aa hr;have tF:=aa hgr;clear hr hgr hg hlt;go_wp2_with fail;go_ret;exact lJ.of (by rw[Dx];simp;omega) (by rw[Dx]) (by omega) qE.o tF.o
theorem acY(w:World)(c:Cv)(f:List (ByteArray×V))(hl:∀x∈f,O4 x.2)(hv:In w (V.mk 8 0 [] [] f) c)(hm:2+(f.map fun x:ByteArray×V=>V.item x.1 x.2.bytes).flatten.length≤140737488355328) :
 Calls prog 103 #[c.agg] w (lJ w (V.bytes (V.mk 8 0 [] [] f))):=by
 have Hl:=aa hl;clear hl;have HV:=aa hv;obtain⟨aB,aL,aF,cB,cL,cF,rfl,h1,h2,h3,h4,h5,h6,h7,h8,h9,hb0⟩:=mg hv;have hz:(w.alloc (.cells #[.int .i64 8,.int .u64 0,.slice aB 0 cB,.slice aL 0 cL,.slice aF f.length cF] 27)).heap.size=w.heap.size+1:=by simp
 have hrow:=Row.lit (w:=w.alloc (.cells #[.int .i64 8,.int .u64 0,.slice aB 0 cB,.slice aL 0 cL,.slice aF f.length cF] 27)) 8 (e:=8) rfl;rw[hz] at hrow;have dP:=aa hrow;have bO:=aa ((az w 27 #[.int .i64 8,.int .u64 0,.slice aB 0 cB,.slice aL 0 cL,.slice aF f.length cF]).alloc (.cells #[.int .u8 8] 5));clear hrow hb0 hv;go_enter func103,ntmps103
 go_wp2_with (first | (at_builtin;refine gA (ys:=[UInt8.ofNat f.length]) rfl (.tmp 67) (.tmp 72) _ rfl rfl (dP.o.alloc _) _ rfl (lD _ (Gf _) (cM (by simp) _ _)) (by simp only[aU,bT];omega) (by simp) ?_;intro A2 c2 w2 hr2 hg2;have HG2:=aa (cJ ((((ah w).alloc _).alloc _).alloc _) (eO (ej hg2 (dP.o.alloc _) (by simp)) (by omega)));have bf:=aa (hg2.blk (bO.o.alloc _) (sY dP.o bO.o (by decide)));have bM:=aa hr2;clear hr2 hg2));go_loopg [3,5] (f.length+1) (fun gk v' i wr=>∃(j:Nat) (A':Option Addr) (c':Nat),j≤f.length∧gk+j=f.length+1∧i=.int .i64 j∧v'=.slice A' (2+((f.take j).map fun x:ByteArray×V=>V.item x.1 x.2.bytes).flatten.length) c' ∧
  Row wr (w.heap.size+1) (.slice A' (2+((f.take j).map fun x:ByteArray×V=>V.item x.1 x.2.bytes).flatten.length) c') (2+((f.take j).map fun x:ByteArray×V=>V.item x.1 x.2.bytes).flatten.length) (8::UInt8.ofNat f.length::((f.take j).map fun x:ByteArray×V=>V.item x.1 x.2.bytes).flatten)∧Grow w wr∧w.heap.size+1≤wr.heap.size∧Blk wr w.heap.size 27 #[.int .i64 8,.int .u64 0,.slice aB 0 cB,.slice aL 0 cL,.slice aF f.length cF])
 exact⟨0,A2,c2,by omega,by omega,rfl,by simp,by simpa using bM.o,HG2.o,by have:=bf.o.lt;omega,bf.o⟩;obtain⟨j,A',c',hj,hg,rfl,rfl,hr,hgr,xX,hB⟩:=hrel;obtain⟨gk',rfl⟩:=bz gk (by omega);have hc:=hB.cell;have mN:=aa hB;by_cases hlt:j<f.length
 ·have eF:=HV.o.grow hgr;obtain⟨bk,o,x,ha,hbk,es,ik,e0,e1,e2,e3,e4,hx⟩:=dW.gX eF j hlt;obtain⟨pD,o',x',ha',og,es',_⟩:=dW.gX HV.o j hlt;dsimp only at ha ha';subst ha;injection ha' with ha';injection ha' with ha1 ha2;subst ha1 ha2;have fU:=ze (fun x:ByteArray×V=>V.item x.1 x.2.bytes) f j hlt;have hm2:=dJ List.length fU;rw[bp,Dy] at hm2;have hle:=zf (fun x:ByteArray×V=>V.item x.1 x.2.bytes) f (j+1);rw[hm2] at hle;have fD:=aa fU;have iT:=aa hm2;have qE:=aa hr;have tF:=aa hgr;have HX:=aa hx;obtain⟨S,hS⟩:∃S,S=((f.take j).map fun x:ByteArray×V=>V.item x.1 x.2.bytes).flatten:=⟨_,rfl⟩;rw[← hS] at hle qE fD iT ⊢;have HF:=aa (Hl.o _ (aS hlt));obtain⟨s,hs⟩:∃s,s=f[j].1:=⟨_,rfl⟩
  obtain⟨y,hy⟩:∃y,y=f[j].2:=⟨_,rfl⟩;have tD:=aa es';rw[← hs] at es ik tD fD iT hle;rw[← hy] at HX fD iT hle HF;clear hr hgr hx eF fU hm2 hS hB hs es';have hwr:IntKind.u8.wrap (s.size:Int)=(s.size:Int) % 256:=Kk _;have hcb:=hc 4;go_wp2_with fail
  go_region_held3 (fun w'=>w'.cell? ⟨w.heap.size,4,none⟩=some (.slice (some ⟨bk,o,none⟩) f.length cF)∧w'.cell? ⟨bk,o+j*6,none⟩=some (.string s)) (first | go_keep | exact⟨iz,O6⟩ | exact⟨hc3,hd3⟩) (first | (refine pB (ys:=[UInt8.ofNat s.size]) (by rfl) (.tmp 81) (.tmp 90) _ (by rfl) (by rfl) (qE.o.drew.alloc _) _ (by rfl) (lD _ (Gf _) (cM (by simp) _ _)) (by simp only[aU,bT];omega) (by simp;omega) ?_;intro A3 c3 w3 hr3 hg3;have bn:=aa (hg3.blk (mN.o.drew.alloc _) (sY qE.o mN.o (by decide)));have hc3:=bn.o.cell 4;have aG:=aa (cJ (tF.o.drew.alloc _) (eO (ej hg3 (qE.o.drew.alloc _) (by simp;omega)) (by omega)));have cE:=aa hr3;have hd3:w3.cell? ⟨bk,o+j*6,none⟩=some (.string s):=(Grow.below aG.o |>.cell og).trans tD.o;clear hr3 hg3) | (refine pB (ys:=s.data.toList) (by rfl) (.tmp 91) (.tmp 97) _ (by rfl) (by rfl) cE.o _ (by rfl) (acZ s) (by simp only[aU,bT,xI];have:s.data.size=s.size:=rfl;omega) (by have:=bn.o.lt;omega) ?_;intro A4 c4 w4 hr4 hg4;have ar:=aa (hg4.blk bn.o (sY cE.o bn.o (by decide)));have iz:=ar.o.cell 4;have bP:=aa (cJ aG.o (eO (ej hg4 cE.o (by have:=bn.o.lt;omega)) (by omega)));have bY:=aa hr4;have O6:w4.cell? ⟨bk,o+j*6,none⟩=some (.string s):=(Grow.below bP.o |>.cell og).trans tD.o;clear hr4 hg4))
  have ac0:=ar.o.cell;have am5:=ar.o.lt;obtain⟨tG,o2,y2,ha2,hbk2,V5,_,f0,f1,f2,f3,f4,hx2⟩:=dW.gX (HV.o.grow bP.o) j hlt;injection ha2 with ha2;injection ha2 with hz1 hz2;subst hz1 hz2;rw[← hy] at hx2;have HX2:=aa hx2;have hsz:s.data.toList.length=s.size:=by rw[xI];rfl
  have hr4:=bY.o;rw[show 2+S.length+[UInt8.ofNat s.size].length+s.data.toList.length=2+S.length+1+s.size by rw[hsz];rfl] at hr4;have HRf:=aa hr4;clear hx2 hy hr4 bY hsz;go_wp2_with fail;refine(HF.o _ y2 HX2.o (by omega)).mono ?_;rintro e w5 ⟨ac1,A5,c5,rfl,dG,iA,bK⟩;have a_:=aa (wG bP.o bK);have eP:=aa iA;have ml:=aa (HRf.o.grow bK);have wL:=ar.o.grow bK;have av:=aa wL;have am6:=bK.size;clear iA bK f0 f1 f2 f3 f4 ac0 wL
  go_wp2_with (first | (at_builtin;refine gA (ys:=y.bytes) rfl (.tmp 99) (.tmp 106) _ rfl rfl ml.o _ rfl (eW fk eP.o.reads.1 (iI _)) (by omega) (by omega) ?_;intro A6 c6 w6 uS bE;have aW:=aa (cJ a_.o (eO (ej bE ml.o (by omega)) (by omega)));have dh:=aa (bE.blk av.o (sY ml.o av.o (by decide)));have lK:=aa uS;have KM:=bE.size;clear uS bE));go_roundg gk';have e2:2+S.length+1+s.size+y.bytes.length=2+((f.take (j+1)).map fun x=>V.item x.1 x.2.bytes).flatten.length:=by rw[iT.o];omega
  refine⟨j+1,A6,c6,by omega,by omega,by go_num,by rw[e2],?_,aW.o,by omega,dh.o⟩;rw[← e2,fD.o];simpa [V.item] using lK.o;omega
 obtain rfl:j=f.length:=by omega
 rw[fT] at hr ⊢;have qE:=aa hr;have tF:=aa hgr;clear hr hgr hg hlt;go_wp2_with fail;go_ret;exact lJ.of (by rw[Bk];simp;omega) (by rw[Bk]) (by omega) qE.o tF.o
theorem ac2(v:V):v.formed=true→O4 v:=by
 induction v using V.ind with
 | h k n b l f hl hf =>
  intro fV w c hv hm;rcases tq fV with h | ⟨_,_,h⟩ | ⟨_,h⟩ | ⟨_,h⟩ | ⟨_,_,h⟩ | ⟨_,h⟩ | ⟨l',hl',h⟩ | ⟨f',hf',hnd,h⟩
  ·cases h;exact acR w c hv
  ·cases h;exact acS w c _ hv
  ·cases h;exact acT w c _ hv
  ·cases h;exact acU w c _ hv
  ·cases h;exact acV w c _ hv (by rw[iP] at hm;simp[jJ] at hm;omega)
  ·cases h;exact acW w c _ hv (by rw[iP] at hm;simp[jJ] at hm;omega)
  ·cases h
   exact acX w c _ (fun x hx=>hl x hx (hl' x hx)) hv (by rw[Dx] at hm;simp only[aU] at hm;omega)
  cases h
  exact acY w c _ (fun x hx=>hf x hx (hf' x hx).2) hv (by rw[Bk] at hm;simp only[aU] at hm;omega)
end
abbrev xY:=@Row.lit
abbrev am7:=@lJ.of
section
open Go.RowKit Go.Shelf
theorem ac3(v:V):∀(w:World) (c:Cv),In w v c →
 Calls prog 101 #[c.agg] w fun e w'=>e=.returned (.bool (decide (64<v.most)))∧Grow w w':=by
 induction v using V.ind with
 | h k n b l f hl hf =>
  intro w c hv;have HV:=aa hv;obtain⟨aB,aL,aF,cB,cL,cF,rfl,h1,h2,h3,h4,h5,h6,h7,h8,h9,hb⟩:=hv.open;have Hl:=aa hl;have Hf:=aa hf;obtain⟨iJ,eG⟩:∃A,decide (64<(V.mk k n b l f).most)=A:=⟨_,rfl⟩;rw[eG];have HA:=aa eG;have V6:(64<l.length∨64<f.length∨(∃x∈l,64<x.most)∨∃x∈f,64<x.2.most)→iJ=true:=fun h=>by
   rw[← eG,iy];have:=KN k n b l f 64;rcases gp 64 (V.mk k n b l f).most with q | q
   ·exact q
   obtain⟨a1,a2,a3,a4⟩:=this.1 q;rcases h with h | h | ⟨x,hx,h⟩ | ⟨x,hx,h⟩
   ·omega
   ·omega
   ·have:=a3 x hx;omega
   have:=a4 x hx;omega
  have HY:=aa V6;clear hb h1 h2 h3 hl hf h4 h5 hv eG V6;by_cases b1:64<l.length
  ·obtain rfl:=HY.o (.inl b1);go_enter func101,ntmps101;go_wp2_with fail;go_ret;exact⟨rfl,(ah w).alloc _⟩
  by_cases b2:64<f.length
  ·obtain rfl:=HY.o (.inr (.inl b2));go_enter func101,ntmps101;go_wp2_with fail;go_ret;exact⟨rfl,(ah w).alloc _⟩
  go_enter func101,ntmps101;go_wp2_with fail;go_loopg [3] (l.length+1) (fun gk i wr=>∃j:Nat,j≤l.length∧gk+j=l.length+1∧i=.int .i64 j∧(∀t (h:t<l.length),t<j→l[t].most≤64) ∧
   Grow w wr∧Blk wr w.heap.size 27 (Cv.cells ⟨k,(n:Int),aB,b.length,cB,aL,l.length,cL,aF,f.length,cF⟩))
  exact⟨0,by omega,by omega,rfl,fun t _ h=>absurd h (by omega),(ah w).alloc _,az _ _ _⟩;obtain⟨j,hj,hg,rfl,ht,hw,hB⟩:=hrel;obtain⟨gk',rfl⟩:=bz gk (by omega);have hc:=hB.cell;have hBl:=hB.lt;have rQ:=aa ht;have HW:=aa hw;have HB:=aa hB;by_cases hlt:j<l.length
  ·obtain⟨bk,o,x,ha,hbk,e0,e1,e2,e3,e4,hx⟩:=In.fh (HV.o.grow hw) j hlt;dsimp only at ha;subst ha;have HX:=aa hx;clear hw hx hB ht;go_wp2_with fail;refine(Hl.o _ (aS hlt) _ x HX.o).mono ?_;rintro e w' ⟨rfl,hb'⟩;have hgr:=aa hb';clear hb' e0 e1 e2 e3 e4 hc;obtain⟨R,hR⟩:∃R,decide (64<l[j].most)=R:=⟨_,rfl⟩;rw[hR];have HR:=aa hR;clear hR
   cases R
   ·go_wp2_with fail;go_roundg gk';refine⟨j+1,by omega,by omega,by go_num,fun t h1 h2=>?_,HW.o.trans hgr.o,HB.o.grow hgr.o⟩;rcases gp t j with h | h
    ·exact rQ.o t h1 h
    obtain rfl:t=j:=by omega
    have:=of_decide_eq_false HR.o;omega;omega
   go_wp2_with fail;go_ret;refine⟨dw (HY.o (.inr (.inr (.inl ⟨l[j],aS hlt,nu HR.o⟩)))).symm,HW.o.trans hgr.o⟩
  obtain rfl:j=l.length:=by omega
  clear hw hB hlt hg ht;go_wp2_with fail;go_loopg [4] (f.length+1) (fun gk i wr=>∃j:Nat,j≤f.length∧gk+j=f.length+1∧i=.int .i64 j∧(∀t (h:t<f.length),t<j→f[t].2.most≤64) ∧
   Grow w wr∧Blk wr w.heap.size 27 (Cv.cells ⟨k,(n:Int),aB,b.length,cB,aL,l.length,cL,aF,f.length,cF⟩))
  exact⟨0,by omega,by omega,rfl,fun t _ h=>absurd h (by omega),HW.o,HB.o⟩;obtain⟨j,hj,hg,rfl,ht,hw,hB⟩:=hrel;obtain⟨gk',rfl⟩:=bz gk (by omega);clear hc hBl;have hc:=hB.cell;have hBl:=hB.lt;have V7:=aa ht;have Bw:=aa hw;have O7:=aa hB;by_cases hlt:j<f.length
  ·obtain⟨bk,o,x,ha,hbk,es,ik,e0,e1,e2,e3,e4,hx⟩:=In.gX (HV.o.grow hw) j hlt;dsimp only at ha;subst ha;have HX:=aa hx;clear hw hx hB ht es;go_wp2_with fail;refine(Hf.o _ (aS hlt) _ x HX.o).mono ?_;rintro e w' ⟨rfl,hb'⟩;have hgr:=aa hb';clear hb' e0 e1 e2 e3 e4 hc;obtain⟨R,hR⟩:∃R,decide (64<f[j].2.most)=R:=⟨_,rfl⟩;rw[hR];have HR:=aa hR;clear hR
   cases R
   ·go_wp2_with fail;go_roundg gk';refine⟨j+1,by omega,by omega,by go_num,fun t h1 h2=>?_,Bw.o.trans hgr.o,O7.o.grow hgr.o⟩;rcases gp t j with h | h
    ·exact V7.o t h1 h
    obtain rfl:t=j:=by omega
    have:=of_decide_eq_false HR.o;omega;omega
   go_wp2_with fail;go_ret;refine⟨dw (HY.o (.inr (.inr (.inr ⟨f[j],aS hlt,nu HR.o⟩)))).symm,Bw.o.trans hgr.o⟩
  obtain rfl:j=f.length:=by omega
  have hno:iJ=false:=by
   rw[← HA.o,lC];have:=(KN k n b l f 64).2 ⟨by omega,by omega,fun x hx=>?_,fun x hx=>?_⟩
   ·omega
   ·obtain⟨i,hi,rfl⟩:=ux.1 hx;exact rQ.o i hi hi
   obtain⟨i,hi,rfl⟩:=ux.1 hx;exact V7.o i hi hi
  subst hno;clear hw hB hlt hg ht;go_wp2_with fail;go_ret;exact⟨rfl,Bw.o⟩
theorem ac4(v:V):∀(w:World) (c:Cv),v.formed=true→v.depth≤1099511627776→In w v c →
 Calls prog 102 #[c.agg] w fun e w'=>e=.returned (.int .i64 v.depth)∧Grow w w':=by
 induction v using V.ind with
 | h k n b l f hl hf =>
  intro w c fV rR hv;have HV:=aa hv;obtain⟨aB,aL,aF,cB,cL,cF,rfl,h1,h2,h3,h4,h5,h6,h7,h8,h9,hb⟩:=hv.open;have Bx:=fV;rw[tj] at Bx;simp only[ig,nY] at Bx;obtain⟨⟨⟨ho,hfl⟩,lF⟩,_⟩:=Bx;simp only[V.own,ig,iy] at ho;have DY:1≤k∧k≤8:=by omega
  have bA:∀x∈l,x.depth≤1099511627776:=fun x hx=>aV (V.Om hx) rR
  have pG:∀x∈f,x.2.depth≤1099511627776:=fun x hx=>aV (V.Oo hx) rR
  have gH:=aa bA;have xZ:=aa pG;have oz:=aa hfl;have jg:=aa lF;have Hl:=aa hl;have Hf:=aa hf;obtain⟨K,hK⟩:∃K,K=(V.mk k n b l f).depth:=⟨_,rfl⟩;rw[← hK] at rR ⊢;have Gh:=hK;rw[V.zg] at Gh;obtain⟨M,hM⟩:∃M,M=(f.map fun x=>x.2.depth).foldl max ((l.map V.depth).foldl max 0):=⟨_,rfl⟩;rw[← hM] at Gh;have HM:=aa hM;have O8:M≤1099511627776:=by split at Gh<;>omega
  have HK:=aa Gh;clear hb h1 h2 h3 hl hf h4 h5 hv fV ho hfl lF bA pG hK Gh hM;go_enter func102,ntmps102;go_wp2_with fail;go_loopg [3,4] (l.length+1) (fun gk m i wr=>∃j:Nat,j≤l.length∧gk+j=l.length+1∧i=.int .i64 j∧m=.int .i64 ((((l.take j).map V.depth).foldl max 0:Nat):Int) ∧
   Grow w wr∧Blk wr w.heap.size 27 (Cv.cells ⟨k,(n:Int),aB,b.length,cB,aL,l.length,cL,aF,f.length,cF⟩))
  exact⟨0,by omega,by omega,rfl,by simp,(ah w).alloc _,az _ _ _⟩;obtain⟨j,hj,hg,rfl,rfl,hw,hB⟩:=hrel;obtain⟨gk',rfl⟩:=bz gk (by omega);have hc:=hB.cell;have hBl:=hB.lt;have HW:=aa hw;have HB:=aa hB;by_cases hlt:j<l.length
  ·obtain⟨bk,o,x,ha,hbk,e0,e1,e2,e3,e4,hx⟩:=In.fh (HV.o.grow hw) j hlt;dsimp only at ha;subst ha;have HX:=aa hx;have hm:=Dt V.depth l 0 j hlt;have fD:=aa hm;clear hw hx hB hm;go_wp2_with fail;refine(Hl.o _ (aS hlt) _ x (oz.o _ (aS hlt)) (gH.o _ (aS hlt)) HX.o).mono ?_;rintro e w' ⟨rfl,hb'⟩;have hgr:=aa hb';clear hb' e0 e1 e2 e3 e4 hc;go_wp2_with fail
   all_goals
    go_roundg gk'
    exact⟨j+1,by omega,by omega,by go_num,by rw[fD.o];go_num,HW.o.trans hgr.o,HB.o.grow hgr.o⟩
    omega
  obtain rfl:j=l.length:=by omega
  rw[fT];clear hw hB hlt hg;go_wp2_with fail;go_loopg [3,5] (f.length+1) (fun gk m i wr=>∃j:Nat,j≤f.length∧gk+j=f.length+1∧i=.int .i64 j∧m=.int .i64 ((((f.take j).map fun x=>x.2.depth).foldl max ((l.map V.depth).foldl max 0):Nat):Int) ∧
   Grow w wr∧Blk wr w.heap.size 27 (Cv.cells ⟨k,(n:Int),aB,b.length,cB,aL,l.length,cL,aF,f.length,cF⟩))
  exact⟨0,by omega,by omega,rfl,by simp,HW.o,HB.o⟩;obtain⟨j,hj,hg,rfl,rfl,hw,hB⟩:=hrel;obtain⟨gk',rfl⟩:=bz gk (by omega);clear hc hBl;have hc:=hB.cell;have hBl:=hB.lt;have Bw:=aa hw;have O7:=aa hB;by_cases hlt:j<f.length
  ·obtain⟨bk,o,x,ha,hbk,es,ik,e0,e1,e2,e3,e4,hx⟩:=In.gX (HV.o.grow hw) j hlt;dsimp only at ha;subst ha;have HX:=aa hx;have hm:=Dt (fun x:ByteArray×V=>x.2.depth) f ((l.map V.depth).foldl max 0) j hlt;have fD:=aa hm;have ac5:=aa (jg.o _ (aS hlt)).2;clear hw hx hB hm es;go_wp2_with fail;refine(Hf.o _ (aS hlt) _ x ac5.o (xZ.o _ (aS hlt)) HX.o).mono ?_;rintro e w' ⟨rfl,hb'⟩;have hgr:=aa hb';clear hb' e0 e1 e2 e3 e4 hc;go_wp2_with fail
   all_goals
    go_roundg gk'
    exact⟨j+1,by omega,by omega,by go_num,by rw[fD.o];go_num,Bw.o.trans hgr.o,O7.o.grow hgr.o⟩
    omega
  obtain rfl:j=f.length:=by omega
  rw[fT,← HM.o];clear hw hB hlt hg;by_cases hk:7≤k
  ·have O9:K=1+M:=by rw[HK.o,aD (by omega)]
   go_wp2_with fail;go_ret;exact⟨ij (by rw[O9];omega),Bw.o⟩
  have O9:K=M:=by rw[HK.o,ak (by omega),eo]
  go_wp2_with fail;go_ret;exact⟨ij (by first | rfl | rw[O9]),Bw.o⟩
theorem V8(v:V)(w:World)(c:Cv)(hd:v.depth≤1099511627776)(hsz:v.formed=true→v.bytes.length≤140737488355328)(hv:In w v c) :
 Calls prog 55 #[c.agg] w fun e w'=>e=.returned (.int .i64 v.good)∧Grow w w':=by
 have HV:=aa hv;have gI:=aa hsz;obtain⟨iJ,eG⟩:∃A,v.good=A:=⟨_,rfl⟩;rw[eG];have HA:=aa eG;clear hv eG hsz;have bO:=aa (az w 27 c.cells);have aN:=aa ((ah w).alloc (.cells c.cells 27));go_enter func55,ntmps55;go_wp2_with fail;refine(ac6 v _ c (HV.o.grow aN.o)).mono ?_;rintro e w1 ⟨rfl,hg1⟩;have fp:=bO.o.grow hg1;have hc:=fp.cell;have hBl:=fp.lt;have cP:=aa fp;have aO:=aa (aN.o.trans hg1);clear hg1 fp;obtain⟨R,hR⟩:∃R,v.formed=R:=⟨_,rfl⟩;rw[hR];have HR:=aa hR;clear hR
 cases R
 ·go_wp2_with fail;go_ret;exact⟨ij (by rw[← HA.o,V.good,aD HR.o]),aO.o⟩
 go_wp2_with fail;refine(ac3 v _ c (HV.o.grow aO.o)).mono ?_;rintro e w2 ⟨rfl,hg2⟩;have dH:=cP.o.grow hg2;clear hc hBl;have hc:=dH.cell;have hBl:=dH.lt;have bf:=aa dH;have HG2:=aa (aO.o.trans hg2);clear hg2 dH;by_cases m1:64<v.most
 ·rw[cj m1];go_wp2_with fail;go_ret;exact⟨ij (by rw[← HA.o,V.good,ak (by rw[HR.o];decide),aD m1]),HG2.o⟩
 rw[cm m1];obtain⟨D,hD⟩:∃D,v.depth=D:=⟨_,rfl⟩;have HD:=aa hD;go_wp2_with fail;refine(ac4 v _ c HR.o hd (HV.o.grow HG2.o)).mono ?_;rintro e w3 ⟨rfl,hg3⟩;have f_:=bf.o.grow hg3;clear hc hBl;have hc:=f_.cell;have hBl:=f_.lt;have bn:=aa f_;have aG:=aa (HG2.o.trans hg3);clear hg3 f_;rw[hD];clear hD;by_cases d1:16<D
 ·go_wp2_with fail;go_ret;exact⟨ij (by rw[← HA.o,V.good,ak (by rw[HR.o];decide),ak m1,aD (by rw[HD.o];exact d1)]),aG.o⟩
 have hS:=gI.o HR.o;go_wp2_with fail;refine(ac2 v HR.o _ c (HV.o.grow aG.o) hS).mono ?_;rintro e w4 ⟨base,A4,c4,rfl,hb4,hr4,hg4⟩;have bP:=aa (aG.o.trans hg4);clear hg4 hr4 hc hBl;obtain⟨S,O_⟩:∃S,v.bytes.length=S:=⟨_,rfl⟩;have HS:=aa O_;rw[O_];clear O_ hS;by_cases s1:4096<S
 ·go_wp2_with fail;go_ret;exact⟨ij (by rw[← HA.o,V.good,ak (by rw[HR.o];decide),ak m1,ak (by rw[HD.o];exact d1),aD (by rw[HS.o];exact s1)]),bP.o⟩
 go_wp2_with fail;go_ret;exact⟨ij (by rw[← HA.o,V.good,ak (by rw[HR.o];decide),ak m1,ak (by rw[HD.o];exact d1),ak (by rw[HS.o];exact s1)]),bP.o⟩
theorem Gi(v:V)(w:World)(c:Cv)(dY:v.count≤20000)(hsz:v.formed=true→v.bytes.length≤140737488355328)(hv:In w v c) :
 Calls prog 55 #[c.agg] w fun e w'=>e=.returned (.int .i64 v.good)∧Grow w w':=V8 v w c (DZ dY) hsz hv
end
section
open Go.RowKit Go.Shelf
theorem V9(k k':Int)(n n':Nat)(c c':Cv)(w:World)(hk:k=3∨k=4)(hk':k'=3∨k'=4)(hne:¬ (k=3∧k'=4))(h:In w (.mk k n [] [] []) c)(h':In w (.mk k' n' [] [] []) c') :
 Calls prog 95 #[c.agg,c'.agg] w fun e w'=>∃z,e=.returned (.int .i64 z)∧Grow w w':=by
 obtain⟨aB,aL,aF,cB,cL,cF,rfl,-,-,h1,-⟩:=h.open;obtain⟨bB,bL,bF,dB,dL,dF,rfl,-,-,h2,-⟩:=h'.open;clear h h';have hb:=x_
 have HG:=aa (((ah w).alloc (.cells (Cv.mk k n aB 0 cB aL 0 cL aF 0 cF).cells 27)).alloc (.cells (Cv.mk k' n' bB 0 dB bL 0 dL bF 0 dF).cells 27));have HI:=aa (fun w=>zu n w);have HJ:=aa (fun w=>zu n' w);have hcv:=KO n h1;have Pb:=KO n' h2;have hr:=KP n' h2;obtain⟨X,hX⟩:∃X,gZ n=X:=⟨_,rfl⟩;obtain⟨Y,hY⟩:∃Y,gZ n'=Y:=⟨_,rfl⟩;rw[hX] at HI;rw[hY] at HJ;have HW:=aa (fun(hx:X=false) (w:World)=>ac7 (i64 n') n (Num.of h1 (hX.trans hx)) hr.1 hr.2 w);have HS:=aa (fun(hx:X=false) (hy:Y=false) (w:World)=>ac8 n n' (Num.of h1 (hX.trans hx)) (Num.of h2 (hY.trans hy)) w)
 have hO:X=false→Y=false→FloatKind.f64.format.order n n'=some Ordering.lt∨FloatKind.f64.format.order n n'=some Ordering.eq∨FloatKind.f64.format.order n n'=some Ordering.gt:=fun hx hy=>by
  have fx:=Num.of h1 (hX.trans hx);have fy:=Num.of h2 (hY.trans hy);rcases wD (sv n) (sv n') with h | h | h
  ·exact .inl (fx.lt fy h)
  ·exact .inr (.inl (fx.eq fy h))
  exact .inr (.inr (fx.gt fy h))
 have wM:=Pc (i64 n') n;obtain⟨z,hz⟩:∃z,kr (i64 n') n=z:=⟨_,rfl⟩;rw[hz] at HW wM;obtain⟨q,hq⟩:∃q,((n:Int)==9223372036854775808)=q:=⟨_,rfl⟩;clear hX hY hz hr;rcases hk with rfl | rfl<;>rcases hk' with rfl | rfl
 case' inl.inr=>exact absurd ⟨rfl,rfl⟩ hne
 case' inr.inl =>
  cases X
  case' false=>rcases wM with rfl | rfl | rfl
  case' false.inr.inl=>cases q
 case' inr.inr =>
  cases X<;>cases Y
  case' false.false=>rcases hO rfl rfl with ho | ho | ho
 all_goals
  clear hO hne h1 h2
  go_enter func95,ntmps95
  go_wp2_with fail
  go_quiet (fail)
  go_wp2_with (first | (go_at_call 140;refine(HI.o _).mono ?_;rintro e w' ⟨rfl,rfl⟩) | (go_at_call 140;refine(HJ.o _).mono ?_;rintro e w' ⟨rfl,rfl⟩) | (go_at_call 142;refine(HW.o (by trivial) _).mono ?_;rintro e w' ⟨rfl,rfl⟩) | (go_at_call 141;refine(HS.o (by trivial) (by trivial) _).mono ?_;rintro e w' ⟨rfl,rfl⟩) | (go_at_call 94;refine(V_ _ _ _).mono ?_;rintro e w' ⟨rfl,rfl⟩) | (go_at_call 139;refine(Wa _ _ _).mono ?_;rintro e w' ⟨rfl,rfl⟩))
  go_ret
  exact⟨_,rfl,HG.o.drewN _⟩
theorem ac9(k k':Int)(n n':Nat)(c c':Cv)(w:World)(hk:k=3∨k=4)(hk':k'=3∨k'=4)(h:In w (.mk k n [] [] []) c)(h':In w (.mk k' n' [] [] []) c') :
 Calls prog 95 #[c.agg,c'.agg] w fun e w'=>∃z,e=.returned (.int .i64 z)∧Grow w w':=by
 by_cases hne:k=3∧k'=4
 rotate_left
 ·exact V9 k k' n n' c c' w hk hk' hne h h'
 obtain⟨rfl,rfl⟩:=hne;have HR:=aa (fun w2 (hg:Grow w w2)=>V9 4 3 n' n c' c w2 (.inr rfl) (.inl rfl) (by decide) (h'.grow hg) (h.grow hg));obtain⟨aB,aL,aF,cB,cL,cF,rfl,-⟩:=h.open;obtain⟨bB,bL,bF,dB,dL,dF,rfl,-⟩:=h'.open;clear h h';have hb:=x_
 have HG:=aa (((ah w).alloc (.cells (Cv.mk 3 n aB 0 cB aL 0 cL aF 0 cF).cells 27)).alloc (.cells (Cv.mk 4 n' bB 0 dB bL 0 dL bF 0 dF).cells 27));go_enter func95,ntmps95;go_wp2_with fail;go_quiet (fail);go_wp2_with fail;refine(HR.o _ (HG.o.drewN _)).mono ?_;rintro e w' ⟨z,rfl,hg⟩;have HG2:=aa ((HG.o.drewN _).trans hg);clear hg;go_wp2_with fail;go_ret;exact⟨_,rfl,HG2.o⟩
def Bz(x y:V):Prop:=∀(w:World) (c c':Cv),In w x c→In w y c' →
 Calls prog 50 #[c.agg,c'.agg] w fun e w'=>∃z,e=.returned (.int .i64 z)∧Grow w w'
theorem ac_(x y:V)(h:cls x.k≠cls y.k):Bz x y:=by
 intro w c c' hx hy;obtain⟨k,n,b,l,f⟩:=x;obtain⟨k',n',b',l',f'⟩:=y;change cls k≠cls k' at h;obtain⟨aB,aL,aF,cB,cL,cF,rfl,-⟩:=hx.open;obtain⟨bB,bL,bF,dB,dL,dF,rfl,-⟩:=hy.open;have HG:=aa (((ah w).alloc (.cells (Cv.mk k n aB b.length cB aL l.length cL aF f.length cF).cells 27)).alloc (.cells (Cv.mk k' n' bB b'.length dB bL l'.length dL bF f'.length dF).cells 27));have HA:=aa (fun w=>ya k w);have HB:=aa (fun w=>ya k' w);have HC:=aa (fun w=>BA (cls k) (cls k') w);have hz:(sg (cls k) (cls k') != 0)=true:=by have:=ada h;simpa using this
 obtain⟨z,hzz⟩:∃z,sg (cls k) (cls k')=z:=⟨_,rfl⟩;rw[hzz] at hz HC;clear hx hy h hzz;go_enter func50,ntmps50;go_wp2_with fail;go_quiet ((first | (go_at_call 93;exact Calls.quiet_of_same ((HA.o _).mono fun e w' h=>⟨h.1,h.2.symm⟩)) | (go_at_call 93;exact Calls.quiet_of_same ((HB.o _).mono fun e w' h=>⟨h.1,h.2.symm⟩)) | (go_at_call 92;exact Calls.quiet_of_same ((HC.o _).mono fun e w' h=>⟨h.1,h.2.symm⟩))));go_wp2_with fail;go_ret;exact⟨_,rfl,HG.o.drewN _⟩
theorem adb(k:Int)(n n':Nat)(b b':List UInt8)(l l':List V)(f f':List (ByteArray×V))(c c':Cv)(w:World)(hk2:(k==2)=false)(hk3:(k==3)=false)(hk4:(k==4)=false)(kX:(k==5)=false)(zw:(k==6)=false)
 (hv:In w (.mk k n b l f) c) (hv':In w (.mk k n' b' l' f') c') (hl:∀x∈l,∀y∈l',Bz x y) (hf:∀x∈f,∀y∈f',Bz x.2 y.2) :
 Calls prog 50 #[c.agg,c'.agg] w fun e w'=>∃z,e=.returned (.int .i64 z)∧Grow w w':=by
 obtain⟨aB,aL,aF,cB,cL,cF,rfl,h1,h2,h3,h4,h5,h6,h7,h8,h9,hb⟩:=hv.open;obtain⟨rE,uC,uD,rF,uE,uF,rfl,h1',h2',h3',h4',rG,h6',Kw,xR,Ky,hb'⟩:=hv'.open;have HV:=aa hv;have zh:=aa hv';have Hl:=aa hl;have Hf:=aa hf;have HA:=aa (fun w=>ya k w);have HC:=aa (fun w=>BA (cls k) (cls k) w);rw[rS rfl] at HC;obtain⟨M,hM⟩:∃M,min l.length l'.length=M:=⟨_,rfl⟩;have hMi:min (l.length:Int) (l'.length:Int)=(M:Int):=by omega
 obtain⟨M2,hM2⟩:∃M,min f.length f'.length=M:=⟨_,rfl⟩;have am8:min (f.length:Int) (f'.length:Int)=(M2:Int):=by omega
 have hMa:M≤l.length:=by omega
 have O8:M≤l'.length:=by omega
 have hMc:M2≤f.length:=by omega
 have hMd:M2≤f'.length:=by omega
 clear hv hv' hb hb' h1 h2 h3 h4 h5 h6 h8 h1' h2' h3' h4' rG h6' xR hl hf hM hM2;go_enter func50,ntmps50;go_wp2_with fail;go_quiet ((first | (go_at_call 93;exact Calls.quiet_of_same ((HA.o _).mono fun e w' h=>⟨h.1,h.2.symm⟩)) | (go_at_call 92;exact Calls.quiet_of_same ((HC.o _).mono fun e w' h=>⟨h.1,h.2.symm⟩))));go_wp2_with fail;go_loopg [50] (M+1) (fun gk i wr=>∃j:Nat,j≤M∧gk+j=M+1∧i=.int .i64 j∧Grow w wr ∧
  Blk wr w.heap.size 27 (Cv.cells ⟨k,(n:Int),aB,b.length,cB,aL,l.length,cL,aF,f.length,cF⟩)∧Blk wr (w.heap.size+1) 27 (Cv.cells ⟨k,(n':Int),rE,b'.length,rF,uC,l'.length,uE,uD,f'.length,uF⟩))
 exact⟨0,by omega,by omega,rfl,(((ah w).alloc _).alloc _).drewN _,((az _ _ _).alloc _).drewN _,(cM (by simp) _ _).drewN _⟩;obtain⟨j,hj,hg,rfl,hw,hB,hB'⟩:=hrel;obtain⟨gk',rfl⟩:=bz gk (by omega);have hc3:=hB.cell;have Bn:=hB'.cell;have HW:=aa hw;have HB:=aa hB;have jh:=aa hB';by_cases hlt:j<M
 ·have ku:j<l.length:=by omega
  have hlt':j<l'.length:=by omega
  obtain⟨bk,o,x,ha,hbk,e0,e1,e2,e3,e4,hx⟩:=(HV.o.grow hw).fh j ku;obtain⟨pD,o',x',ha',og,uG,xS,e2',e3',Bo,hx'⟩:=(zh.o.grow hw).fh j hlt';dsimp only at ha ha';subst ha ha';have HX:=aa hx;have xU:=aa hx';have tv:=aa (Hl.o _ (aS ku) _ (aS hlt'));clear hw hx hx' hB hB';have hz0:w.heap.size<wr.heap.size:=HB.o.lt;have hz1:w.heap.size+1<wr.heap.size:=jh.o.lt;have HJ:=aa (fun w2 (hgr:Grow wr w2)=>tv.o w2 x x' (HX.o.grow hgr) (xU.o.grow hgr));go_wp2_with fail;go_region_held3 (fun w'=>∀b o,b<wr.heap.size→w'.cell? ⟨b,o,none⟩=wr.cell? ⟨b,o,none⟩) (first | exact fun _ _ _=>rfl | exact fun b o h=>hgr.below.cell (p:=⟨b,o,none⟩) h)
   (first | (go_at_call 50;refine(HJ.o _ (ah wr).drew).mono ?_;rintro e w2 ⟨z,rfl,hb2⟩;have hgr:Grow wr w2:=(ah wr).drew.trans hb2))
  have aJ:=aa hgr;clear hgr hb2;by_cases he:z=0
  ·subst he;go_wp2_with fail;go_roundg gk';exact⟨j+1,by omega,by omega,by go_num,HW.o.trans aJ.o,HB.o.grow aJ.o,jh.o.grow aJ.o⟩;omega
  have BC:(z != 0)=true:=by simpa using he
  clear he;go_wp2_with fail;go_ret;exact⟨_,rfl,HW.o.trans aJ.o⟩
 obtain rfl:j=M:=by omega
 clear hw hB hB' hlt hg;go_wp2_with fail;have D4:=aa HW.o;go_loopg [75] (M2+1) (fun gk i wr=>∃j:Nat,j≤M2∧gk+j=M2+1∧i=.int .i64 j∧Grow w wr ∧
  Blk wr w.heap.size 27 (Cv.cells ⟨k,(n:Int),aB,b.length,cB,aL,l.length,cL,aF,f.length,cF⟩)∧Blk wr (w.heap.size+1) 27 (Cv.cells ⟨k,(n':Int),rE,b'.length,rF,uC,l'.length,uE,uD,f'.length,uF⟩))
 exact⟨0,by omega,by omega,rfl,HW.o,HB.o,jh.o⟩;obtain⟨j,hj,hg,rfl,hw,hB,hB'⟩:=hrel;obtain⟨gk',rfl⟩:=bz gk (by omega);clear hc3 Bn HW D4 HB jh;have hc3:=hB.cell;have Bn:=hB'.cell;have HW:=aa hw;have HB:=aa hB;have jh:=aa hB';have hz0:w.heap.size<wr.heap.size:=HB.o.lt;have hz1:w.heap.size+1<wr.heap.size:=jh.o.lt;by_cases hlt:j<M2
 ·have ku:j<f.length:=by omega
  have hlt':j<f'.length:=by omega
  obtain⟨bk,o,x,ha,hbk,es,ik,e0,e1,e2,e3,e4,hx⟩:=(HV.o.grow hw).gX j ku;obtain⟨pD,o',x',ha',og,es',DC,uG,xS,e2',e3',Bo,hx'⟩:=(zh.o.grow hw).gX j hlt';dsimp only at ha ha';subst ha ha';have HX:=aa hx;have xU:=aa hx';have tv:=aa (Hf.o _ (aS ku) _ (aS hlt'));clear hw hx hx' hB hB';obtain⟨s1,hs1⟩:∃s,f[j].1=s:=⟨_,rfl⟩;obtain⟨s2,hs2⟩:∃s,f'[j].1=s:=⟨_,rfl⟩;have HJ:=aa (fun w2 (hgr:Grow wr w2)=>tv.o w2 x x' (HX.o.grow hgr) (xU.o.grow hgr));rw[hs1] at es;rw[hs2] at es';obtain⟨z1,zx⟩:∃z,Lib.compareBytes s1.data.toList s2.data.toList=z:=⟨_,rfl⟩;have HS:=aa (fun w2=>Pf s1 s2 w2);rw[zx] at HS;clear hs1 hs2 zx;have HO:=aa (fun b g cap t w2 hB=>Wb z1 b g cap t w2 hB);go_wp2_with fail
  go_region_held3 (fun w'=>∀b o,b<wr.heap.size→w'.cell? ⟨b,o,none⟩=wr.cell? ⟨b,o,none⟩) (first | exact fun _ _ _=>rfl | exact fun b o h=>hgr.below.cell (p:=⟨b,o,none⟩) h | exact fun b o h=>(hgr.alloc _).below.cell (p:=⟨b,o,none⟩) h | exact fun b o h=>((hgr.alloc _).drew).below.cell (p:=⟨b,o,none⟩) h)
   (first | (go_at_call 50;refine(HJ.o _ (ah wr).drew).mono ?_;rintro e w2 ⟨z2,rfl,hb2⟩;have hgr:Grow wr w2:=(ah wr).drew.trans hb2) | (go_at_call 97;refine(HS.o _).mono ?_;rintro e w2 ⟨rfl,rfl⟩) | (go_at_call 96;refine(HO.o _ _ _ _ _ (az _ _ _)).mono ?_;rintro e w2 ⟨rfl,rfl⟩))
  all_goals
   have aJ:=aa (hgr.alloc (.cells #[.int .i64 z1,.int .i64 z2] 3))
   obtain⟨z,hz⟩:∃z,rT z1 z2=z:=⟨_,rfl⟩
   rw[hz]
   clear hgr hb2 hz
   by_cases he:z=0
   ·subst he
    go_wp2_with fail
    go_roundg gk'
    exact⟨j+1,by omega,by omega,by go_num,HW.o.trans aJ.o,HB.o.grow aJ.o,jh.o.grow aJ.o⟩
    omega
   have BC:(z != 0)=true:=by simpa using he
   clear he
   go_wp2_with fail
   go_ret
   exact⟨_,rfl,HW.o.trans aJ.o⟩
 obtain rfl:j=M2:=by omega
 clear hw hB hB' hlt hg;have iB:=aa (fun w=>BA (l.length:Int) (l'.length:Int) w);have mO:=aa (fun w=>BA (f.length:Int) (f'.length:Int) w);obtain⟨z1,zx⟩:∃z,sg (l.length:Int) (l'.length:Int)=z:=⟨_,rfl⟩;obtain⟨z2,KL⟩:∃z,sg (f.length:Int) (f'.length:Int)=z:=⟨_,rfl⟩;rw[zx] at iB;rw[KL] at mO;have HO:=aa (fun g cap t w2 hB=>Wb z1 z2 g cap t w2 hB);clear zx KL;go_wp2_with fail;go_region_held3 (fun w'=>∀b o,b<wr.heap.size→w'.cell? ⟨b,o,none⟩=wr.cell? ⟨b,o,none⟩) (first | exact fun _ _ _=>rfl | exact fun b o h=>((ah wr).alloc _).below.cell (p:=⟨b,o,none⟩) h | exact fun b o h=>(((ah wr).alloc _).drew).below.cell (p:=⟨b,o,none⟩) h)
  (first | (go_at_call 92;(with_reducible refine(iB.o _).mono ?_);rintro e w2 ⟨rfl,rfl⟩) | (go_at_call 92;(with_reducible refine(mO.o _).mono ?_);rintro e w2 ⟨rfl,rfl⟩) | (go_at_call 96;refine(HO.o _ _ _ _ (Blk.drew (az _ _ _))).mono ?_;rintro e w2 ⟨rfl,rfl⟩) | (go_at_call 96;refine(HO.o _ _ _ _ (az _ _ _)).mono ?_;rintro e w2 ⟨rfl,rfl⟩))
 all_goals
  have aJ:=aa (((ah wr).alloc (.cells #[.int .i64 z1,.int .i64 z2] 3)).drew)
  go_wp2_with fail
  go_ret
  exact⟨_,rfl,HW.o.trans aJ.o⟩
theorem ade(k k':Int)(n n':Nat)(hk:k=3∨k=4)(hk':k'=3∨k'=4):Bz (.mk k n [] [] []) (.mk k' n' [] [] []):=by
 intro w c c' hx hy;have HN:=aa (fun w2 (hg:Grow w w2)=>ac9 k k' n n' c c' w2 hk hk' (hx.grow hg) (hy.grow hg));obtain⟨aB,aL,aF,cB,cL,cF,rfl,-⟩:=hx.open;obtain⟨bB,bL,bF,dB,dL,dF,rfl,-⟩:=hy.open;have HG:=aa (((ah w).alloc (.cells (Cv.mk k n aB 0 cB aL 0 cL aF 0 cF).cells 27)).alloc (.cells (Cv.mk k' n' bB 0 dB bL 0 dL bF 0 dF).cells 27));have HA:=aa (fun w=>ya k w);have ky:=aa (fun w=>ya k' w);have HC:=aa (fun w=>BA 3 3 w);rw[rS rfl] at HC;rw[show cls k=3 by rcases hk with rfl | rfl<;>rfl] at HA;rw[show cls k'=3 by rcases hk' with rfl | rfl<;>rfl] at ky;have hk2:(k==2)=false:=by rcases hk with rfl | rfl<;>rfl
 clear hx hy;rcases hk with rfl | rfl
 all_goals
  go_enter func50,ntmps50
  go_wp2_with fail
  go_quiet ((first | (go_at_call 93;exact Calls.quiet_of_same ((HA.o _).mono fun e w' h=>⟨h.1,h.2.symm⟩)) | (go_at_call 93;exact Calls.quiet_of_same ((ky.o _).mono fun e w' h=>⟨h.1,h.2.symm⟩)) | (go_at_call 92;exact Calls.quiet_of_same ((HC.o _).mono fun e w' h=>⟨h.1,h.2.symm⟩))))
  go_wp2_with fail
  refine(HN.o _ (HG.o.drewN _)).mono ?_
  rintro e w2 ⟨z,rfl,hg⟩
  have HG2:=aa ((HG.o.drewN _).trans hg)
  clear hg
  go_wp2_with fail
  go_ret
  exact⟨_,rfl,HG2.o⟩
theorem adf(n n':Nat):Bz (.mk 2 n [] [] []) (.mk 2 n' [] [] []):=by
 intro w c c' hx hy;obtain⟨aB,aL,aF,cB,cL,cF,rfl,-⟩:=hx.open;obtain⟨bB,bL,bF,dB,dL,dF,rfl,-⟩:=hy.open;have HG:=aa (((ah w).alloc (.cells (Cv.mk 2 n aB 0 cB aL 0 cL aF 0 cF).cells 27)).alloc (.cells (Cv.mk 2 n' bB 0 dB bL 0 dL bF 0 dF).cells 27));have HA:=aa (fun w=>ya 2 w);have ky:=aa (fun w=>ya 2 w);have HC:=aa (fun w=>BA 2 2 w);rw[rS rfl] at HC;rw[show cls 2=2 from rfl] at HA ky;have HN:=aa (fun w=>V_ n n' w);clear hx hy;go_enter func50,ntmps50;go_wp2_with fail;go_quiet ((first | (go_at_call 93;exact Calls.quiet_of_same ((HA.o _).mono fun e w' h=>⟨h.1,h.2.symm⟩)) | (go_at_call 93;exact Calls.quiet_of_same ((ky.o _).mono fun e w' h=>⟨h.1,h.2.symm⟩)) | (go_at_call 92;exact Calls.quiet_of_same ((HC.o _).mono fun e w' h=>⟨h.1,h.2.symm⟩))))
 go_wp2_with (go_at_call 94;refine(HN.o _).mono ?_;rintro e w2 ⟨rfl,rfl⟩);go_ret;exact⟨_,rfl,HG.o.drewN _⟩
theorem adg(k:Int)(b b':List UInt8)(hk:k=5∨k=6):Bz (.mk k 0 b [] []) (.mk k 0 b' [] []):=by
 intro w c c' hx hy;obtain⟨aB,aL,aF,cB,cL,cF,rfl,-,-,-,-,-,-,-,-,-,hb⟩:=hx.open;obtain⟨bB,bL,bF,dB,dL,dF,rfl,-,-,-,-,-,-,-,-,-,hb'⟩:=hy.open;have HG:=aa (((ah w).alloc (.cells (Cv.mk k 0 aB b.length cB aL 0 cL aF 0 cF).cells 27)).alloc (.cells (Cv.mk k 0 bB b'.length dB bL 0 dL bF 0 dF).cells 27));have HA:=aa (fun w=>ya k w);have ky:=aa (fun w=>ya k w);have HC:=aa (fun w=>BA k k w);rw[rS rfl] at HC;rw[show cls k=k by rcases hk with rfl | rfl<;>rfl] at HA ky;have HN:=aa (fun w2 (hg:Grow w w2)=>Oz b b' aB bB cB dB w2 (hb.grow hg) (hb'.grow hg));have hk2:(k==2)=false:=by rcases hk with rfl | rfl<;>rfl
 have hk3:(k==3)=false:=by rcases hk with rfl | rfl<;>rfl
 have hk4:(k==4)=false:=by rcases hk with rfl | rfl<;>rfl
 clear hx hy hb hb';rcases hk with rfl | rfl
 all_goals
  go_enter func50,ntmps50
  go_wp2_with fail
  go_quiet ((first | (go_at_call 93;exact Calls.quiet_of_same ((HA.o _).mono fun e w' h=>⟨h.1,h.2.symm⟩)) | (go_at_call 93;exact Calls.quiet_of_same ((ky.o _).mono fun e w' h=>⟨h.1,h.2.symm⟩)) | (go_at_call 92;exact Calls.quiet_of_same ((HC.o _).mono fun e w' h=>⟨h.1,h.2.symm⟩))))
  go_wp2_with (go_at_call 54;refine(HN.o _ (HG.o.drewN _)).mono ?_;rintro e w2 ⟨rfl,rfl⟩)
  go_ret
  exact⟨_,rfl,HG.o.drewN _⟩
theorem adh(x:V):∀y:V,x.formed=true→y.formed=true→Bz x y:=by
 induction x using V.ind with
 | h k n b l f hl hf =>
  intro y hx hy;obtain⟨k',n',b',l',f'⟩:=y;by_cases hcl:cls k≠cls k'
  ·exact ac_ _ _ hcl
  have hcl:cls k=cls k':=AY hcl;rcases tq hx with h | ⟨m,hm,h⟩ | ⟨m,h⟩ | ⟨m,h⟩ | ⟨m,hm,h⟩ | ⟨m,h⟩ | ⟨m,hm,h⟩ | ⟨m,hm,hnd,h⟩<;>cases h <;>
  rcases tq hy with h | ⟨m',hm',h⟩ | ⟨m',h⟩ | ⟨m',h⟩ | ⟨m',hm',h⟩ | ⟨m',h⟩ | ⟨m',hm',h⟩ | ⟨m',hm',hnd',h⟩<;>cases h <;>
  first
  | exact absurd hcl (by decide)
  | exact ade _ _ _ _ (by decide) (by decide)
  | exact adf _ _
  | exact adg _ _ _ (by decide)
  | exact fun w c c' h h'=>adb _ 0 0 [] [] _ _ _ _ c c' w rfl rfl rfl rfl rfl h h' (fun x hx y hy=>by first | exact hl x hx y (hm x hx) (hm' y hy) | simp at hx) (fun x hx y hy=>by first | exact hf x hx y.2 (hm x hx).2 (hm' y hy).2 | simp at hx)
theorem adi{a b:Int}(h:rT a b=0):a=0∧b=0:=by
 unfold rT at h;split at h
 ·exact⟨by assumption,h⟩
 contradiction
theorem Wc(u v:V)(c d:Cv)(w:World)(hu:u.yb)(hv:v.yb)(hT:dz w)(h:In w u c)(k:In w v d) :
 Calls prog 22 #[c.agg,d.agg] w fun e w'=>∃x y,e=.returned (.tuple #[.int .i64 x,.int .i64 y])∧Grow w w':=by
 have aN:=aa (((ah w).alloc (.cells c.cells 27)).alloc (.cells d.cells 27));have bO:=aa ((az w 27 c.cells).alloc (.cells d.cells 27));have zy:=aa (cM (w:=w.alloc (.cells c.cells 27)) (g:=w.heap.size+1) (by simp) 27 d.cells);have HU:=aa (fun w2 (hg:Grow w w2)=>KQ u w2 c hu (hT.grow hg) (h.grow hg));have HV:=aa (fun w2 (hg:Grow w w2)=>KQ v w2 d hv (hT.grow hg) (k.grow hg));have HC:=aa (fun w2 (hg:Grow w w2) (h1:u.formed=true) (h2:v.formed=true)=>adh u v h1 h2 w2 c d (h.grow hg) (k.grow hg));obtain⟨g1,hg1⟩:∃g,u.good=g:=⟨_,rfl⟩;obtain⟨g2,hg2⟩:∃g,v.good=g:=⟨_,rfl⟩;rw[hg1] at HU;rw[hg2] at HV;have aO:=aa hg1;have HG2:=aa hg2;have HO:=aa (fun g cap t w2 hB=>adj g1 g2 g cap t w2 hB);obtain⟨z,hz⟩:∃z,rT g1 g2=z:=⟨_,rfl⟩;rw[hz] at HO
 have HZ:=aa hz;have hc0:=bO.o.cell;have hd0:=zy.o.cell;have hl0:=bO.o.lt;have hm0:=zy.o.lt;clear hu hv hT h k hg1 hg2 hz;by_cases h0:z=0
 ·subst h0;have hform:=adi HZ.o;have f1:=mP (v:=u) (by rw[aO.o];exact hform.1);have f2:=mP (v:=v) (by rw[HG2.o];exact hform.2);have HF:=aa (And.intro f1.1 f2.1);clear hform f1 f2;go_enter func22,ntmps22;go_wp2_with fail;go_region_held3 (fun w'=>(∀q,w'.cell? ⟨w.heap.size,q,none⟩=c.cells[q]?)∧(∀q,w'.cell? ⟨w.heap.size+1,q,none⟩=d.cells[q]?)) (first | go_keep | exact⟨kA,uT⟩ | exact⟨rU,hdy⟩ | exact⟨hcz,Gj⟩)
   (first | ((with_reducible refine(HU.o _ cX.o).mono ?_);rintro e wx ⟨rfl,hgx⟩;have tH:=aa ((cX.o.trans hgx).alloc (.cells #[.int .i64 g1,.int .i64 g2] 29));have mn:=aa ((bN.o.grow hgx).alloc (.cells #[.int .i64 g1,.int .i64 g2] 29));have mo:=aa ((gJ.o.grow hgx).alloc (.cells #[.int .i64 g1,.int .i64 g2] 29));have rU:=(bN.o.grow hgx).cell;have hdy:=(gJ.o.grow hgx).cell;have hcz:=mn.o.cell;have Gj:=mo.o.cell;have Pg:=mn.o.lt;have Gk:=mo.o.lt;clear hgx) | ((with_reducible refine(HV.o _ cX.o).mono ?_);rintro e wx ⟨rfl,hgx⟩;have tH:=aa ((cX.o.trans hgx).alloc (.cells #[.int .i64 g1,.int .i64 g2] 29));have mn:=aa ((bN.o.grow hgx).alloc (.cells #[.int .i64 g1,.int .i64 g2] 29));have mo:=aa ((gJ.o.grow hgx).alloc (.cells #[.int .i64 g1,.int .i64 g2] 29));have rU:=(bN.o.grow hgx).cell;have hdy:=(gJ.o.grow hgx).cell;have hcz:=mn.o.cell;have Gj:=mo.o.cell;have Pg:=mn.o.lt;have Gk:=mo.o.lt;clear hgx) | ((with_reducible refine(HU.o _ aN.o.drew).mono ?_);rintro e wx ⟨rfl,hgx⟩;have cX:=aa (aN.o.drew.trans hgx);have bN:=aa (bO.o.drew.grow hgx);have gJ:=aa (zy.o.drew.grow hgx);have kA:=bN.o.cell;have uT:=gJ.o.cell;have hlx:=bN.o.lt;have hmx:=gJ.o.lt;clear hgx) | ((with_reducible refine(HV.o _ aN.o.drew).mono ?_);rintro e wx ⟨rfl,hgx⟩;have cX:=aa (aN.o.drew.trans hgx);have bN:=aa (bO.o.drew.grow hgx);have gJ:=aa (zy.o.drew.grow hgx);have kA:=bN.o.cell;have uT:=gJ.o.cell;have hlx:=bN.o.lt;have hmx:=gJ.o.lt;clear hgx) | (go_at_call 49;refine(HO.o _ _ _ _ (az _ _ _)).mono ?_;rintro e wz ⟨rfl,rfl⟩))
  all_goals
   go_wp2_with fail
   refine(HC.o _ tH.o HF.o.1 HF.o.2).mono ?_
   rintro e w2 ⟨x,rfl,hg⟩
   have HGZ:=aa (tH.o.trans hg)
   clear hg
   go_wp2_with fail
   go_ret2
   exact⟨_,_,rfl,HGZ.o⟩
 have BC:(z != 0)=true:=by simpa using h0
 clear h0;go_enter func22,ntmps22;go_wp2_with fail;go_region_held3 (fun w'=>(∀q,w'.cell? ⟨w.heap.size,q,none⟩=c.cells[q]?)∧(∀q,w'.cell? ⟨w.heap.size+1,q,none⟩=d.cells[q]?)) (first | go_keep | exact⟨kA,uT⟩ | exact⟨rU,hdy⟩ | exact⟨hcz,Gj⟩)
  (first | ((with_reducible refine(HU.o _ cX.o).mono ?_);rintro e wx ⟨rfl,hgx⟩;have tH:=aa ((cX.o.trans hgx).alloc (.cells #[.int .i64 g1,.int .i64 g2] 29));have mn:=aa ((bN.o.grow hgx).alloc (.cells #[.int .i64 g1,.int .i64 g2] 29));have mo:=aa ((gJ.o.grow hgx).alloc (.cells #[.int .i64 g1,.int .i64 g2] 29));have rU:=(bN.o.grow hgx).cell;have hdy:=(gJ.o.grow hgx).cell;have hcz:=mn.o.cell;have Gj:=mo.o.cell;have Pg:=mn.o.lt;have Gk:=mo.o.lt;clear hgx) | ((with_reducible refine(HV.o _ cX.o).mono ?_);rintro e wx ⟨rfl,hgx⟩;have tH:=aa ((cX.o.trans hgx).alloc (.cells #[.int .i64 g1,.int .i64 g2] 29));have mn:=aa ((bN.o.grow hgx).alloc (.cells #[.int .i64 g1,.int .i64 g2] 29));have mo:=aa ((gJ.o.grow hgx).alloc (.cells #[.int .i64 g1,.int .i64 g2] 29));have rU:=(bN.o.grow hgx).cell;have hdy:=(gJ.o.grow hgx).cell;have hcz:=mn.o.cell;have Gj:=mo.o.cell;have Pg:=mn.o.lt;have Gk:=mo.o.lt;clear hgx) | ((with_reducible refine(HU.o _ aN.o.drew).mono ?_);rintro e wx ⟨rfl,hgx⟩;have cX:=aa (aN.o.drew.trans hgx);have bN:=aa (bO.o.drew.grow hgx);have gJ:=aa (zy.o.drew.grow hgx);have kA:=bN.o.cell;have uT:=gJ.o.cell;have hlx:=bN.o.lt;have hmx:=gJ.o.lt;clear hgx) | ((with_reducible refine(HV.o _ aN.o.drew).mono ?_);rintro e wx ⟨rfl,hgx⟩;have cX:=aa (aN.o.drew.trans hgx);have bN:=aa (bO.o.drew.grow hgx);have gJ:=aa (zy.o.drew.grow hgx);have kA:=bN.o.cell;have uT:=gJ.o.cell;have hlx:=bN.o.lt;have hmx:=gJ.o.lt;clear hgx) | (go_at_call 49;refine(HO.o _ _ _ _ (az _ _ _)).mono ?_;rintro e wz ⟨rfl,rfl⟩))
 all_goals
  go_wp2_with fail
  go_ret2
  exact⟨_,_,rfl,tH.o⟩
theorem adk(v lo hi:V)(c cl ch:Cv)(w:World)(h1:v.yb)(h2:lo.yb)(h3:hi.yb)(hT:dz w)(hv:In w v c)(hl:In w lo cl)(hh:In w hi ch) :
 Calls prog 128 #[c.agg,cl.agg,ch.agg] w fun e w'=>∃b,e=.returned (.bool b)∧Grow w w':=by
 have aN:=aa ((((ah w).alloc (.cells c.cells 27)).alloc (.cells cl.cells 27)).alloc (.cells ch.cells 27));have Gl:=aa (((az w 27 c.cells).alloc (.cells cl.cells 27)).alloc (.cells ch.cells 27));have bO:=aa ((cM (w:=w.alloc (.cells c.cells 27)) (g:=w.heap.size+1) (by simp) 27 cl.cells).alloc (.cells ch.cells 27));have uM:=aa (cM (w:=(w.alloc (.cells c.cells 27)).alloc (.cells cl.cells 27)) (g:=w.heap.size+1+1) (by simp) 27 ch.cells);have HL:=aa (fun w2 (hg:Grow w w2)=>Wc v lo c cl w2 h1 h2 (hT.grow hg) (hv.grow hg) (hl.grow hg));have HH:=aa (fun w2 (hg:Grow w w2)=>Wc v hi c ch w2 h1 h3 (hT.grow hg) (hv.grow hg) (hh.grow hg));clear h1 h2 h3 hT hv hl hh;go_enter func128,ntmps128;have hB:=bO.o.cell;have hA:=Gl.o.cell;have hC:=uM.o.cell
 rcases hk1:(cl.k==0) with _ | _<;>rcases hk2:(ch.k==0) with _ | _
 all_goals
  repeat' (go_wp2_with fail;(first | with_reducible refine(HL.o _ aN.o).mono ?_ | with_reducible refine(HH.o _ aN.o).mono ?_);rintro e w1 ⟨x,y,rfl,hg⟩;replace aN:=aa (aN.o.trans hg);replace Gl:=aa (Gl.o.grow hg);replace uM:=aa (uM.o.grow hg);clear hg;try clear hA hB hC;have hA:=Gl.o.cell;have hC:=uM.o.cell;have hlA:=Gl.o.lt;have hlC:=uM.o.lt;rcases F4 (x<0) with hx | hx<;>rcases F4 (0<x) with hy | hy)
  all_goals
   go_wp2_with fail
   all_goals
    go_ret
    exact⟨_,rfl,aN.o⟩
end
section
open Go.RowKit Go.Shelf
def BD(x y:V):Prop:=∀(w:World) (c c':Cv),In w x c→In w y c' →
 Calls prog 113 #[c.agg,c'.agg] w fun e w'=>∃z,e=.returned (.int .i64 z)∧Grow w w'
theorem Wd(s:ByteArray):∃(cap:World→Nat) (BW:World→World),∀w,(convert 9 23 (.string s)).run prog w=.ok (.slice (some ⟨w.heap.size,0,none⟩) s.size (cap w)) (BW w)∧Grow w (BW w)∧bh (BW w) (some ⟨w.heap.size,0,none⟩) s.data.toList:=
 ⟨fun w=>Classical.choose (BF w s),fun w=>Classical.choose (xP (BF w s)),fun w=>by
  have h:=xP (xP (BF w s));exact⟨h.1,h.2.2.1,h.2.2.2⟩⟩
theorem adl(x y:V)(h:cls x.k≠cls y.k):BD x y:=by
 intro w c c' hx hy;obtain⟨k,n,b,l,f⟩:=x;obtain⟨k',n',b',l',f'⟩:=y;change cls k≠cls k' at h;obtain⟨aB,aL,aF,cB,cL,cF,rfl,-⟩:=hx.open;obtain⟨bB,bL,bF,dB,dL,dF,rfl,-⟩:=hy.open;have HG:=aa (((ah w).alloc (.cells (Cv.mk k n aB b.length cB aL l.length cL aF f.length cF).cells 27)).alloc (.cells (Cv.mk k' n' bB b'.length dB bL l'.length dL bF f'.length dF).cells 27));have HA:=aa (fun w=>wN k w);have ky:=aa (fun w=>wN k' w);have HC:=aa (fun w=>tI (cls k) (cls k') w);have hz:(cls k != cls k')=true:=by simpa using h
 obtain⟨z,hzz⟩:∃z,sg (cls k) (cls k')=z:=⟨_,rfl⟩;rw[hzz] at HC;clear hx hy h hzz;go_enter func113,ntmps113;go_wp2_with fail;go_quiet ((first | (go_at_call 158;exact Calls.quiet_of_same ((HA.o _).mono fun e w' h=>⟨h.1,h.2.symm⟩)) | (go_at_call 158;exact Calls.quiet_of_same ((ky.o _).mono fun e w' h=>⟨h.1,h.2.symm⟩)) | (go_at_call 159;exact Calls.quiet_of_same ((HC.o _).mono fun e w' h=>⟨h.1,h.2.symm⟩))));go_wp2_with fail;go_quiet ((first | (go_at_call 158;exact KR (HA.o _)) | (go_at_call 158;exact KR (ky.o _)) | (go_at_call 159;exact KR (HC.o _))));go_wp2_with fail;go_ret;exact⟨_,rfl,(HG.o.drewN _).drewN _⟩
theorem Ph(k:Int)(n n':Nat)(b b':List UInt8)(l l':List V)(f f':List (ByteArray×V))(c c':Cv)(w:World)(hk2:(k==2)=false)(hk3:(k==3)=false)(hk4:(k==4)=false)(kX:(k==5)=false)(zw:(k==6)=false)
 (hv:In w (.mk k n b l f) c) (hv':In w (.mk k n' b' l' f') c') (hl:∀x∈l,∀y∈l',BD x y) (hf:∀x∈f,∀y∈f',BD x.2 y.2) :
 Calls prog 113 #[c.agg,c'.agg] w fun e w'=>∃z,e=.returned (.int .i64 z)∧Grow w w':=by
 obtain⟨aB,aL,aF,cB,cL,cF,rfl,h1,h2,h3,h4,h5,h6,h7,h8,h9,hb⟩:=hv.open;obtain⟨rE,uC,uD,rF,uE,uF,rfl,h1',h2',h3',h4',rG,h6',Kw,xR,Ky,hb'⟩:=hv'.open;have HV:=aa hv;have zh:=aa hv';have Hl:=aa hl;have Hf:=aa hf;have HA:=aa (fun w=>wN k w);have ky:=aa (fun w=>wN k w);have HC:=aa (fun w=>tI (cls k) (cls k) w);clear hv hv' hb hb' h1 h2 h3 h4 h5 h6 h8 h1' h2' h3' h4' rG h6' xR hl hf;go_enter func113,ntmps113;go_wp2_with fail;go_quiet ((first | (go_at_call 158;exact Calls.quiet_of_same ((HA.o _).mono fun e w' h=>⟨h.1,h.2.symm⟩)) | (go_at_call 158;exact Calls.quiet_of_same ((ky.o _).mono fun e w' h=>⟨h.1,h.2.symm⟩)) | (go_at_call 159;exact Calls.quiet_of_same ((HC.o _).mono fun e w' h=>⟨h.1,h.2.symm⟩))));go_wp2_with fail
 go_loopg [5] (l.length+1) (fun gk i wr=>∃j:Nat,j≤l.length∧j≤l'.length∧gk+j=l.length+1∧i=.int .i64 j∧Grow w wr∧Blk wr w.heap.size 27 (Cv.cells ⟨k,(n:Int),aB,b.length,cB,aL,l.length,cL,aF,f.length,cF⟩)∧Blk wr (w.heap.size+1) 27 (Cv.cells ⟨k,(n':Int),rE,b'.length,rF,uC,l'.length,uE,uD,f'.length,uF⟩));exact⟨0,by omega,by omega,by omega,rfl,(((ah w).alloc _).alloc _).drewN _,((az _ _ _).alloc _).drewN _,(cM (by simp) _ _).drewN _⟩;obtain⟨j,hj,hjb,hg,rfl,hw,hB,hB'⟩:=hrel;obtain⟨gk',rfl⟩:=bz gk (by omega);have hc3:=hB.cell;have Bn:=hB'.cell;have HW:=aa hw;have HB:=aa hB;have jh:=aa hB';have hz0:w.heap.size<wr.heap.size:=HB.o.lt;have hz1:w.heap.size+1<wr.heap.size:=jh.o.lt;by_cases hlt:j<l.length∧j<l'.length
 ·obtain⟨ku,hlt'⟩:=hlt;obtain⟨bk,o,x,ha,hbk,e0,e1,e2,e3,e4,hx⟩:=(HV.o.grow hw).fh j ku;obtain⟨pD,o',x',ha',og,uG,xS,e2',e3',Bo,hx'⟩:=(zh.o.grow hw).fh j hlt';dsimp only at ha ha';subst ha ha';have tv:=Hl.o _ (aS ku) _ (aS hlt');have HJ:=aa (fun w2 (hgr:Grow wr w2)=>tv w2 x x' (hx.grow hgr) (hx'.grow hgr));clear hw hx hx' hB hB' tv;go_wp2_with fail;go_region_held3 (fun w'=>∀b o,b<wr.heap.size→w'.cell? ⟨b,o,none⟩=wr.cell? ⟨b,o,none⟩) (first | exact fun _ _ _=>rfl | exact fun b o h=>hgr.below.cell (p:=⟨b,o,none⟩) h)
   (first | (go_at_call 113;refine(HJ.o _ (ah wr).drew).mono ?_;rintro e w2 ⟨z,rfl,hb2⟩;have hgr:Grow wr w2:=((ah wr).drew).trans hb2))
  have aJ:=aa hgr;clear hgr hb2;by_cases he:z=0
  ·have BC:(z != 0)=false:=by rw[he];rfl
   clear he;go_wp2_with fail;go_roundg gk';exact⟨j+1,by omega,by omega,by omega,by go_num,HW.o.trans aJ.o,HB.o.grow aJ.o,jh.o.grow aJ.o⟩;omega
  have BC:(z != 0)=true:=by simpa using he
  clear he;go_wp2_with fail;go_ret;exact⟨_,rfl,HW.o.trans aJ.o⟩
 have hend:j=l.length∨(j<l.length∧j=l'.length):=by omega
 clear hw hB hB' hlt hg;rcases hend with hjl | ⟨hjl,Pj⟩
 all_goals
  first | subst hjl | skip
  try subst Pj
  go_wp2_with fail
  go_loopg [7] (f.length+1) (fun gk i wr=>∃j:Nat,j≤f.length∧j≤f'.length∧gk+j=f.length+1∧i=.int .i64 j∧Grow w wr∧Blk wr w.heap.size 27 (Cv.cells ⟨k,(n:Int),aB,b.length,cB,aL,l.length,cL,aF,f.length,cF⟩)∧Blk wr (w.heap.size+1) 27 (Cv.cells ⟨k,(n':Int),rE,b'.length,rF,uC,l'.length,uE,uD,f'.length,uF⟩))
  exact⟨0,by omega,by omega,by omega,rfl,HW.o,HB.o,jh.o⟩
  obtain⟨j,hj,hjb,hg,rfl,hw,hB,hB'⟩:=hrel
  obtain⟨gk',rfl⟩:=bz gk (by omega)
  clear hc3 Bn HW HB jh hz0 hz1
  have hc3:=hB.cell
  have Bn:=hB'.cell
  have HW:=aa hw
  have HB:=aa hB
  have jh:=aa hB'
  have hz0:w.heap.size<wr.heap.size:=HB.o.lt
  have hz1:w.heap.size+1<wr.heap.size:=jh.o.lt
  by_cases hlt:j<f.length∧j<f'.length
  ·obtain⟨ku,hlt'⟩:=hlt
   obtain⟨bk,o,x,ha,hbk,es,ik,e0,e1,e2,e3,e4,hx⟩:=(HV.o.grow hw).gX j ku
   obtain⟨pD,o',x',ha',og,es',DC,uG,xS,e2',e3',Bo,hx'⟩:=(zh.o.grow hw).gX j hlt'
   dsimp only at ha ha'
   subst ha ha'
   have tv:=Hf.o _ (aS ku) _ (aS hlt')
   have HJ:=aa (fun w2 (hgr:Grow wr w2)=>tv w2 x x' (hx.grow hgr) (hx'.grow hgr))
   clear hw hx hx' hB hB' tv
   obtain⟨s1,hs1⟩:∃s,f[j].1=s:=⟨_,rfl⟩
   obtain⟨s2,hs2⟩:∃s,f'[j].1=s:=⟨_,rfl⟩
   rw[hs1] at es ik
   rw[hs2] at es' DC
   have HT:=aa (fun W A B c d (ha:bh W A s1.data.toList) (hb:bh W B s2.data.toList)=>We s1.data.toList s2.data.toList A B c d W ha hb (by simpa using ik) (by simpa using DC))
   rw[show s1.data.toList.length=s1.size by simp,show s2.data.toList.length=s2.size by simp] at HT
   obtain⟨z1,zx⟩:∃z,Lib.compareBytes s1.data.toList s2.data.toList=z:=⟨_,rfl⟩
   rw[zx] at HT
   clear hs1 hs2 zx ik DC
   obtain⟨p1,B1,fp⟩:=Wd s1
   obtain⟨p2,B2,dH⟩:=Wd s2
   have hr1:=fun w=>(fp w).1
   have hr2:=fun w=>(dH w).1
   have G1:=aa (fun w=>(fp w).2.1)
   have G2:=aa (fun w=>(dH w).2.1)
   have I1:=aa (fun w=>(fp w).2.2)
   have I2:=aa (fun w=>(dH w).2.2)
   clear fp dH
   go_upto_region 21 with fail
   go_cut [8] from 76 to 122 (fun k wx=>k=.int .i64 z1∧Grow wr wx)
   case first =>
    refine dg ?_
    refine cW (S:=fun w'=>∀b o,b<wr.heap.size→w'.cell? ⟨b,o,none⟩=wr.cell? ⟨b,o,none⟩) (by kernel_rfl) (fun _ _ _=>rfl) (fun hHeld=>?_)
    refine ai 0 ?_
    refine ai 1 ?_
    refine ai 2 ?_
    refine ai 3 ?_
    refine ai 4 ?_
    refine ai 5 ?_
    refine ai 7 ?_
    refine ai 8 ?_
    refine ai 9 ?_
    refine ai 10 ?_
    refine ai 11 ?_
    refine ai 12 ?_
    refine bC [6,13] ?_
    refine fC (fun K hK=>?_) ?_
    ·go_simp
     refine aT hK (fun b o h=>((ah wr).drew.trans (G1.o _)).below.cell (p:=⟨b,o,none⟩) h) (fun hHeld=>?_)
     refine aK 13 (fun K hK=>?_)
     go_simp
     refine aT hK (fun b o h=>(((ah wr).drew.trans (G1.o _)).trans (G2.o _)).below.cell (p:=⟨b,o,none⟩) h) (fun hHeld=>?_)
     refine aK 14 (fun K hK=>?_)
     go_simp
     go_at_call 161
     refine(HT.o _ _ _ _ _ ((I1.o _).grow (G2.o _)) (I2.o _)).mono ?_
     rintro e wt ⟨rfl,Pk⟩
     have hgt:Grow wr wt:=(((ah wr).drew.trans (G1.o _)).trans (G2.o _)).trans Pk
     refine aT hK (fun b o h=>(hgt).below.cell (p:=⟨b,o,none⟩) h) (fun hHeld=>?_)
     refine ai 15 ?_
     refine cG ?_
     go_wp2_with fail
     go_meet
     exact⟨rfl,hgt⟩
    refine fC (fun K hK=>?_) dM
    go_simp
    refine aT hK (fun b o h=>((ah wr).drew.trans (G2.o _)).below.cell (p:=⟨b,o,none⟩) h) (fun hHeld=>?_)
    refine aK 6 (fun K hK=>?_)
    go_simp
    refine aT hK (fun b o h=>(((ah wr).drew.trans (G2.o _)).trans (G1.o _)).below.cell (p:=⟨b,o,none⟩) h) (fun hHeld=>?_)
    refine aK 14 (fun K hK=>?_)
    go_simp
    go_at_call 161
    refine(HT.o _ _ _ _ _ (I1.o _) ((I2.o _).grow (G1.o _))).mono ?_
    rintro e wt ⟨rfl,Pk⟩
    have hgt:Grow wr wt:=(((ah wr).drew.trans (G2.o _)).trans (G1.o _)).trans Pk
    refine aT hK (fun b o h=>(hgt).below.cell (p:=⟨b,o,none⟩) h) (fun hHeld=>?_)
    refine ai 15 ?_
    refine cG ?_
    go_wp2_with fail
    go_meet
    exact⟨rfl,hgt⟩
   obtain⟨rfl,hgt⟩:=hcut
   rename World=>wx
   have wO:=aa hgt
   clear hgt
   by_cases hzz:z1=0
   ·have adm:(z1==0)=true:=by rw[hzz];rfl
    clear hzz
    have hct:=(HB.o.grow wO.o).cell
    have am9:=(jh.o.grow wO.o).cell
    have KC:∀b o,b<wr.heap.size→wx.cell? ⟨b,o,none⟩=wr.cell? ⟨b,o,none⟩:=fun b o h=>wO.o.below.cell (p:=⟨b,o,none⟩) h
    have hzt:=wO.o.size
    go_wp2_with fail
    go_region_held3 (fun w'=>∀b o,b<wr.heap.size→w'.cell? ⟨b,o,none⟩=wr.cell? ⟨b,o,none⟩) (first | exact KC | exact fun b o h=>hgr.below.cell (p:=⟨b,o,none⟩) h)
     (first | (go_at_call 113;refine(HJ.o _ wO.o.drew).mono ?_;rintro e w2 ⟨z,rfl,hb2⟩;have hgr:Grow wr w2:=(wO.o.drew).trans hb2))
    have aJ:=aa hgr
    clear hgr hb2
    by_cases he:z=0
    ·have BC:(z != 0)=false:=by rw[he];rfl
     clear he
     go_wp2_with fail
     go_roundg gk'
     exact⟨j+1,by omega,by omega,by omega,by go_num,HW.o.trans aJ.o,HB.o.grow aJ.o,jh.o.grow aJ.o⟩
     omega
    have BC:(z != 0)=true:=by simpa using he
    clear he
    go_wp2_with fail
    go_ret
    exact⟨_,rfl,HW.o.trans aJ.o⟩
   have adm:(z1==0)=false:=by simpa using hzz
   have am_:(z1 != 0)=true:=by simpa using hzz
   clear hzz
   go_wp2_with fail
   go_ret
   exact⟨_,rfl,HW.o.trans wO.o⟩
  have hend:j=f.length∨(j<f.length∧j=f'.length):=by omega
  clear hw hB hB' hlt hg
  have HN:=aa (fun w=>tI ((l.length:Int)+(f.length:Int)) ((l'.length:Int)+(f'.length:Int)) w)
  rcases hend with hjl | ⟨hjl,Pj⟩
  all_goals
   first | subst hjl | skip
   try subst Pj
   go_wp2_with (go_at_call 159;refine(HN.o _).mono ?_;rintro e w2 ⟨rfl,rfl⟩)
   go_ret
   exact⟨_,rfl,HW.o⟩
theorem adn(k k':Int)(n n':Nat)(hk:k=3∨k=4)(hk':k'=3∨k'=4):BD (.mk k n [] [] []) (.mk k' n' [] [] []):=by
 intro w c c' hx hy;have HN:=aa (fun w2 (hg:Grow w w2)=>ado k k' n n' c c' w2 hk hk' (hx.grow hg) (hy.grow hg));obtain⟨aB,aL,aF,cB,cL,cF,rfl,-⟩:=hx.open;obtain⟨bB,bL,bF,dB,dL,dF,rfl,-⟩:=hy.open;have HG:=aa (((ah w).alloc (.cells (Cv.mk k n aB 0 cB aL 0 cL aF 0 cF).cells 27)).alloc (.cells (Cv.mk k' n' bB 0 dB bL 0 dL bF 0 dF).cells 27));have HA:=aa (fun w=>wN k w);have ky:=aa (fun w=>wN k' w);have HC:=aa (fun w=>tI 3 3 w);rw[rS rfl] at HC;rw[show cls k=3 by rcases hk with rfl | rfl<;>rfl] at HA;rw[show cls k'=3 by rcases hk' with rfl | rfl<;>rfl] at ky;have hk2:(k==2)=false:=by rcases hk with rfl | rfl<;>rfl
 clear hx hy;rcases hk with rfl | rfl
 all_goals
  go_enter func113,ntmps113
  go_wp2_with fail
  go_quiet ((first | (go_at_call 158;exact Calls.quiet_of_same ((HA.o _).mono fun e w' h=>⟨h.1,h.2.symm⟩)) | (go_at_call 158;exact Calls.quiet_of_same ((ky.o _).mono fun e w' h=>⟨h.1,h.2.symm⟩)) | (go_at_call 159;exact Calls.quiet_of_same ((HC.o _).mono fun e w' h=>⟨h.1,h.2.symm⟩))))
  go_wp2_with fail
  refine(HN.o _ (HG.o.drewN _)).mono ?_
  rintro e w2 ⟨z,rfl,hg⟩
  have HG2:=aa ((HG.o.drewN _).trans hg)
  clear hg
  go_wp2_with fail
  go_ret
  exact⟨_,rfl,HG2.o⟩
theorem adp(n n':Nat)(hn:n≤1)(hn':n'≤1):BD (.mk 2 n [] [] []) (.mk 2 n' [] [] []):=by
 intro w c c' hx hy;obtain⟨aB,aL,aF,cB,cL,cF,rfl,-⟩:=hx.open;obtain⟨bB,bL,bF,dB,dL,dF,rfl,-⟩:=hy.open;have HG:=aa (((ah w).alloc (.cells (Cv.mk 2 n aB 0 cB aL 0 cL aF 0 cF).cells 27)).alloc (.cells (Cv.mk 2 n' bB 0 dB bL 0 dL bF 0 dF).cells 27));have HA:=aa (fun w=>wN 2 w);have ky:=aa (fun w=>wN 2 w);have HC:=aa (fun w=>tI 2 2 w);rw[rS rfl] at HC;rw[show cls 2=2 from rfl] at HA ky;have HN:=aa (fun w=>tI n n' w);clear hx hy;go_enter func113,ntmps113;go_wp2_with fail;go_quiet ((first | (go_at_call 158;exact Calls.quiet_of_same ((HA.o _).mono fun e w' h=>⟨h.1,h.2.symm⟩)) | (go_at_call 158;exact Calls.quiet_of_same ((ky.o _).mono fun e w' h=>⟨h.1,h.2.symm⟩)) | (go_at_call 159;exact Calls.quiet_of_same ((HC.o _).mono fun e w' h=>⟨h.1,h.2.symm⟩))))
 go_wp2_with (go_at_call 159;refine(HN.o _).mono ?_;rintro e w2 ⟨rfl,rfl⟩);go_ret;exact⟨_,rfl,HG.o.drewN _⟩
theorem adq(k:Int)(b b':List UInt8)(hk:k=5∨k=6):BD (.mk k 0 b [] []) (.mk k 0 b' [] []):=by
 intro w c c' hx hy;obtain⟨aB,aL,aF,cB,cL,cF,rfl,-,-,-,-,hbl,-,-,-,-,hb⟩:=hx.open;obtain⟨bB,bL,bF,dB,dL,dF,rfl,-,-,-,-,adr,-,-,-,-,hb'⟩:=hy.open;have HG:=aa (((ah w).alloc (.cells (Cv.mk k 0 aB b.length cB aL 0 cL aF 0 cF).cells 27)).alloc (.cells (Cv.mk k 0 bB b'.length dB bL 0 dL bF 0 dF).cells 27));have HA:=aa (fun w=>wN k w);have ky:=aa (fun w=>wN k w);have HC:=aa (fun w=>tI k k w);rw[rS rfl] at HC;rw[show cls k=k by rcases hk with rfl | rfl<;>rfl] at HA ky;have HN:=aa (fun w2 (hg:Grow w w2)=>We b b' aB bB cB dB w2 (hb.grow hg) (hb'.grow hg) hbl adr);have hk2:(k==2)=false:=by rcases hk with rfl | rfl<;>rfl
 have hk3:(k==3)=false:=by rcases hk with rfl | rfl<;>rfl
 have hk4:(k==4)=false:=by rcases hk with rfl | rfl<;>rfl
 clear hx hy hb hb';rcases hk with rfl | rfl
 all_goals
  go_enter func113,ntmps113
  go_wp2_with fail
  go_quiet ((first | (go_at_call 158;exact Calls.quiet_of_same ((HA.o _).mono fun e w' h=>⟨h.1,h.2.symm⟩)) | (go_at_call 158;exact Calls.quiet_of_same ((ky.o _).mono fun e w' h=>⟨h.1,h.2.symm⟩)) | (go_at_call 159;exact Calls.quiet_of_same ((HC.o _).mono fun e w' h=>⟨h.1,h.2.symm⟩))))
  go_wp2_with (go_at_call 161;refine(HN.o _ (HG.o.drewN _)).mono ?_;rintro e w2 ⟨rfl,hg⟩)
  go_ret
  exact⟨_,rfl,(HG.o.drewN _).trans hg⟩
theorem Wf(x:V):∀y:V,x.formed=true→y.formed=true→BD x y:=by
 induction x using V.ind with
 | h k n b l f hl hf =>
  intro y hx hy;obtain⟨k',n',b',l',f'⟩:=y;by_cases hcl:cls k≠cls k'
  ·exact adl _ _ hcl
  have hcl:cls k=cls k':=AY hcl;rcases tq hx with h | ⟨m,hm,h⟩ | ⟨m,h⟩ | ⟨m,h⟩ | ⟨m,hm,h⟩ | ⟨m,h⟩ | ⟨m,hm,h⟩ | ⟨m,hm,hnd,h⟩<;>cases h <;>
  rcases tq hy with h | ⟨m',hm',h⟩ | ⟨m',h⟩ | ⟨m',h⟩ | ⟨m',hm',h⟩ | ⟨m',h⟩ | ⟨m',hm',h⟩ | ⟨m',hm',hnd',h⟩<;>cases h <;>
  first
  | exact absurd hcl (by decide)
  | exact adn _ _ _ _ (by decide) (by decide)
  | exact adp _ _ hm hm'
  | exact adq _ _ _ (by decide)
  | skip
  ·exact fun w c c' h h'=>Ph 1 0 0 [] [] [] [] [] [] c c' w rfl rfl rfl rfl rfl h h' (fun _ hx=>by simp at hx) (fun _ hx=>by simp at hx)
  ·exact fun w c c' h h'=>Ph 7 0 0 [] [] l l' [] [] c c' w rfl rfl rfl rfl rfl h h' (fun x hx y hy=>hl x hx y (hm x hx) (hm' y hy)) (fun _ hx=>by simp at hx)
  exact fun w c c' h h'=>Ph 8 0 0 [] [] [] [] f f' c c' w rfl rfl rfl rfl rfl h h' (fun _ hx=>by simp at hx) (fun x hx y hy=>hf x hx y.2 (hm x hx).2 (hm' y hy).2)
end
end Go.Proofs.YtndjopkdbdcmdaaGreatDoor
