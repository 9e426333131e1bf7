/- Part 4 of the proof of pgets_card. -/
import Derived.Test.YtndjopkdbdcmdaaGreatDoorPge1
import Derived.Test.YtndjopkdbdcmdaaGreatDoorProg
import Derived.Ground.NamesProg
import Derived.WalkMore
import Derived.Shelf.Unicode.ValidAny
import Derived.Shelf.Strings.FuncGrows
import Derived.Deep.RegionWith
import Derived.Shelf.Strings.SplitShaped
import Derived.Shelf.SlSortCmp.KitK
import Derived.Deep.CutRange
import Derived.Ground.SlsfProg
set_option linter.unusedVariables false
set_option linter.unusedSimpArgs false
set_option maxRecDepth 100000
set_option maxHeartbeats 12800000
open Go.Proofs.Tryz
namespace Go.Proofs.YtndjopkdbdcmdaaGreatDoor
variable {P:Program}{W w w0:World}{i j:Nat}
end Go.Proofs.YtndjopkdbdcmdaaGreatDoor
namespace Go.Proofs
open Go.Shelf
def akw:Go.Shelf.Ren:=⟨fun | 196=>130 | 259=>174 | n=>n,fun | 9=>9 | 4=>4 | 3=>3 | 5=>5 | 12=>12 | 119=>176 | 0=>0 | 46=>180 | 139=>179 | 138=>178 | 53=>22 | n=>n,fun | 3=>0 | 4=>1 | n=>n⟩
theorem abk:Go.Proofs.Lays.n196 prog akw:={
 mixed:=by kernel_rfl
 f196:=func130.trans (congrArg some (by kernel_rfl))
 f259:=func174.trans (congrArg some (by kernel_rfl))
 t0:=underlying0
 a0:=isAgg0
 z0:=sizeOf0
 v0:=zeroValue0
 t3:=underlying3
 a3:=isAgg3
 z3:=sizeOf3
 v3:=zeroValue3
 t4:=underlying4
 a4:=isAgg4
 z4:=sizeOf4
 v4:=zeroValue4
 t5:=underlying5
 a5:=isAgg5
 z5:=sizeOf5
 v5:=zeroValue5
 t9:=underlying9
 a9:=isAgg9
 z9:=sizeOf9
 v9:=zeroValue9
 t12:=underlying12
 a12:=isAgg12
 z12:=sizeOf12
 v12:=zeroValue12
 t46:=underlying180
 a46:=isAgg180
 z46:=sizeOf180
 v46:=zeroValue180
 t53:=underlying22
 a53:=isAgg22
 z53:=sizeOf22
 v53:=zeroValue22
 t119:=underlying176
 a119:=isAgg176
 z119:=sizeOf176
 t138:=underlying178
 a138:=isAgg178
 z138:=sizeOf178
 v138:=zeroValue178
 t139:=underlying179
 a139:=isAgg179
 z139:=sizeOf179
 v139:=zeroValue179
 g3:=by kernel_rfl
 g4:=by kernel_rfl }
def akx:Go.Shelf.Ren:=⟨fun | 17=>131 | 15=>175 | 20=>198 | n=>n,fun | 9=>9 | 23=>182 | 4=>4 | 3=>3 | 0=>0 | 21=>21 | n=>n,fun | n=>n⟩
theorem aky:Go.Proofs.LaysGw.n17 prog akx:={
 mixed:=by kernel_rfl
 f15:=func175.trans (congrArg some (by kernel_rfl))
 f17:=func131.trans (congrArg some (by kernel_rfl))
 f20:=func198.trans (congrArg some (by kernel_rfl))
 t0:=underlying0
 a0:=isAgg0
 z0:=sizeOf0
 v0:=zeroValue0
 i0:=by kernel_rfl
 t3:=underlying3
 a3:=isAgg3
 z3:=sizeOf3
 v3:=zeroValue3
 i3:=by kernel_rfl
 t4:=underlying4
 a4:=isAgg4
 z4:=sizeOf4
 v4:=zeroValue4
 i4:=by kernel_rfl
 t9:=underlying9
 a9:=isAgg9
 z9:=sizeOf9
 v9:=zeroValue9
 i9:=by kernel_rfl
 t21:=underlying21
 a21:=isAgg21
 z21:=sizeOf21
 v21:=zeroValue21
 i21:=by kernel_rfl
 t23:=underlying182
 a23:=isAgg182
 z23:=sizeOf182
 v23:=zeroValue182
 i23:=by kernel_rfl }
end Go.Proofs
namespace Go.Proofs.YtndjopkdbdcmdaaGreatDoor
variable {P:Program}{W w w0:World}{i j:Nat}
section
open Go.RowKit
theorem akz(v:V):∀(w:World) (c:Cv),In w v c →
 Calls prog 44 #[c.agg] w fun e w'=>e=.returned (.int .i64 v.most)∧Grow w w':=by
 induction v using V.ind with
 | h k n b l f hl hf =>
  intro w c hv;have HV:=aa hv;obtain⟨aB,aL,aF,cB,cL,cF,rfl,h1,h2,h3,h4,h5,h6,h7,h8,h9,hb⟩:=hv.open;have Hl:=aa hl;have Hf:=aa hf;clear hb h1 h2 h3 hl hf h4 h5 hv;go_enter func44,ntmps44;go_wp2_with fail
  all_goals
   go_loopg [3,18] (l.length+1) (fun gk m i wr=>∃j:Nat,j≤l.length∧gk+j=l.length+1∧i=.int .i64 j∧m=.int .i64 ((((l.take j).map V.most).foldl max (max l.length f.length):Nat):Int) ∧
    Grow w wr∧In wr (.mk k n b l f) ⟨k,(n:Int),aB,b.length,cB,aL,l.length,cL,aF,f.length,cF⟩∧Blk wr w.heap.size 27 (Cv.cells ⟨k,(n:Int),aB,b.length,cB,aL,l.length,cL,aF,f.length,cF⟩))
   exact⟨0,by omega,by omega,rfl,by simp;omega,(ah w).alloc _,oc HV.o ((ah w).alloc _),az _ _ _⟩
   obtain⟨j,hj,hg,rfl,rfl,hw,hv,hB⟩:=hrel
   obtain⟨gk',rfl⟩:=bz gk (by omega)
   by_cases hlt:j<l.length
   ·obtain⟨bk,o,x,ha,hbk,e0,e1,e2,e3,e4,hx⟩:=hv.fh j hlt
    dsimp only at ha
    subst ha
    have HW:=aa hw
    have HX:=aa hx
    have qf:=aa hv
    have HB:=aa hB
    have hm:=Dt V.most l (max l.length f.length) j hlt
    have HM:=aa hm
    clear hw hx hv hB hm
    go_wp2_with fail
    refine(Hl.o _ (aS hlt) _ x (HX.o.grow ((ah wr).alloc _))).mono ?_
    rintro e w' ⟨rfl,hb'⟩
    have hgr:Hid (Grow wr w'):=((ah wr).alloc _).trans hb'
    clear hb' e0 e1 e2 e3 e4
    go_wp2_with fail
    all_goals
     go_roundg gk'
     exact⟨j+1,by omega,by omega,by go_num,by rw[HM.o];go_num,HW.o.trans hgr.o,qf.o.grow hgr.o,HB.o.grow hgr.o⟩
     omega
   obtain rfl:j=l.length:=by omega
   have hc:=hB.cell
   have HW:=aa hw
   have qf:=aa hv
   clear hw hv hB hlt hg
   go_wp2_with fail
   go_loopg [3,30] (f.length+1) (fun gk m i wr=>∃j:Nat,j≤f.length∧gk+j=f.length+1∧i=.int .i64 j∧m=.int .i64 ((((f.take j).map fun x=>x.2.most).foldl max ((l.map V.most).foldl max (max l.length f.length)):Nat):Int) ∧
    Grow w wr∧In wr (.mk k n b l f) ⟨k,(n:Int),aB,b.length,cB,aL,l.length,cL,aF,f.length,cF⟩)
   exact⟨0,by omega,by omega,rfl,by simp,HW.o,qf.o⟩
   obtain⟨j,hj,hg,rfl,rfl,hw,hv⟩:=hrel
   obtain⟨gk',rfl⟩:=bz gk (by omega)
   by_cases hlt:j<f.length
   ·obtain⟨bk,o,x,ha,hbk,es,ik,e0,e1,e2,e3,e4,hx⟩:=hv.gX j hlt
    dsimp only at ha
    subst ha
    have HW:=aa hw
    have HX:=aa hx
    have qf:=aa hv
    have hm:=Dt (fun x:ByteArray×V=>x.2.most) f ((l.map V.most).foldl max (max l.length f.length)) j hlt
    have HM:=aa hm
    clear hw hx hv hm
    go_wp2_with fail
    refine(Hf.o _ (aS hlt) _ x (HX.o.grow ((ah wr).alloc _))).mono ?_
    rintro e w' ⟨rfl,hb'⟩
    have hgr:Hid (Grow wr w'):=((ah wr).alloc _).trans hb'
    clear hb' e0 e1 e2 e3 e4 es
    go_wp2_with fail
    all_goals
     go_roundg gk'
     exact⟨j+1,by omega,by omega,by go_num,by rw[HM.o];go_num,HW.o.trans hgr.o,qf.o.grow hgr.o⟩
     omega
   obtain rfl:j=f.length:=by omega
   have HW:=aa hw
   clear hw hv hlt hg
   go_wp2_with fail
   go_ret
   exact⟨ij (by rw[V.Ol,fT]),HW.o⟩
theorem akA(v:V)(hk:v.k≠7∧v.k≠8)(w:World)(c:Cv)(hv:In w v c) :
 Calls prog 45 #[c.agg] w fun e w'=>e=.returned (.int .i64 0)∧Grow w w':=by
 obtain⟨k,n,b,l,f⟩:=v;obtain⟨aB,aL,aF,cB,cL,cF,rfl,h1,h2,h3,h4,h5,h6,h7,h8,h9,hb⟩:=hv.open;have e7:(k != 7)=true:=by simpa [V.k] using hk.1
 have e8:(k != 8)=true:=by simpa [V.k] using hk.2
 clear hb hv hk;go_enter func45,ntmps45;go_wp2_with fail;go_ret;exact⟨rfl,(ah w).alloc _⟩
theorem akB(v:V):∀(w:World) (c:Cv),v.formed=true→v.depth≤1099511627776→In w v c →
 Calls prog 45 #[c.agg] w fun e w'=>e=.returned (.int .i64 v.depth)∧Grow w w':=by
 induction v using V.ind with
 | h k n b l f hl hf =>
  intro w c fV rR hv;rcases tq fV with h | ⟨_,_,h⟩ | ⟨_,h⟩ | ⟨_,h⟩ | ⟨_,_,h⟩ | ⟨_,h⟩ | ⟨l',hl',h⟩ | ⟨f',hf',hnd,h⟩
  case inr.inr.inr.inr.inr.inr.inl =>
   cases h
   have bA:∀x∈l,x.depth≤1099511627776:=fun x hx=>aV (V.Om hx) rR
   rw[V.Vz] at rR;have C5:=aa bA;have HV:=aa hv;obtain⟨aB,aL,aF,cB,cL,cF,rfl,h1,h2,h3,h4,h5,h6,h7,h8,h9,hb⟩:=hv.open;have Hl:=aa hl;have T8:=aa hl';clear hb h1 h2 h3 hl hf h4 h5 hv hl' fV bA;go_enter func45,ntmps45;go_wp2_with fail;go_loopg [3,19] (l.length+1) (fun gk m i wr=>∃j:Nat,j≤l.length∧gk+j=l.length+1∧i=.int .i64 j∧m=.int .i64 ((((l.take j).map V.depth).foldl max 0:Nat):Int) ∧
    Grow w wr∧In wr (.mk 7 0 [] l []) ⟨7,0,aB,0,cB,aL,l.length,cL,aF,0,cF⟩∧Blk wr w.heap.size 27 (Cv.cells ⟨7,0,aB,0,cB,aL,l.length,cL,aF,0,cF⟩))
   exact⟨0,by omega,by omega,rfl,by simp,(ah w).alloc _,oc HV.o ((ah w).alloc _),az _ _ _⟩;obtain⟨j,hj,hg,rfl,rfl,hw,hv,hB⟩:=hrel;obtain⟨gk',rfl⟩:=bz gk (by omega);by_cases hlt:j<l.length
   ·obtain⟨bk,o,x,ha,hbk,e0,e1,e2,e3,e4,hx⟩:=hv.fh j hlt;dsimp only at ha;subst ha;have HW:=aa hw;have HX:=aa hx;have qf:=aa hv;have HB:=aa hB;have hm:=Dt V.depth l 0 j hlt;have HM:=aa hm;clear hw hx hv hB hm;go_wp2_with fail;refine(Hl.o _ (aS hlt) _ x (T8.o _ (aS hlt)) (C5.o _ (aS hlt)) (HX.o.grow ((ah wr).alloc _))).mono ?_;rintro e w' ⟨rfl,hb'⟩;have hgr:Hid (Grow wr w'):=((ah wr).alloc _).trans hb';clear hb' e0 e1 e2 e3 e4;go_wp2_with fail
    all_goals
     go_roundg gk'
     exact⟨j+1,by omega,by omega,by go_num,by rw[HM.o];go_num,HW.o.trans hgr.o,qf.o.grow hgr.o,HB.o.grow hgr.o⟩
     omega
   obtain rfl:j=l.length:=by omega
   have hc:=hB.cell;have HW:=aa hw;rw[fT];clear hw hv hB hlt hg;go_wp2_with fail;refine fZ ?_;go_wp2_with fail;go_ret;exact⟨ij (by rw[V.Vz];omega),HW.o⟩
  case inr.inr.inr.inr.inr.inr.inr =>
   cases h
   have bA:∀x∈f,x.2.depth≤1099511627776:=fun x hx=>aV (V.Oo hx) rR
   rw[V.Oq] at rR;have C5:=aa bA;have HV:=aa hv;obtain⟨aB,aL,aF,cB,cL,cF,rfl,h1,h2,h3,h4,h5,h6,h7,h8,h9,hb⟩:=hv.open;have Hf:=aa hf;have T9:=aa hf';clear hb h1 h2 h3 hl hf h4 h5 hv hf' fV bA;go_enter func45,ntmps45;go_wp2_with fail;refine fZ ?_;go_wp2_with fail;go_loopg [3,31] (f.length+1) (fun gk m i wr=>∃j:Nat,j≤f.length∧gk+j=f.length+1∧i=.int .i64 j∧m=.int .i64 ((((f.take j).map fun x=>x.2.depth).foldl max 0:Nat):Int) ∧
    Grow w wr∧In wr (.mk 8 0 [] [] f) ⟨8,0,aB,0,cB,aL,0,cL,aF,f.length,cF⟩)
   exact⟨0,by omega,by omega,rfl,by simp,(ah w).alloc _,oc HV.o ((ah w).alloc _)⟩;obtain⟨j,hj,hg,rfl,rfl,hw,hv⟩:=hrel;obtain⟨gk',rfl⟩:=bz gk (by omega);by_cases hlt:j<f.length
   ·obtain⟨bk,o,x,ha,hbk,es,ik,e0,e1,e2,e3,e4,hx⟩:=hv.gX j hlt;dsimp only at ha;subst ha;have HW:=aa hw;have HX:=aa hx;have qf:=aa hv;have hm:=Dt (fun x:ByteArray×V=>x.2.depth) f 0 j hlt;have HM:=aa hm;clear hw hx hv hm;go_wp2_with fail;refine(Hf.o _ (aS hlt) _ x (T9.o _ (aS hlt)).2 (C5.o _ (aS hlt)) (HX.o.grow ((ah wr).alloc _))).mono ?_;rintro e w' ⟨rfl,hb'⟩;have hgr:Hid (Grow wr w'):=((ah wr).alloc _).trans hb';clear hb' e0 e1 e2 e3 e4 es;go_wp2_with fail
    all_goals
     go_roundg gk'
     exact⟨j+1,by omega,by omega,by go_num,by rw[HM.o];go_num,HW.o.trans hgr.o,qf.o.grow hgr.o⟩
     omega
   obtain rfl:j=f.length:=by omega
   have HW:=aa hw;rw[fT];clear hw hv hlt hg;go_wp2_with fail;go_ret;exact⟨ij (by rw[V.Oq];omega),HW.o⟩
  all_goals
   cases h
   refine(akA _ (by simp[V.k]) w c hv).mono ?_
   rintro e w' ⟨rfl,hg⟩
   exact⟨by simp[V.zg],hg⟩
end
section
open Go.RowKit
theorem akC(v:V)(hk:v.l=[]∧v.f=[])(w:World)(c:Cv)(fV:v.formed=true)(hv:In w v c) :
 Calls prog 46 #[c.agg] w fun e w'=>e=.returned (.int .i64 (v.bytes.length:Nat))∧Grow w w':=by
 rcases tq fV with rfl | ⟨_,_,rfl⟩ | ⟨_,rfl⟩ | ⟨_,rfl⟩ | ⟨_,_,rfl⟩ | ⟨_,rfl⟩ | ⟨l',hl',rfl⟩ | ⟨f',hf',hnd,rfl⟩
 all_goals
  simp only[V.l,V.f] at hk
  obtain⟨hk1,hk2⟩:=hk
  try subst hk1
  try subst hk2
  obtain⟨aB,aL,aF,cB,cL,cF,rfl,h1,h2,h3,h4,h5,h6,h7,h8,h9,hb⟩:=hv.open
  clear hb hv fV
  go_enter func46,ntmps46
  go_wp2_with fail
  refine fZ ?_
  go_wp2_with fail
  refine fZ ?_
  go_wp2_with fail
  go_ret
  exact⟨ij (by rw[iP];simp[jJ]<;>omega),(ah w).alloc _⟩
theorem akD(v:V):∀(w:World) (c:Cv),v.formed=true→v.bytes.length≤4611686018427387904→In w v c →
 Calls prog 46 #[c.agg] w fun e w'=>e=.returned (.int .i64 (v.bytes.length:Nat))∧Grow w w':=by
 induction v using V.ind with
 | h k n b l f hl hf =>
  intro w c fV rR hv;rcases tq fV with h | ⟨_,_,h⟩ | ⟨_,h⟩ | ⟨_,h⟩ | ⟨_,_,h⟩ | ⟨_,h⟩ | ⟨l',hl',h⟩ | ⟨f',hf',hnd,h⟩
  case inr.inr.inr.inr.inr.inr.inl =>
   cases h
   rw[Dx] at rR ⊢;simp only[aU] at rR ⊢;have bA:∀x∈l,x.bytes.length≤4611686018427387904:=fun x hx=>aV (Vw V.bytes l x hx) (by omega)
   have C5:=aa bA;have HV:=aa hv;obtain⟨aB,aL,aF,cB,cL,cF,rfl,h1,h2,h3,h4,h5,h6,h7,h8,h9,hb⟩:=hv.open;have Hl:=aa hl;have T8:=aa hl';clear hb h1 h2 h3 hl hf h4 h5 hv hl' fV bA;go_enter func46,ntmps46;go_wp2_with fail;go_loopg [3,36] (l.length+1) (fun gk m i wr=>∃j:Nat,j≤l.length∧gk+j=l.length+1∧i=.int .i64 j∧m=.int .i64 ((((l.take j).map V.bytes).flatten.length+2:Nat):Int) ∧
    Grow w wr∧In wr (.mk 7 0 [] l []) ⟨7,0,aB,0,cB,aL,l.length,cL,aF,0,cF⟩∧Blk wr w.heap.size 27 (Cv.cells ⟨7,0,aB,0,cB,aL,l.length,cL,aF,0,cF⟩))
   exact⟨0,by omega,by omega,rfl,by simp,(ah w).alloc _,oc HV.o ((ah w).alloc _),az _ _ _⟩;obtain⟨j,hj,hg,rfl,rfl,hw,hv,hB⟩:=hrel;obtain⟨gk',rfl⟩:=bz gk (by omega);by_cases hlt:j<l.length
   ·obtain⟨bk,o,x,ha,hbk,e0,e1,e2,e3,e4,hx⟩:=hv.fh j hlt;dsimp only at ha;subst ha;have HW:=aa hw;have HX:=aa hx;have qf:=aa hv;have HB:=aa hB;have hm:=dJ List.length (ze V.bytes l j hlt);rw[bp] at hm;have hle:=zf V.bytes l (j+1);rw[hm] at hle;have HM:=aa hm;obtain⟨S,hS⟩:∃S,S=((l.take j).map V.bytes).flatten.length:=⟨_,rfl⟩;rw[← hS] at hle ⊢;have HS:=aa hS;clear hw hx hv hB hm hS;go_wp2_with fail;refine(Hl.o _ (aS hlt) _ x (T8.o _ (aS hlt)) (C5.o _ (aS hlt)) (HX.o.grow ((ah wr).alloc _))).mono ?_;rintro e w' ⟨rfl,hb'⟩;have hgr:Hid (Grow wr w'):=((ah wr).alloc _).trans hb';clear hb' e0 e1 e2 e3 e4;go_wp2_with fail;go_roundg gk'
    exact⟨j+1,by omega,by omega,by go_num,by rw[HM.o,← HS.o];go_num,HW.o.trans hgr.o,qf.o.grow hgr.o,HB.o.grow hgr.o⟩;omega
   obtain rfl:j=l.length:=by omega
   have hc:=hB.cell;have HW:=aa hw;rw[fT];clear hw hv hB hlt hg;go_wp2_with fail;refine fZ ?_;go_wp2_with fail;go_ret;exact⟨ij (by omega),HW.o⟩
  case inr.inr.inr.inr.inr.inr.inr =>
   cases h
   rw[Bk] at rR ⊢;simp only[aU] at rR ⊢;have bA:∀x∈f,(V.item x.1 x.2.bytes).length≤4611686018427387904:=fun x hx=>aV (Vw (fun x:ByteArray×V=>V.item x.1 x.2.bytes) f x hx) (by omega)
   have C5:=aa bA;have HV:=aa hv;obtain⟨aB,aL,aF,cB,cL,cF,rfl,h1,h2,h3,h4,h5,h6,h7,h8,h9,hb⟩:=hv.open;have Hf:=aa hf;have T9:=aa hf';clear hb h1 h2 h3 hl hf h4 h5 hv hf' fV bA;go_enter func46,ntmps46;go_wp2_with fail;refine fZ ?_;go_wp2_with fail;go_loopg [3,48] (f.length+1) (fun gk m i wr=>∃j:Nat,j≤f.length∧gk+j=f.length+1∧i=.int .i64 j∧m=.int .i64 ((((f.take j).map fun x=>V.item x.1 x.2.bytes).flatten.length+2:Nat):Int) ∧
    Grow w wr∧In wr (.mk 8 0 [] [] f) ⟨8,0,aB,0,cB,aL,0,cL,aF,f.length,cF⟩)
   exact⟨0,by omega,by omega,rfl,by simp,(ah w).alloc _,oc HV.o ((ah w).alloc _)⟩;obtain⟨j,hj,hg,rfl,rfl,hw,hv⟩:=hrel;obtain⟨gk',rfl⟩:=bz gk (by omega);by_cases hlt:j<f.length
   ·obtain⟨bk,o,x,ha,hbk,es,ik,e0,e1,e2,e3,e4,hx⟩:=hv.gX j hlt;dsimp only at ha;subst ha;have HW:=aa hw;have HX:=aa hx;have qf:=aa hv;have hm:=dJ List.length (ze (fun x:ByteArray×V=>V.item x.1 x.2.bytes) f j hlt);rw[bp,Dy] at hm;have hle:=zf (fun x:ByteArray×V=>V.item x.1 x.2.bytes) f (j+1);rw[hm] at hle;have HM:=aa hm;have hit:=C5.o _ (aS hlt);rw[Dy] at hit;obtain⟨S,hS⟩:∃S,S=((f.take j).map fun x:ByteArray×V=>V.item x.1 x.2.bytes).flatten.length:=⟨_,rfl⟩;rw[← hS] at hle ⊢;have HS:=aa hS;clear hw hx hv hm hS;go_wp2_with fail
    go_region_with (go_at_call 46;refine(Hf.o _ (aS hlt) _ x (T9.o _ (aS hlt)).2 (by omega) (HX.o.grow (((ah wr).alloc _).drew))).mono ?_;rintro e w' ⟨rfl,hb'⟩;have hcq:=(Blk.grow (Blk.drew (az wr _ _)) hb').cell)
    all_goals
     have hgr:Hid (Grow wr w'):=(((ah wr).alloc _).drew).trans hb'
     clear hb' hcq
     go_wp2_with fail
     go_roundg gk'
     exact⟨j+1,by omega,by omega,by go_num,by rw[HM.o,← HS.o];go_num,HW.o.trans hgr.o,qf.o.grow hgr.o⟩
     omega
   obtain rfl:j=f.length:=by omega
   have HW:=aa hw;rw[fT];clear hw hv hlt hg;go_wp2_with fail;go_ret;exact⟨ij (by omega),HW.o⟩
  all_goals
   cases h
   exact akC _ ⟨rfl,rfl⟩ w c fV hv
end
section
open Go.RowKit
theorem Gf(n:Nat):(((UInt8.ofNat n).toNat:Nat):Int)=(n:Int) % 256:=by rw[Dc];simp
theorem acZ(s:ByteArray):Src prog 1 9 (.string s) s.data.toList.length (b_ s.data.toList) w:=Src.ofString w pz s
end
end Go.Proofs.YtndjopkdbdcmdaaGreatDoor
namespace Go.Proofs
open Go.Shelf
def akE:Go.Shelf.Ren:=⟨fun | 146=>47 | 221=>90 | 268=>133 | 138=>134 | 143=>135 | 195=>176 | 197=>177 | 218=>178 | 219=>179 | 260=>199 | 217=>200 | 225=>201 | 224=>202 | 267=>203 | 266=>212 | 314=>213 | n=>n,fun | 9=>9 | 31=>103 | 3=>3 | 4=>4 | 0=>0 | 105=>212 | 21=>21 | 5=>5 | 46=>180 | 119=>176 | 139=>179 | 138=>178 | 146=>232 | 51=>231 | n=>n,fun | 1=>2 | 3=>0 | 4=>1 | n=>n⟩
theorem PB:Go.Proofs.LaysM.n146 prog akE:={
 mixed:=by kernel_rfl
 f138:=func134.trans (congrArg some (by kernel_rfl))
 f143:=func135.trans (congrArg some (by kernel_rfl))
 f146:=func47.trans (congrArg some (by kernel_rfl))
 f195:=func176.trans (congrArg some (by kernel_rfl))
 f197:=func177.trans (congrArg some (by kernel_rfl))
 f217:=func200.trans (congrArg some (by kernel_rfl))
 f218:=func178.trans (congrArg some (by kernel_rfl))
 f219:=func179.trans (congrArg some (by kernel_rfl))
 f221:=func90.trans (congrArg some (by kernel_rfl))
 f224:=func202.trans (congrArg some (by kernel_rfl))
 f225:=func201.trans (congrArg some (by kernel_rfl))
 f260:=func199.trans (congrArg some (by kernel_rfl))
 f266:=func212.trans (congrArg some (by kernel_rfl))
 f267:=func203.trans (congrArg some (by kernel_rfl))
 f268:=func133.trans (congrArg some (by kernel_rfl))
 f314:=func213.trans (congrArg some (by kernel_rfl))
 t0:=underlying0
 a0:=isAgg0
 z0:=sizeOf0
 v0:=zeroValue0
 t3:=underlying3
 a3:=isAgg3
 z3:=sizeOf3
 v3:=zeroValue3
 t4:=underlying4
 a4:=isAgg4
 z4:=sizeOf4
 v4:=zeroValue4
 t5:=underlying5
 a5:=isAgg5
 z5:=sizeOf5
 v5:=zeroValue5
 t9:=underlying9
 a9:=isAgg9
 z9:=sizeOf9
 v9:=zeroValue9
 t21:=underlying21
 a21:=isAgg21
 z21:=sizeOf21
 v21:=zeroValue21
 t31:=underlying103
 a31:=isAgg103
 z31:=sizeOf103
 v31:=zeroValue103
 t46:=underlying180
 a46:=isAgg180
 z46:=sizeOf180
 v46:=zeroValue180
 t51:=underlying231
 a51:=isAgg231
 z51:=sizeOf231
 v51:=zeroValue231
 t105:=underlying212
 a105:=isAgg212
 z105:=sizeOf212
 v105:=zeroValue212
 t119:=underlying176
 a119:=isAgg176
 z119:=sizeOf176
 t138:=underlying178
 a138:=isAgg178
 z138:=sizeOf178
 v138:=zeroValue178
 t139:=underlying179
 a139:=isAgg179
 z139:=sizeOf179
 v139:=zeroValue179
 t146:=underlying232
 a146:=isAgg232
 z146:=sizeOf232
 v146:=zeroValue232
 g1:=by kernel_rfl
 g3:=by kernel_rfl
 g4:=by kernel_rfl
 i0:=by kernel_rfl
 i3:=by kernel_rfl
 i4:=by kernel_rfl
 i5:=by kernel_rfl
 i9:=by kernel_rfl
 i21:=by kernel_rfl
 i31:=by kernel_rfl
 i46:=by kernel_rfl
 i51:=by kernel_rfl
 i105:=by kernel_rfl
 i138:=by kernel_rfl
 i139:=by kernel_rfl
 i146:=by kernel_rfl
 m1:=by kernel_rfl
 s1_3:=fun w h=>Go.Proofs.cell_of_shapedOpen_int (zero:=#[.int .i64 0]) (t:=3) h (of_decide_eq_true (by kernel_rfl)) (by kernel_rfl) rfl (by kernel_rfl) (by kernel_rfl) underlying3
 m3:=by kernel_rfl
 m4:=by kernel_rfl }
end Go.Proofs
namespace Go.Proofs.YtndjopkdbdcmdaaGreatDoor
variable {P:Program}{W w w0:World}{i j:Nat}
section
open Go.Sort
variable {α:Type} [Inhabited α]
def Pm(d d':Array α):Prop:=PermIn 0 d.size d d'
theorem Pm.refl(d:Array α):Pm d d:=permIn_refl _ _ _
theorem Pm.size{d d':Array α}(h:Pm d d'):d'.size=d.size:=h.1
theorem Pm.trans{a b c:Array α}(h:Pm a b)(k:Pm b c):Pm a c:=permIn_trans _ _ _ _ _ h (by have:=h.size;unfold Pm at k;rwa [this] at k)
theorem Pm.swp{d d':Array α}(h:Pm d d')(hi:i<d.size)(hj:j<d.size):Pm d (swp d' i j):=
 h.trans (swp_permIn _ _ _ _ _ (aR _) (by rw[h.size];exact hi) (aR _) (by rw[h.size];exact hj) (au _))
theorem Pm.of{d d':Array α}{a b:Nat}(h:PermIn a b d d')(hb:b≤d.size):Pm d d':=permIn_mono _ _ _ _ _ _ (aR _) hb (au _) h
end
section
open Go.Shelf Go.RowKit Go.Lib Go.Sort
variable {α:Type} [Inhabited α]
theorem akF(Z:Nat)(hz:∀w,(Go.sizeOf 115).run prog w=.ok Z w)(enc:α→List Value)(gc:Nat)(cb:Array Value)(blk off cap x y n:Nat)(d0 d:Array α)(w0 w:World)
 (R:RowK enc Z w0 blk off d0) (hs:d0.size=d.size) (S:SWK enc Z w0 blk off d w) (hxy:x+n≤y) (hy:y+n≤d.size) (hsz:d.size<4611686018427387904) :
 Calls prog 218 #[.slice (some ⟨blk,off,none⟩) d.size cap,.int .i64 x,.int .i64 y,.int .i64 n,.func (.func gc) #[] cb] w fun e w'=>e=.returned (.tuple #[])∧∃d',Pm d d'∧SWK enc Z w0 blk off d' w':=by
 have mixed:prog.follows Departure.mixedOrders=true:=by kernel_rfl
 have S0:Aside (SWK enc Z w0 blk off d w):=S;clear S;go_enter func218,ntmps218;go_wp2;go_loopg [10] n (fun kx cI wr=>∃(k:Nat) (dk:Array α),cI=.int .i64 k∧k+kx=n∧Aside (SWK enc Z w0 blk off dk wr)∧Hid (Pm d dk));exact⟨0,d,rfl,by omega,S0,Pm.refl d⟩;clear S0;obtain⟨k,dk,rfl,hkx,S1,HR⟩:=hrel;by_cases hlt:k<n
 ·have vV:(k:Int)<(n:Int):=by omega
  have hds:dk.size=d.size:=HR.out.size;obtain⟨q1,hq1⟩:∃q1,q1=x+k:=⟨_,rfl⟩;obtain⟨q2,hq2⟩:∃q2,q2=y+k:=⟨_,rfl⟩;have e1:(x:Int)+(k:Int)=(q1:Int):=by omega
  have e2:(y:Int)+(k:Int)=(q2:Int):=by omega
  have an4:((q1:Int)).toNat=q1:=by omega
  have an5:(0:Int)≤(q1:Int):=by omega
  have an6:(q1:Int)<(d.size:Int):=by omega
  have an7:IntKind.i64.wrap ((q1:Int))=(q1:Int):=by rw[df];omega
  have an8:((q2:Int)).toNat=q2:=by omega
  have an9:(0:Int)≤(q2:Int):=by omega
  have an_:(q2:Int)<(d.size:Int):=by omega
  have aoa:IntKind.i64.wrap ((q2:Int))=(q2:Int):=by rw[df];omega
  have S2:Aside (SWK enc Z w0 blk off (swp dk q1 q2) ((wr.drew.setCells blk (off+q1*Z) (enc dk[q2]!)).setCells blk (off+q2*Z) (enc dk[q1]!))):=S1.out.swapped R q1 q2 (by omega) (by omega);have Az:=S1.out.ld1 R (by omega) prog q1 (by omega);have AA:=S1.out.ld1 R (by omega) prog q2 (by omega);have AE:=S1.out.st1 R (by omega) prog q1 (by omega) dk[q2]!;have vW:=S1.out.st2 R (by omega) prog q1 q2 (by omega) (by omega) dk[q2]! dk[q1]!;have Jo:(enc dk[q1]!).length=Z:=R.hk _;have Jp:(enc dk[q2]!).length=Z:=R.hk _;have gS:Hid (dk.size=d.size):=hds;clear hq1 hq2 hds;generalize enc dk[q1]! = Jq at S2 Az vW Jo;generalize enc dk[q2]! = Jr at S2 AA AE vW Jp;clear S1;go_wp2_with fail;go_big_region_o;clear Az AA AE vW
  generalize (wr.drew.setCells blk (off+q1*Z) Jr).setCells blk (off+q2*Z) Jq=w2 at S2 ⊢;go_wp2;go_roundg (n-(k+1));exact⟨k+1,swp dk q1 q2,by simp,by omega,S2,HR.out.swp (by omega) (by omega)⟩;omega
 have vV:¬ (k:Int)<(n:Int):=by omega
 obtain rfl:k=n:=by omega
 go_wp2;go_end0;exact⟨rfl,dk,HR.out,S1.out⟩
end
section
open Go.Shelf Go.RowKit Go.Lib Go.Sort
variable {α:Type} [Inhabited α]
theorem akG(Z:Nat)(hz:∀w,(Go.sizeOf 115).run prog w=.ok Z w)(enc:α→List Value)(gc:Nat)(cb:Array Value)(blk off cap a m b:Nat)(d0 d:Array α)(w0 w:World)
 (R:RowK enc Z w0 blk off d0) (hs:d0.size=d.size) (S:SWK enc Z w0 blk off d w) (Fv:a<m) (hmb:m<b) (hb:b≤d.size) (hsz:d.size<4611686018427387904) :
 Calls prog 208 #[.slice (some ⟨blk,off,none⟩) d.size cap,.int .i64 a,.int .i64 m,.int .i64 b,.func (.func gc) #[] cb] w fun e w'=>e=.returned (.tuple #[])∧∃d',Pm d d'∧SWK enc Z w0 blk off d' w':=by
 have HZ:=aa hz;have S0:Aside (SWK enc Z w0 blk off d w):=S;obtain⟨p1,hp1⟩:∃p1,p1=m-a:=⟨_,rfl⟩;obtain⟨p2,hp2⟩:∃p2,p2=b-m:=⟨_,rfl⟩;have f1:(m:Int)-(a:Int)=(p1:Int):=by omega
 have f2:(b:Int)-(m:Int)=(p2:Int):=by omega
 have g1:IntKind.i64.wrap (p1:Int)=(p1:Int):=by rw[df];omega
 have g2:IntKind.i64.wrap (p2:Int)=(p2:Int):=by rw[df];omega
 have HP:Hid (p1=m-a∧p2=b-m):=⟨hp1,hp2⟩;clear S hz hp1 hp2;go_enter func208,ntmps208;go_wp2_with fail;go_loopg [10,11] (p1+p2) (fun kx cI T_ wr=>∃(i j:Nat) (dk:Array α),cI=.int .i64 i∧T_=.int .i64 j∧i+j≤kx∧0<i∧0<j∧i≤m∧m+j≤d.size∧Aside (SWK enc Z w0 blk off dk wr)∧Hid (Pm d dk));exact⟨p1,p2,d,rfl,rfl,au _,by have:=HP.out;omega,by have:=HP.out;omega,by have:=HP.out;omega,by have:=HP.out;omega,S0,Pm.refl d⟩;clear S0 f1 f2 g1 g2;obtain⟨i,j,dk,rfl,rfl,hkx,hi0,KH,him,hjm,S1,HR⟩:=hrel;obtain⟨q1,hq1⟩:∃q1,q1=m-i:=⟨_,rfl⟩;have e1:(m:Int)-(i:Int)=(q1:Int):=by omega
 have r1:IntKind.i64.wrap (q1:Int)=(q1:Int):=by rw[df];omega
 have hds:dk.size=d.size:=HR.out.size;have Ua:=aa hq1;have gS:=aa hds;have DG:∀(xx yy nn:Nat),xx+nn≤yy→yy+nn≤d.size→Calls prog 218 #[.slice (some ⟨blk,off,none⟩) d.size cap,.int .i64 xx,.int .i64 yy,.int .i64 nn,.func (.func gc) #[] cb] wr fun e w'=>e=.returned (.tuple #[])∧∃d',Pm dk d'∧SWK enc Z w0 blk off d' w':=fun xx yy nn h1 h2=>by
  have h:=akF Z HZ.out enc gc cb blk off cap xx yy nn d0 dk w0 wr R (by rw[gS.out];exact hs) S1.out h1 (by rw[gS.out];exact h2) (by rw[gS.out];exact hsz);rw[gS.out] at h;exact h
 have rI:=aa DG;clear hq1 hds S1 DG;by_cases hij:i=j
 ·subst hij;have hne:((i:Int)==(i:Int))=true:=by simp
  go_wp2_with fail;refine(rI.out q1 m i (by have:=Ua.out;omega) (by omega)).mono ?_;rintro e w2 ⟨rfl,dn,hsw,S2⟩;have fS:=aa hsw;have fB:=aa S2;clear hsw S2;go_wp2_with fail;go_end0;exact⟨rfl,dn,HR.out.trans fS.out,fB.out⟩
 have hne:¬ ((i:Int)=(j:Int)):=by omega
 by_cases hlt:j<i
 ·have vV:(j:Int)<(i:Int):=by omega
  obtain⟨q2,hq2⟩:∃q2,q2=i-j:=⟨_,rfl⟩;have e2:(i:Int)-(j:Int)=(q2:Int):=by omega
  have r2:IntKind.i64.wrap (q2:Int)=(q2:Int):=by rw[df];omega
  have C6:=aa hq2;clear hq2;go_wp2_with fail;refine(rI.out q1 m j (by have:=Ua.out;omega) (by omega)).mono ?_;rintro e w2 ⟨rfl,dn,hsw,S2⟩;have fS:=aa hsw;have fB:Aside (SWK enc Z w0 blk off dn w2):=S2;clear hsw S2;go_wp2_with fail;go_roundg (q2+j);exact⟨q2,j,dn,rfl,rfl,au _,by have:=C6.out;omega,KH,by have:=C6.out;omega,hjm,fB,HR.out.trans fS.out⟩;have:=C6.out;omega
 have vV:¬ (j:Int)<(i:Int):=by omega
 obtain⟨q2,hq2⟩:∃q2,q2=j-i:=⟨_,rfl⟩;obtain⟨q3,hq3⟩:∃q3,q3=m+j:=⟨_,rfl⟩;obtain⟨q4,hq4⟩:∃q4,q4=m+j-i:=⟨_,rfl⟩;have e2:(j:Int)-(i:Int)=(q2:Int):=by omega
 have r2:IntKind.i64.wrap (q2:Int)=(q2:Int):=by rw[df];omega
 have e3:(m:Int)+(j:Int)=(q3:Int):=by omega
 have r3:IntKind.i64.wrap (q3:Int)=(q3:Int):=by rw[df];omega
 have e4:(q3:Int)-(i:Int)=(q4:Int):=by omega
 have r4:IntKind.i64.wrap (q4:Int)=(q4:Int):=by rw[df];omega
 have C6:=aa hq2;have HQ4:=aa hq4;clear hq2 hq3 hq4;go_wp2_with fail;refine(rI.out q1 q4 i (by have:=Ua.out;have:=HQ4.out;omega) (by have:=HQ4.out;omega)).mono ?_;rintro e w2 ⟨rfl,dn,hsw,S2⟩;have fS:=aa hsw;have fB:Aside (SWK enc Z w0 blk off dn w2):=S2;clear hsw S2;go_wp2_with fail;go_roundg (i+q2);exact⟨i,q2,dn,rfl,rfl,au _,hi0,by have:=C6.out;omega,him,by have:=C6.out;omega,fB,HR.out.trans fS.out⟩;have:=C6.out;omega
end
section
open Go.Shelf Go.RowKit Go.Lib Go.Sort
variable {α:Type} [Inhabited α]
def vX(Z:Nat)(enc:α→List Value)(cf:α→α→Int)(gc:Nat)(cb:Array Value)(blk off cap:Nat)(w0:World)(a m b:Nat)(d:Array α)(w:World):Prop:=
 Calls prog 191 #[.slice (some ⟨blk,off,none⟩) d.size cap,.int .i64 a,.int .i64 m,.int .i64 b,.func (.func gc) #[] cb] w fun e w'=>e=.returned (.tuple #[])∧∃d',Pm d d'∧SWK enc Z w0 blk off d' w'
theorem akH(Z:Nat)(hz:∀w,(Go.sizeOf 115).run prog w=.ok Z w)(enc:α→List Value)(cf:α→α→Int)(gc:Nat)(cb:Array Value)(eg:∀args w,(callFunc gc args).run prog w=.ok (.enter gc args) w)(blk off cap:Nat)(d0:Array α)(w0:World)(R:RowK enc Z w0 blk off d0)(hC:CmpLays prog gc cb enc Z cf blk off d0.size w0)(hsz:d0.size<4611686018427387904)(a b:Nat)(d:Array α)(w:World)(hs:d.size=d0.size)(S:SWK enc Z w0 blk off d w)(hmb:a+1<b)(hb:b≤d.size):vX Z enc cf gc cb blk off cap w0 a (a+1) b d w:=by
 have HZ:=aa hz;have gI:=aa hs;have mixed:prog.follows Departure.mixedOrders=true:=by kernel_rfl
 have S0:Aside (SWK enc Z w0 blk off d w):=S;have Ub:d.size<4611686018427387904:=by omega
 have fU:((a:Int)+1)-(a:Int)=1:=by omega
 have hmw:IntKind.i64.wrap (1:Int)=1:=by rw[df];omega
 clear S hs;unfold vX;have Uc:((a+1:Nat):Int)-(a:Int)=1:=by omega
 obtain⟨m,hm⟩:∃m,m=a+1:=⟨_,rfl⟩;rw[← hm] at Uc hmb ⊢;have HM:=aa hm;have Fv:a<m:=by omega
 clear hm fU;go_enter func191,ntmps191;go_wp2_with fail;go_loopg [10,11,12] (b-m+1) (fun gk cI T_ s12 wr=>∃(i j:Nat),cI=.int .i64 i∧T_=.int .i64 j∧m≤i∧i≤j∧j≤b∧j-i≤gk∧Aside (SWK enc Z w0 blk off d wr));exact⟨m,b,rfl,rfl,au _,by omega,au _,by omega,S0⟩;clear S0;obtain⟨i,j,rfl,rfl,wR,hij,hjb,ji,S1⟩:=hrel;by_cases hlt:i<j
 ·obtain⟨gk',rfl⟩:=bz gk (by omega);obtain⟨h,hh⟩:∃h,(i+j) / 2=h:=⟨_,rfl⟩;have Ga:i≤h:=by omega
  have zn:h<j:=by omega
  have hhi:((i:Int)+(j:Int)) / 2=(h:Int):=by omega
  have abl:IntKind.i64.wrap ((i:Int)+(j:Int))=(i:Int)+(j:Int):=by rw[df];omega
  clear hh;have vV:(i:Int)<(j:Int):=by omega
  have ea1:((h:Nat):Int).toNat=h:=by omega
  have pa1:(0:Int)≤((h:Nat):Int):=by omega
  have ba1:((h:Nat):Int)<(d.size:Int):=by omega
  have ra1:IntKind.i64.wrap ((h:Nat):Int)=((h:Nat):Int):=by rw[df];omega
  have ea2:((a:Nat):Int).toNat=a:=by omega
  have pa2:(0:Int)≤((a:Nat):Int):=by omega
  have ba2:((a:Nat):Int)<(d.size:Int):=by omega
  have ra2:IntKind.i64.wrap ((a:Nat):Int)=((a:Nat):Int):=by rw[df];omega
  have lA:=S1.out.ld R (by have:=gI.out;omega) prog h (by have:=gI.out;omega);have lB:=S1.out.ld R (by have:=gI.out;omega) prog a (by have:=gI.out;omega);have kg:=fun n os=>S1.out.cmp hC (by have:=gI.out;omega) d[h]! d[a]! n os
  have SG:=aa (fun n os=>S1.out.grown n os);have nA:(enc d[h]!).length=Z:=R.hk _;have nB:(enc d[a]!).length=Z:=R.hk _;generalize cf d[h]! d[a]! = z at kg;generalize enc d[h]! = cA at lA kg nA;generalize enc d[a]! = cB at lB kg nB;clear S1;by_cases hlv:z<0
  ·have hlb:decide (z<0)=true:=cj hlv;go_wp2_with fail;go_quiet_grown (first | (go_at_fn gc;refine Calls.grown_of (kg _ _)));have fB:Aside (SWK enc Z w0 blk off d (grow (wr.drewN nq) osq)):=SG.out nq osq;generalize grow (wr.drewN nq) osq=w2 at fB ⊢;clear lA lB kg SG;go_wp2_with fail;go_roundg gk';exact⟨h+1,j,by go_num,rfl,by omega,by omega,hjb,by omega,fB⟩;omega
  have hlb:decide (z<0)=false:=cm hlv;go_wp2_with fail;go_quiet_grown (first | (go_at_fn gc;refine Calls.grown_of (kg _ _)));have fB:Aside (SWK enc Z w0 blk off d (grow (wr.drewN nq) osq)):=SG.out nq osq;generalize grow (wr.drewN nq) osq=w2 at fB ⊢;clear lA lB kg SG;go_wp2_with fail;go_roundg gk';exact⟨i,h,rfl,rfl,wR,by omega,by omega,by omega,fB⟩;omega
 obtain rfl:i=j:=by omega
 have vV:¬ (i:Int)<(i:Int):=by omega
 obtain⟨i1,hi1⟩:∃i1,i1=i-1:=⟨_,rfl⟩;have e1:(i:Int)-1=(i1:Int):=by omega
 have r1:IntKind.i64.wrap (i1:Int)=(i1:Int):=by rw[df];omega
 have D6:=aa hi1;have akI:a≤i1:=by omega
 have aob:i1<b:=by omega
 clear hi1;go_wp2_with fail;go_loopg [13] (i1-a+1) (fun gk s13 wr=>∃(k:Nat) (dk:Array α),s13=.int .i64 k∧a≤k∧k≤i1∧i1-k≤gk∧Aside (SWK enc Z w0 blk off dk wr)∧Hid (Pm d dk));exact⟨a,d,rfl,au _,akI,by omega,S1,Pm.refl d⟩;clear S1;obtain⟨k,dk,rfl,hak,hki,OY,S1,HR⟩:=hrel;have gS:=aa (HR.out.size);by_cases dO:k<i1
 ·have Ud:(k:Int)<(i1:Int):=by omega
  obtain⟨q,hq⟩:∃q,q=k+1:=⟨_,rfl⟩;have Ue:(k:Int)+1=(q:Int):=by omega
  have HQ:=aa hq;have hqd:q<d.size:=by omega
  clear hq;have ea3:((k:Nat):Int).toNat=k:=by omega
  have pa3:(0:Int)≤((k:Nat):Int):=by omega
  have ba3:((k:Nat):Int)<(d.size:Int):=by omega
  have ra3:IntKind.i64.wrap ((k:Nat):Int)=((k:Nat):Int):=by rw[df];omega
  have ea4:((q:Nat):Int).toNat=q:=by omega
  have pa4:(0:Int)≤((q:Nat):Int):=by omega
  have ba4:((q:Nat):Int)<(d.size:Int):=by omega
  have ra4:IntKind.i64.wrap ((q:Nat):Int)=((q:Nat):Int):=by rw[df];omega
  have S2:Aside (SWK enc Z w0 blk off (swp dk k q) ((wr.drew.setCells blk (off+k*Z) (enc dk[q]!)).setCells blk (off+q*Z) (enc dk[k]!))):=S1.out.swapped R k q (by have:=gS.out;omega) (by have:=gS.out;omega);have Az:=S1.out.ld1 R (by have:=gS.out;have:=gI.out;omega) prog k (by have:=gS.out;omega);have AA:=S1.out.ld1 R (by have:=gS.out;have:=gI.out;omega) prog q (by have:=gS.out;omega);have AE:=S1.out.st1 R (by have:=gS.out;have:=gI.out;omega) prog k (by have:=gS.out;omega) dk[q]!;have vW:=S1.out.st2 R (by have:=gS.out;have:=gI.out;omega) prog k q (by have:=gS.out;omega) (by have:=gS.out;omega) dk[q]! dk[k]!;have Jo:(enc dk[k]!).length=Z:=R.hk _;have Jp:(enc dk[q]!).length=Z:=R.hk _;generalize enc dk[k]! = Jq at S2 Az vW Jo
  generalize enc dk[q]! = Jr at S2 AA AE vW Jp;clear S1;go_wp2_with fail;go_big_region_o;clear Az AA AE vW;generalize (wr.drew.setCells blk (off+k*Z) Jr).setCells blk (off+q*Z) Jq=w2 at S2 ⊢;go_wp2;go_roundg (i1-q);exact⟨q,swp dk k q,by go_num,by have:=HQ.out;omega,by have:=HQ.out;omega,au _,S2,HR.out.swp (by have:=HQ.out;omega) (by have:=HQ.out;omega)⟩;have:=HQ.out;omega
 have Ud:¬ (k:Int)<(i1:Int):=by omega
 obtain rfl:k=i1:=by omega
 go_wp2_with fail;(try simp only[Exit.inBlock,Exit.then]);refine gV (results_none rfl _ _ _) rfl ?_;exact⟨rfl,dk,HR.out,S1.out⟩
theorem akJ(Z:Nat)(hz:∀w,(Go.sizeOf 115).run prog w=.ok Z w)(enc:α→List Value)(cf:α→α→Int)(gc:Nat)(cb:Array Value)(eg:∀args w,(callFunc gc args).run prog w=.ok (.enter gc args) w)(blk off cap:Nat)(d0:Array α)(w0:World)(R:RowK enc Z w0 blk off d0)(hC:CmpLays prog gc cb enc Z cf blk off d0.size w0)(hsz:d0.size<4611686018427387904)(a m:Nat)(d:Array α)(w:World)(hs:d.size=d0.size)(S:SWK enc Z w0 blk off d w)(Fv:a+1<m)(hb:m+1≤d.size):vX Z enc cf gc cb blk off cap w0 a m (m+1) d w:=by
 have HZ:=aa hz;have gI:=aa hs;have mixed:prog.follows Departure.mixedOrders=true:=by kernel_rfl
 have S0:Aside (SWK enc Z w0 blk off d w):=S;have Ub:d.size<4611686018427387904:=by omega
 have Uc:((m:Int)-(a:Int)==1)=false:=by rw[pd];omega
 have akK:IntKind.i64.wrap ((m:Int)-(a:Int))=(m:Int)-(a:Int):=by rw[df];omega
 have hmw:IntKind.i64.wrap (1:Int)=1:=by rw[df];omega
 clear S hs;unfold vX;have xk:((m+1:Nat):Int)-(m:Int)=1:=by omega
 obtain⟨b,rq⟩:∃b,b=m+1:=⟨_,rfl⟩;rw[← rq] at xk hb ⊢;have sA:=aa rq;have hmb:m<b:=by omega
 clear rq;go_enter func191,ntmps191;go_wp2_with fail;go_loopg [14,15,16] (m-a+1) (fun gk s14 s15 s16 wr=>∃(i j:Nat),s14=.int .i64 i∧s15=.int .i64 j∧a≤i∧i≤j∧j≤m∧j-i≤gk∧Aside (SWK enc Z w0 blk off d wr));exact⟨a,m,rfl,rfl,au _,by omega,au _,by omega,S0⟩;clear S0;obtain⟨i,j,rfl,rfl,wR,hij,hjb,ji,S1⟩:=hrel;by_cases hlt:i<j
 ·obtain⟨gk',rfl⟩:=bz gk (by omega);obtain⟨h,hh⟩:∃h,(i+j) / 2=h:=⟨_,rfl⟩;have Ga:i≤h:=by omega
  have zn:h<j:=by omega
  have hhi:((i:Int)+(j:Int)) / 2=(h:Int):=by omega
  have abl:IntKind.i64.wrap ((i:Int)+(j:Int))=(i:Int)+(j:Int):=by rw[df];omega
  clear hh;have vV:(i:Int)<(j:Int):=by omega
  have ea1:((m:Nat):Int).toNat=m:=by omega
  have pa1:(0:Int)≤((m:Nat):Int):=by omega
  have ba1:((m:Nat):Int)<(d.size:Int):=by omega
  have ra1:IntKind.i64.wrap ((m:Nat):Int)=((m:Nat):Int):=by rw[df];omega
  have ea2:((h:Nat):Int).toNat=h:=by omega
  have pa2:(0:Int)≤((h:Nat):Int):=by omega
  have ba2:((h:Nat):Int)<(d.size:Int):=by omega
  have ra2:IntKind.i64.wrap ((h:Nat):Int)=((h:Nat):Int):=by rw[df];omega
  have lA:=S1.out.ld R (by have:=gI.out;omega) prog m (by have:=gI.out;omega);have lB:=S1.out.ld R (by have:=gI.out;omega) prog h (by have:=gI.out;omega);have kg:=fun n os=>S1.out.cmp hC (by have:=gI.out;omega) d[m]! d[h]! n os
  have SG:=aa (fun n os=>S1.out.grown n os);have nA:(enc d[m]!).length=Z:=R.hk _;have nB:(enc d[h]!).length=Z:=R.hk _;generalize cf d[m]! d[h]! = z at kg;generalize enc d[m]! = cA at lA kg nA;generalize enc d[h]! = cB at lB kg nB;clear S1;by_cases hlv:z<0
  ·have hlb:decide (z<0)=true:=cj hlv;go_wp2_with fail;go_quiet_grown (first | (go_at_fn gc;refine Calls.grown_of (kg _ _)));have fB:Aside (SWK enc Z w0 blk off d (grow (wr.drewN nq) osq)):=SG.out nq osq;generalize grow (wr.drewN nq) osq=w2 at fB ⊢;clear lA lB kg SG;go_wp2_with fail;go_roundg gk';exact⟨i,h,rfl,rfl,wR,by omega,by omega,by omega,fB⟩;omega
  have hlb:decide (z<0)=false:=cm hlv;go_wp2_with fail;go_quiet_grown (first | (go_at_fn gc;refine Calls.grown_of (kg _ _)));have fB:Aside (SWK enc Z w0 blk off d (grow (wr.drewN nq) osq)):=SG.out nq osq;generalize grow (wr.drewN nq) osq=w2 at fB ⊢;clear lA lB kg SG;go_wp2_with fail;go_roundg gk';exact⟨h+1,j,by go_num,rfl,by omega,by omega,hjb,by omega,fB⟩;omega
 obtain rfl:i=j:=by omega
 have vV:¬ (i:Int)<(i:Int):=by omega
 go_wp2_with fail;go_loopg [17] (m-i+1) (fun gk s17 wr=>∃(k:Nat) (dk:Array α),s17=.int .i64 k∧i≤k∧k≤m∧k-i≤gk∧Aside (SWK enc Z w0 blk off dk wr)∧Hid (Pm d dk));exact⟨m,d,rfl,hjb,au _,by omega,S1,Pm.refl d⟩;clear S1;obtain⟨k,dk,rfl,hak,hki,OY,S1,HR⟩:=hrel;have gS:=aa (HR.out.size);by_cases dO:i<k
 ·have Ud:(i:Int)<(k:Int):=by omega
  obtain⟨q,hq⟩:∃q,q=k-1:=⟨_,rfl⟩;have Ue:(k:Int)-1=(q:Int):=by omega
  have HQ:=aa hq;have hqd:q<d.size:=by omega
  have R4:k<d.size:=by omega
  clear hq;have ea3:((k:Nat):Int).toNat=k:=by omega
  have pa3:(0:Int)≤((k:Nat):Int):=by omega
  have ba3:((k:Nat):Int)<(d.size:Int):=by omega
  have ra3:IntKind.i64.wrap ((k:Nat):Int)=((k:Nat):Int):=by rw[df];omega
  have ea4:((q:Nat):Int).toNat=q:=by omega
  have pa4:(0:Int)≤((q:Nat):Int):=by omega
  have ba4:((q:Nat):Int)<(d.size:Int):=by omega
  have ra4:IntKind.i64.wrap ((q:Nat):Int)=((q:Nat):Int):=by rw[df];omega
  have S2:Aside (SWK enc Z w0 blk off (swp dk k q) ((wr.drew.setCells blk (off+k*Z) (enc dk[q]!)).setCells blk (off+q*Z) (enc dk[k]!))):=S1.out.swapped R k q (by have:=gS.out;omega) (by have:=gS.out;omega);have Az:=S1.out.ld1 R (by have:=gS.out;have:=gI.out;omega) prog k (by have:=gS.out;omega);have AA:=S1.out.ld1 R (by have:=gS.out;have:=gI.out;omega) prog q (by have:=gS.out;omega);have AE:=S1.out.st1 R (by have:=gS.out;have:=gI.out;omega) prog k (by have:=gS.out;omega) dk[q]!;have vW:=S1.out.st2 R (by have:=gS.out;have:=gI.out;omega) prog k q (by have:=gS.out;omega) (by have:=gS.out;omega) dk[q]! dk[k]!;have Jo:(enc dk[k]!).length=Z:=R.hk _;have Jp:(enc dk[q]!).length=Z:=R.hk _;generalize enc dk[k]! = Jq at S2 Az vW Jo
  generalize enc dk[q]! = Jr at S2 AA AE vW Jp;clear S1;go_wp2_with fail;go_big_region_o;clear Az AA AE vW;generalize (wr.drew.setCells blk (off+k*Z) Jr).setCells blk (off+q*Z) Jq=w2 at S2 ⊢;go_wp2;go_roundg (q-i);exact⟨q,swp dk k q,by go_num,by have:=HQ.out;omega,by have:=HQ.out;omega,au _,S2,HR.out.swp (by have:=HQ.out;omega) (by have:=HQ.out;omega)⟩;have:=HQ.out;omega
 have Ud:¬ (i:Int)<(k:Int):=by omega
 obtain rfl:i=k:=by omega
 go_wp2_with fail;(try simp only[Exit.inBlock,Exit.then]);refine gV (results_none rfl _ _ _) rfl ?_;exact⟨rfl,dk,HR.out,S1.out⟩
end
section
open Go.Shelf Go.RowKit Go.Lib Go.Sort
variable {α:Type} [Inhabited α] {lt:α→α→Bool}
theorem akL(Z:Nat)(hz:∀w,(Go.sizeOf 115).run prog w=.ok Z w)(enc:α→List Value)(cf:α→α→Int)(gc:Nat)(cb:Array Value)(eg:∀args w,(callFunc gc args).run prog w=.ok (.enter gc args) w)(blk off cap:Nat)(d0:Array α)(w0:World)(R:RowK enc Z w0 blk off d0)(hC:CmpLays prog gc cb enc Z cf blk off d0.size w0)(hsz:d0.size<4611686018427387904)(a m b:Nat)(d:Array α)(w:World)(abm:Hid (∀(a' m' b':Nat) (d':Array α) (w':World),b'-a'<b-a→a'<m'→m'<b'→b'≤d'.size→d'.size=d0.size→SWK enc Z w0 blk off d' w'→vX Z enc cf gc cb blk off cap w0 a' m' b' d' w'))(hs:d.size=d0.size)(S:SWK enc Z w0 blk off d w)(Fv:a+1<m)(hmb:m+1<b)(hb:b≤d.size):vX Z enc cf gc cb blk off cap w0 a m b d w:=by
 have HZ:=aa hz;have gI:=aa hs;have mixed:prog.follows Departure.mixedOrders=true:=by kernel_rfl
 have S0:Aside (SWK enc Z w0 blk off d w):=S;have HB:=aa hb;have Ub:d.size<4611686018427387904:=by omega
 have Uc:((m:Int)-(a:Int)==1)=false:=by rw[pd];omega
 have akK:IntKind.i64.wrap ((m:Int)-(a:Int))=(m:Int)-(a:Int):=by rw[df];omega
 have xk:((b:Int)-(m:Int)==1)=false:=by rw[pd];omega
 have aoc:IntKind.i64.wrap ((b:Int)-(m:Int))=(b:Int)-(m:Int):=by rw[df];omega
 have aod:IntKind.i64.wrap ((a:Int)+(b:Int))=(a:Int)+(b:Int):=by rw[df];omega
 obtain⟨mid,hmid⟩:∃mid,mid=(a+b) / 2:=⟨_,rfl⟩;obtain⟨n,hN⟩:∃n,n=mid+m:=⟨_,rfl⟩;have aoe:((a:Int)+(b:Int)) / 2=(mid:Int):=by omega
 have en:(mid:Int)+(m:Int)=(n:Int):=by omega
 have rn:IntKind.i64.wrap (n:Int)=(n:Int):=by rw[df];omega
 obtain⟨p,hp⟩:∃p,p=n-1:=⟨_,rfl⟩;have ep:(n:Int)-1=(p:Int):=by omega
 have rp:IntKind.i64.wrap (p:Int)=(p:Int):=by rw[df];omega
 have vE:=aa (show p+1=n∧n=mid+m∧a+1<mid∧mid+1<b+1∧mid<b∧p<4611686018427387904+4611686018427387904 by omega);clear S hs hp;unfold vX;have oM:=aa (And.intro hN hmid);clear hN hmid;go_enter func191,ntmps191;go_upto_if 140 with fail;go_cut [20,21] from 129 to 146 (fun Uf Ug wx=>w=wx∧∃s0 r0:Nat,Uf=.int .i64 s0∧Ug=.int .i64 r0∧s0≤r0∧Hid (∀s,s0≤s→s≤r0→a≤s∧s≤m∧s≤mid∧m+s≤n∧n≤s+b))
 case first =>
  obtain⟨hN,hmid⟩:=oM.out;by_cases aof:mid<m
  ·have hbr:(mid:Int)<(m:Int):=by omega
   obtain⟨s0,hs0⟩:∃s0,s0=n-b:=⟨_,rfl⟩;have kq:(n:Int)-(b:Int)=(s0:Int):=by omega
   have rs0:IntKind.i64.wrap (s0:Int)=(s0:Int):=by rw[df];omega
   have h3:Hid (s0≤mid∧(∀s,s0≤s→s≤mid→a≤s∧s≤m∧s≤mid∧m+s≤n∧n≤s+b)):=aa ⟨by omega,fun s h1 h2=>by omega⟩;clear hs0 hN hmid;go_wp2_with fail;go_meet;exact⟨rfl,s0,mid,rfl,rfl,h3.out.1,h3.out.2⟩
  have hbr:¬ (mid:Int)<(m:Int):=by omega
  have h3:Hid (a≤m∧(∀s,a≤s→s≤m→a≤s∧s≤m∧s≤mid∧m+s≤n∧n≤s+b)):=aa ⟨by omega,fun s h1 h2=>by omega⟩;clear hN hmid;go_wp2_with fail;go_meet;exact⟨rfl,a,m,rfl,rfl,h3.out.1,h3.out.2⟩
 obtain⟨rfl,s0,r0,rfl,rfl,hsr,Uh⟩:=hcut;go_wp2_with fail;go_loopg [20,21,23] (r0-s0+1) (fun gk Uf Ug s23 wr=>∃(i j:Nat),Uf=.int .i64 i∧Ug=.int .i64 j∧s0≤i∧i≤j∧j≤r0∧j-i≤gk∧Aside (SWK enc Z w0 blk off d wr));exact⟨s0,r0,rfl,rfl,au _,hsr,au _,by omega,S0⟩;clear S0;obtain⟨i,j,rfl,rfl,wR,hij,hjb,ji,S1⟩:=hrel;by_cases hlt:i<j
 ·have hL:=Uh.out i wR (by omega);have hL2:=Uh.out j (by omega) hjb;have M8:=vE.out;obtain⟨gk',rfl⟩:=bz gk (by omega);obtain⟨h,hh⟩:∃h,(i+j) / 2=h:=⟨_,rfl⟩;have Ga:i≤h:=by omega
  have zn:h<j:=by omega
  have hhi:((i:Int)+(j:Int)) / 2=(h:Int):=by omega
  have abl:IntKind.i64.wrap ((i:Int)+(j:Int))=(i:Int)+(j:Int):=by rw[df];omega
  clear hh;have vV:(i:Int)<(j:Int):=by omega
  obtain⟨q,hq⟩:∃q,q=p-h:=⟨_,rfl⟩;have Ue:(p:Int)-(h:Int)=(q:Int):=by omega
  have HQ:=aa hq;have hqd:q<d.size∧h<d.size:=by omega
  clear hq hL hL2 M8;have ea1:((q:Nat):Int).toNat=q:=by omega
  have pa1:(0:Int)≤((q:Nat):Int):=by omega
  have ba1:((q:Nat):Int)<(d.size:Int):=by omega
  have ra1:IntKind.i64.wrap ((q:Nat):Int)=((q:Nat):Int):=by rw[df];omega
  have ea2:((h:Nat):Int).toNat=h:=by omega
  have pa2:(0:Int)≤((h:Nat):Int):=by omega
  have ba2:((h:Nat):Int)<(d.size:Int):=by omega
  have ra2:IntKind.i64.wrap ((h:Nat):Int)=((h:Nat):Int):=by rw[df];omega
  have lA:=S1.out.ld R (by have:=gI.out;omega) prog q (by have:=gI.out;omega);have lB:=S1.out.ld R (by have:=gI.out;omega) prog h (by have:=gI.out;omega);have kg:=fun n os=>S1.out.cmp hC (by have:=gI.out;omega) d[q]! d[h]! n os
  have SG:=aa (fun n os=>S1.out.grown n os);have nA:(enc d[q]!).length=Z:=R.hk _;have nB:(enc d[h]!).length=Z:=R.hk _;generalize cf d[q]! d[h]! = z at kg;generalize enc d[q]! = cA at lA kg nA;generalize enc d[h]! = cB at lB kg nB;clear S1;by_cases hlv:z<0
  ·have hlb:decide (z<0)=true:=cj hlv;go_wp2_with fail;go_quiet_grown (first | (go_at_fn gc;refine Calls.grown_of (kg _ _)));have fB:Aside (SWK enc Z w0 blk off d (grow (wr.drewN nq) osq)):=SG.out nq osq;generalize grow (wr.drewN nq) osq=w2 at fB ⊢;clear lA lB kg SG;go_wp2_with fail;go_roundg gk';exact⟨i,h,rfl,rfl,wR,by omega,by omega,by omega,fB⟩;omega
  have hlb:decide (z<0)=false:=cm hlv;go_wp2_with fail;go_quiet_grown (first | (go_at_fn gc;refine Calls.grown_of (kg _ _)));have fB:Aside (SWK enc Z w0 blk off d (grow (wr.drewN nq) osq)):=SG.out nq osq;generalize grow (wr.drewN nq) osq=w2 at fB ⊢;clear lA lB kg SG;go_wp2_with fail;go_roundg gk';exact⟨h+1,j,by go_num,rfl,by omega,by omega,hjb,by omega,fB⟩;omega
 obtain rfl:i=j:=by omega
 have vV:¬ (i:Int)<(i:Int):=by omega
 obtain⟨tS,hL2,hL3,hL4,hL5⟩:=Uh.out i wR hjb;obtain⟨e,he⟩:∃e,e=n-i:=⟨_,rfl⟩;have ee:(n:Int)-(i:Int)=(e:Int):=by omega
 have re:IntKind.i64.wrap (e:Int)=(e:Int):=by rw[df];omega
 have mZ:=aa he;have hme:m≤e:=by omega
 have heb:e≤b:=by omega
 have hes:e+i=n:=by omega
 have TR:mid+m=i+e:=by have:=vE.out;omega
 have aog:a≤mid:=by have:=vE.out;omega
 have aoh:mid≤b:=by have:=vE.out;omega
 have aoi:b-mid<b-a∧mid-a<b-a:=by have:=vE.out;omega
 clear he;generalize hsi:i=s at *;have hz0:=hz;obtain⟨c1,hc1⟩:∃c:Bool,c=decide (s<m∧m<e):=⟨_,rfl⟩;have Js:=aa hc1;clear hc1;go_upto_region 39 with fail;go_cut [185] from 178 to 185 (fun c wx=>c=.bool c1∧wr=wx)
 case first =>
  by_cases h1:s<m
  ·have i1:(s:Int)<(m:Int):=by omega
   by_cases h2:m<e
   ·have i2:(m:Int)<(e:Int):=by omega
    go_wp2_with fail;go_meet;exact⟨dJ Value.bool (by rw[Js.out];exact(cj ⟨h1,h2⟩).symm),rfl⟩
   have i2:¬ (m:Int)<(e:Int):=by omega
   go_wp2_with fail;go_meet;exact⟨dJ Value.bool (by rw[Js.out];exact(cm (fun h=>h2 h.2)).symm),rfl⟩
  have i1:¬ (s:Int)<(m:Int):=by omega
  go_wp2_with fail;go_meet;exact⟨dJ Value.bool (by rw[Js.out];exact(cm (fun h=>h1 h.1)).symm),rfl⟩
 obtain⟨rfl,rfl⟩:=hcut;go_upto_if 185 with fail;go_cut [] from 178 to 191 (fun wx=>∃dk:Array α,Hid (Pm d dk)∧Aside (SWK enc Z w0 blk off dk wx))
 case first =>
  by_cases hz:s<m∧m<e
  ·obtain rfl:c1=true:=by rw[Js.out];exact cj hz
   have abn:=akG Z hz0 enc gc cb blk off cap s m e d0 d w0 wr R gI.out.symm S1.out hz.1 hz.2 (by omega) Ub;have akM:=aa abn;clear abn S1;go_wp2_with fail;refine akM.out.mono ?_;rintro e7 w2 ⟨rfl,dk,hrt,S2⟩;have Jt:=aa hrt;clear hrt;go_wp2_with fail;go_meet;exact⟨dk,Jt,S2⟩
  obtain rfl:c1=false:=by rw[Js.out];exact cm hz
  go_wp2_with fail;go_meet;exact⟨d,Pm.refl d,S1⟩
 obtain⟨dk,Jt,S2⟩:=hcut;generalize wc=w2 at S2 ⊢;clear S1;have Fl:=aa Jt.out.size;obtain⟨c2,hc2⟩:∃c:Bool,c=decide (a<s∧s<mid):=⟨_,rfl⟩;have Ju:=aa hc2;clear hc2;go_upto_region 41 with fail;go_cut [199] from 192 to 199 (fun c wx=>c=.bool c2∧w2=wx)
 case first =>
  by_cases h1:a<s
  ·have i1:(a:Int)<(s:Int):=by omega
   by_cases h2:s<mid
   ·have i2:(s:Int)<(mid:Int):=by omega
    go_wp2_with fail;go_meet;exact⟨dJ Value.bool (by rw[Ju.out];exact(cj ⟨h1,h2⟩).symm),rfl⟩
   have i2:¬ (s:Int)<(mid:Int):=by omega
   go_wp2_with fail;go_meet;exact⟨dJ Value.bool (by rw[Ju.out];exact(cm (fun h=>h2 h.2)).symm),rfl⟩
  have i1:¬ (a:Int)<(s:Int):=by omega
  go_wp2_with fail;go_meet;exact⟨dJ Value.bool (by rw[Ju.out];exact(cm (fun h=>h1 h.1)).symm),rfl⟩
 obtain⟨rfl,rfl⟩:=hcut;go_upto_if 199 with fail;go_cut [] from 192 to 205 (fun wx=>∃d2:Array α,Hid (Pm d d2)∧Aside (SWK enc Z w0 blk off d2 wx))
 case first =>
  by_cases hz:a<s∧s<mid
  ·obtain rfl:c2=true:=by rw[Ju.out];exact cj hz
   have hrec:=abm.out a s mid dk w2 (by omega) (by omega) (by omega) (by have:=Fl.out;omega) (by have:=Fl.out;have:=gI.out;omega) S2.out;unfold vX at hrec;rw[Fl.out] at hrec;have akN:=aa hrec;clear hrec S2;go_wp2_with fail;refine akN.out.mono ?_;rintro e8 w3 ⟨rfl,d2,hp2,S3⟩;have zi:=aa (Jt.out.trans hp2);clear hp2;go_wp2_with fail;go_meet;exact⟨d2,zi,S3⟩
  obtain rfl:c2=false:=by rw[Ju.out];exact cm hz
  go_wp2_with fail;go_meet;exact⟨dk,Jt,S2⟩
 obtain⟨d2,zi,S3⟩:=hcut;generalize wc=w3 at S3 ⊢;clear S2;have D_:=aa zi.out.size;obtain⟨c3,hc3⟩:∃c:Bool,c=decide (mid<e∧e<b):=⟨_,rfl⟩;have Jv:=aa hc3;clear hc3;go_upto_region 43 with fail;go_cut [213] from 206 to 213 (fun c wx=>c=.bool c3∧w3=wx)
 case first =>
  by_cases h1:mid<e
  ·have i1:(mid:Int)<(e:Int):=by omega
   by_cases h2:e<b
   ·have i2:(e:Int)<(b:Int):=by omega
    go_wp2_with fail;go_meet;exact⟨dJ Value.bool (by rw[Jv.out];exact(cj ⟨h1,h2⟩).symm),rfl⟩
   have i2:¬ (e:Int)<(b:Int):=by omega
   go_wp2_with fail;go_meet;exact⟨dJ Value.bool (by rw[Jv.out];exact(cm (fun h=>h2 h.2)).symm),rfl⟩
  have i1:¬ (mid:Int)<(e:Int):=by omega
  go_wp2_with fail;go_meet;exact⟨dJ Value.bool (by rw[Jv.out];exact(cm (fun h=>h1 h.1)).symm),rfl⟩
 obtain⟨rfl,rfl⟩:=hcut;by_cases hz:mid<e∧e<b
 ·obtain rfl:c3=true:=by rw[Jv.out];exact cj hz
  have hrec:=abm.out mid e b d2 w3 (by omega) (by omega) (by omega) (by have:=D_.out;omega) (by have:=D_.out;have:=gI.out;omega) S3.out;unfold vX at hrec;rw[D_.out] at hrec;have akO:=aa hrec;clear hrec S3;go_wp2_with fail;refine akO.out.mono ?_;rintro e9 w4 ⟨rfl,d3,Eu,S4⟩;have HF:=aa (zi.out.trans Eu);have sI:=aa S4;clear Eu S4;go_wp2_with fail;go_end0;exact⟨rfl,d3,HF.out,sI.out⟩
 obtain rfl:c3=false:=by rw[Jv.out];exact cm hz
 go_wp2_with fail;go_end0;exact⟨rfl,d2,zi.out,S3.out⟩
theorem abo(Z:Nat)(hz:∀w,(Go.sizeOf 115).run prog w=.ok Z w)(enc:α→List Value)(cf:α→α→Int)(gc:Nat)(cb:Array Value)(eg:∀args w,(callFunc gc args).run prog w=.ok (.enter gc args) w)(blk off cap:Nat)(d0:Array α)(w0:World)(R:RowK enc Z w0 blk off d0)(hC:CmpLays prog gc cb enc Z cf blk off d0.size w0)(hsz:d0.size<4611686018427387904):∀(N a m b:Nat) (d:Array α) (w:World),b-a≤N→a<m→m<b→b≤d.size→d.size=d0.size→SWK enc Z w0 blk off d w→vX Z enc cf gc cb blk off cap w0 a m b d w
 | 0,a,m,b,d,w,hN,h1,h2,hb,hs,S=>by omega
 | N+1,a,m,b,d,w,hN,h1,h2,hb,hs,S=>by
  by_cases hm:m=a+1
  ·subst hm;exact akH Z hz enc cf gc cb eg blk off cap d0 w0 R hC hsz a b d w hs S h2 hb
  by_cases xk:b=m+1
  ·subst xk;exact akJ Z hz enc cf gc cb eg blk off cap d0 w0 R hC hsz a m d w hs S (by omega) hb
  exact akL Z hz enc cf gc cb eg blk off cap d0 w0 R hC hsz a m b d w (fun a' m' b' d' w' k1 k2 k3 k4 k5 k6=>abo Z hz enc cf gc cb eg blk off cap d0 w0 R hC hsz N a' m' b' d' w' (by omega) k2 k3 k4 k5 k6) hs S (by omega) (by omega) hb
end
end Go.Proofs.YtndjopkdbdcmdaaGreatDoor
namespace Go.Proofs
open Go.Shelf
def akP:Go.Shelf.Ren:=⟨fun | 20=>190 | n=>n,fun | 24=>115 | 22=>111 | 3=>3 | 25=>154 | 4=>4 | 0=>0 | n=>n,fun | n=>n⟩
theorem akQ:Go.Proofs.SlLaysF0.n20 prog akP:={
 mixed:=by kernel_rfl
 f20:=⟨f190.name,by decide,func190.trans (congrArg some (by kernel_rfl))⟩
 t0:=underlying0
 a0:=isAgg0
 z0:=sizeOf0
 v0:=zeroValue0
 t3:=underlying3
 a3:=isAgg3
 z3:=sizeOf3
 v3:=zeroValue3
 t4:=underlying4
 a4:=isAgg4
 z4:=sizeOf4
 v4:=zeroValue4
 t22:=underlying111
 a22:=isAgg111
 z22:=sizeOf111
 v22:=zeroValue111
 t25:=underlying154
 a25:=isAgg154
 z25:=sizeOf154
 v25:=zeroValue154 }
end Go.Proofs
namespace Go.Proofs.YtndjopkdbdcmdaaGreatDoor
variable {P:Program}{W w w0:World}{i j:Nat}
section
open Go.Shelf Go.RowKit Go.Lib Go.Sort
variable {α:Type} [Inhabited α] {lt:α→α→Bool}
theorem akR{gc:Nat}{cb:Array Value}{enc:α→List Value}{Z:Nat}{cf:α→α→Int}{blk off:Nat}{d:Array α}(h:SWK enc Z w0 blk off d W)(hblk:blk<w0.heap.size)(hC:CmpLays P gc cb enc Z cf blk off d.size w0):CmpLays P gc cb enc Z cf blk off d.size W:=fun m os dk sw x y=>by
 obtain⟨n,os',e⟩:=h.on hblk m dk os sw;rw[e];exact hC n os' dk sw x y
theorem akS(Z:Nat)(hz:∀w,(Go.sizeOf 115).run prog w=.ok Z w)(enc:α→List Value)(cf:α→α→Int)(hS:SWO (ltOf cf))(gc:Nat)(cb:Array Value)(eg:∀args w,(callFunc gc args).run prog w=.ok (.enter gc args) w)(blk off cap:Nat)(d0:Array α)(w0:World)(R:RowK enc Z w0 blk off d0)(hC:CmpLays prog gc cb enc Z cf blk off d0.size w0)(hsz:d0.size<4611686018427387904)
 (a b:Nat) (d:Array α) (w:World) (hs:d.size=d0.size) (S:SWK enc Z w0 blk off d w) (hab:a≤b) (hb:b≤d.size) :
 Calls prog 190 #[.slice (some ⟨blk,off,none⟩) d.size cap,.int .i64 a,.int .i64 b,.func (.func gc) #[] cb] w fun e w'=>e=.returned (.tuple #[])∧∃d',Pm d d'∧SWK enc Z w0 blk off d' w':=by
 have h:=AnyQ.insertionSortCmpFunc (P:=prog) akQ Z isAgg115 hz enc R.hk R.h1 cf gc cb blk off cap a b d w eg (akR S R.hblk (by rw[hs];exact hC)) (S.holds R.hblk R.hH hs) (S.lt R.hblk) hab hb (by omega);refine h.mono ?_;rintro e w' ⟨he,n,os,rfl⟩;have hi:=insertionSort_holds hS d a b hab hb;exact⟨he,_,Pm.of hi.1 hb,S.on R.hblk n _ os hi.1.1⟩
theorem akT(Z:Nat)(hz:∀w,(Go.sizeOf 115).run prog w=.ok Z w)(enc:α→List Value)(cf:α→α→Int)(hS:SWO (ltOf cf))(gc:Nat)(cb:Array Value)(eg:∀args w,(callFunc gc args).run prog w=.ok (.enter gc args) w)(blk off cap:Nat)(d:Array α)(w:World)(R:RowK enc Z w blk off d)(hC:CmpLays prog gc cb enc Z cf blk off d.size w)(hsz:d.size<1152921504606846976) :
 Calls prog 157 #[.slice (some ⟨blk,off,none⟩) d.size cap,.int .i64 d.size,.func (.func gc) #[] cb] w fun e w'=>e=.returned (.tuple #[])∧∃d',Pm d d'∧SWK enc Z w blk off d' w':=by
 have abp:∀(a b:Nat) (dk:Array α) (wr:World),dk.size=d.size→SWK enc Z w blk off dk wr→a≤b→b≤d.size→Calls prog 190 #[.slice (some ⟨blk,off,none⟩) d.size cap,.int .i64 a,.int .i64 b,.func (.func gc) #[] cb] wr fun e w'=>e=.returned (.tuple #[])∧∃d',Pm dk d'∧SWK enc Z w blk off d' w':=fun a b dk wr h1 h2 h3 h4=>by
  have h:=akS Z hz enc cf hS gc cb eg blk off cap d w R hC (by omega) a b dk wr h1 h2 h3 (by omega);rw[h1] at h;exact h
 have abq:∀(a m b:Nat) (dk:Array α) (wr:World),dk.size=d.size→SWK enc Z w blk off dk wr→a<m→m<b→b≤d.size→Calls prog 191 #[.slice (some ⟨blk,off,none⟩) d.size cap,.int .i64 a,.int .i64 m,.int .i64 b,.func (.func gc) #[] cb] wr fun e w'=>e=.returned (.tuple #[])∧∃d',Pm dk d'∧SWK enc Z w blk off d' w':=fun a m b dk wr h1 h2 h3 h4 h5=>by
  have h:=abo Z hz enc cf gc cb eg blk off cap d w R hC (by omega) (b-a) a m b dk wr (au _) h3 h4 (by omega) h1 h2;unfold vX at h;rw[h1] at h;exact h
 have Ui:=aa abp;have Uj:=aa abq;have S0:Aside (SWK enc Z w blk off d w):=SWK.start R.hH;obtain⟨n,hn⟩:∃n,n=d.size:=⟨_,rfl⟩;rw[← hn] at hsz Ui Uj ⊢;have HN:=aa hn;clear abp abq hC R hz eg hS hn;go_enter func157,ntmps157;go_wp2_with fail;go_loopg [7,8] (n+1) (fun gk s7 s8 wr=>∃(a b:Nat) (dk:Array α),s7=.int .i64 a∧s8=.int .i64 b∧b=a+20∧a≤n∧n-a≤gk∧Aside (SWK enc Z w blk off dk wr)∧Hid (Pm d dk));exact⟨0,20,d,rfl,rfl,rfl,aR _,by omega,S0,Pm.refl d⟩;clear S0;obtain⟨a,b,dk,rfl,rfl,hab,han,ji,S1,HB⟩:=hrel;have Uk:=aa hab;have aoj:a<b:=by omega
 clear hab;by_cases hle:b≤n
 ·have Ul:(b:Int)≤(n:Int):=by omega
  have aok:IntKind.i64.wrap ((b:Int)+20)=(b:Int)+20:=by rw[df];omega
  have mz:=aa (Ui.out a b dk wr (HB.out.size.trans HN.out.symm) S1.out (by omega) hle);clear S1;go_wp2_with fail;refine mz.out.mono ?_;rintro e w2 ⟨rfl,d2,hp,S2⟩;have HP:=aa (HB.out.trans hp);have fB:Aside (SWK enc Z w blk off d2 w2):=S2;clear hp S2 mz;go_wp2_with fail;go_roundg (n-b);exact⟨b,b+20,d2,rfl,by go_num,rfl,hle,au _,fB,HP.out⟩;have hab:=Uk.out;omega
 have Ul:¬ (b:Int)≤(n:Int):=by omega
 have mz:=aa (Ui.out a n dk wr (HB.out.size.trans HN.out.symm) S1.out han (au _));clear S1;go_wp2_with fail;refine mz.out.mono ?_;rintro e w2 ⟨rfl,d2,hp,S2⟩;have HP:=aa (HB.out.trans hp);have fB:Aside (SWK enc Z w blk off d2 w2):=S2;clear hp S2 mz;go_wp2_with fail;go_loopg [6] (n+1) (fun gk s6 wr=>∃(bs:Nat) (dk:Array α),s6=.int .i64 bs∧0<bs∧bs<2305843009213693952∧n-bs≤gk∧Aside (SWK enc Z w blk off dk wr)∧Hid (Pm d dk));exact⟨20,d2,rfl,by omega,by omega,by omega,fB,HP.out⟩;clear fB HP HB;obtain⟨bs,dk,rfl,hbs,hbb,OY,S1,HB⟩:=hrel;by_cases hlt:bs<n
 ·have vV:(bs:Int)<(n:Int):=by omega
  obtain⟨b2,hb2⟩:∃b2,b2=2*bs:=⟨_,rfl⟩;have eb2:2*(bs:Int)=(b2:Int):=by omega
  have eb3:(bs:Int)*2=(b2:Int):=by omega
  have rb2:IntKind.i64.wrap (b2:Int)=(b2:Int):=by rw[df];omega
  have abr:b2<2305843009213693952:=by omega
  have aol:bs<b2:=by omega
  clear hb2;go_wp2_with fail;go_loopg [7,8] (n+1) (fun gk s7 s8 wr=>∃(a b:Nat) (dk:Array α),s7=.int .i64 a∧s8=.int .i64 b∧b=a+b2∧a≤n∧n-a≤gk∧Aside (SWK enc Z w blk off dk wr)∧Hid (Pm d dk));exact⟨0,b2,dk,rfl,rfl,by omega,aR _,by omega,S1,HB⟩;clear S1 HB;obtain⟨a,b,dk,rfl,rfl,hab,han,aom,S1,HB⟩:=hrel;obtain⟨m,hm⟩:∃m,m=a+bs:=⟨_,rfl⟩;have em:(a:Int)+(bs:Int)=(m:Int):=by omega
  have rm:IntKind.i64.wrap (m:Int)=(m:Int):=by rw[df];omega
  have Fv:a<m:=by omega
  have hmb:m<b:=by omega
  have Uk:=aa hab;clear hm hab;by_cases hle:b≤n
  ·have Ul:(b:Int)≤(n:Int):=by omega
   obtain⟨c,hc⟩:∃c,c=b+b2:=⟨_,rfl⟩;have hcb:b≤c:=by omega
   have ec:(b:Int)+(b2:Int)=(c:Int):=by omega
   have rc:IntKind.i64.wrap (c:Int)=(c:Int):=by rw[df];omega
   have HC:=aa hc;clear hc;have mz:=aa (Uj.out a m b dk wr (HB.out.size.trans HN.out.symm) S1.out Fv hmb hle);clear S1;go_wp2_with fail;refine mz.out.mono ?_;rintro e w2 ⟨rfl,d3,hp,S2⟩;have HP:=aa (HB.out.trans hp);have rP:Aside (SWK enc Z w blk off d3 w2):=S2;clear hp S2 mz;go_wp2_with fail;go_roundg (n-b);exact⟨b,c,d3,rfl,rfl,HC.out,hle,au _,rP,HP.out⟩;have hab:=Uk.out;omega
  have Ul:¬ (b:Int)≤(n:Int):=by omega
  by_cases TR:m<n
  ·have akU:(m:Int)<(n:Int):=by omega
   have mz:=aa (Uj.out a m n dk wr (HB.out.size.trans HN.out.symm) S1.out Fv TR (au _));clear S1;go_wp2_with fail;refine mz.out.mono ?_;rintro e w2 ⟨rfl,d3,hp,S2⟩;have HP:=aa (HB.out.trans hp);have rP:Aside (SWK enc Z w blk off d3 w2):=S2;clear hp S2 mz;go_wp2_with fail;go_roundg (n-b2);exact⟨b2,d3,rfl,by omega,abr,au _,rP,HP.out⟩;omega
  have akU:¬ (m:Int)<(n:Int):=by omega
  go_wp2_with fail;go_roundg (n-b2);exact⟨b2,dk,rfl,by omega,abr,au _,S1,HB⟩;omega
 have vV:¬ (bs:Int)<(n:Int):=by omega
 go_wp2_with fail;go_end0;exact⟨rfl,dk,HB.out,S1.out⟩
theorem ae7(Z:Nat)(hz:∀w,(Go.sizeOf 115).run prog w=.ok Z w)(enc:α→List Value)(cf:α→α→Int)(hS:SWO (ltOf cf))(gc:Nat)(cb:Array Value)(eg:∀args w,(callFunc gc args).run prog w=.ok (.enter gc args) w)(blk off cap:Nat)(d:Array α)(w:World)(R:RowK enc Z w blk off d)(hC:CmpLays prog gc cb enc Z cf blk off d.size w)(hsz:d.size<1152921504606846976) :
 Calls prog 107 #[.slice (some ⟨blk,off,none⟩) d.size cap,.func (.func gc) #[] cb] w fun e w'=>e=.returned (.tuple #[])∧∃d',Pm d d'∧SWK enc Z w blk off d' w':=by
 have HST:=aa (akT Z hz enc cf hS gc cb eg blk off cap d w R hC hsz);clear hC R hz eg hS;go_enter func107,ntmps107;go_wp2_with fail;refine HST.out.mono ?_;rintro e w2 ⟨rfl,d2,hp,S2⟩;have HP:=aa (And.intro hp S2);clear hp S2;go_wp2_with fail;go_end0;exact⟨rfl,d2,HP.out.1,HP.out.2⟩
omit [Inhabited α] in
theorem akV(A:Option Addr)(cap:Nat)(fv:Value)(w:World):Calls prog 190 #[.slice A 0 cap,.int .i64 0,.int .i64 0,fv] w fun e w'=>e=.returned (.tuple #[])∧w'=w:=by
 go_enter func190,ntmps190;go_wp2_with fail;go_loopg [8] 1 (fun gk s8 wr=>s8=.int .i64 1∧w=wr);exact⟨rfl,rfl⟩;obtain⟨rfl,rfl⟩:=hrel;go_wp2_with fail;go_end0;exact⟨rfl,rfl⟩
omit [Inhabited α] in
theorem ae4(A:Option Addr)(cap:Nat)(fv:Value)(w:World):Calls prog 107 #[.slice A 0 cap,fv] w fun e w'=>e=.returned (.tuple #[])∧w'=w:=by
 have hst:Calls prog 157 #[.slice A 0 cap,.int .i64 0,fv] w fun e w'=>e=.returned (.tuple #[])∧w'=w:=by
  have HI:=aa (akV A cap fv w);go_enter func157,ntmps157;go_wp2_with fail;go_loopg [7,8] 1 (fun gk s7 s8 wr=>s7=.int .i64 0∧s8=.int .i64 20∧w=wr);exact⟨rfl,rfl,rfl⟩;obtain⟨rfl,rfl,rfl⟩:=hrel;go_wp2_with fail;refine HI.out.mono ?_;rintro e w' ⟨rfl,rfl⟩;go_wp2_with fail;go_loopg [6] 1 (fun gk s6 wr=>s6=.int .i64 20∧w'=wr);exact⟨rfl,rfl⟩;obtain⟨rfl,rfl⟩:=hrel;go_wp2_with fail;go_end0;exact⟨rfl,rfl⟩
 have HST:=aa hst;clear hst;go_enter func107,ntmps107;go_wp2_with fail;refine HST.out.mono ?_;rintro e w2 ⟨rfl,rfl⟩;go_wp2_with fail;go_end0;exact⟨rfl,rfl⟩
end
end Go.Proofs.YtndjopkdbdcmdaaGreatDoor
