/- Part 3 of the proof of pentries_card. -/
import Derived.Test.YtndjopkdbdcmdaaGreatDoorPel1
import Derived.Test.YtndjopkdbdcmdaaGreatDoorProg
import Derived.Ground.NamesProg
import Derived.WalkMore
import Derived.Shelf.Unicode.ValidAny
import Derived.Shelf.Strings.FuncGrows
import Derived.Deep.RegionWith
import Derived.Shelf.Strings.SplitShaped
import Derived.Shelf.SlSortCmp.KitK
import Derived.Ground.SlsfProg
set_option linter.unusedVariables false
set_option linter.unusedSimpArgs false
set_option maxRecDepth 100000
set_option maxHeartbeats 12800000
open Go.Proofs.Tryz
namespace Go.Proofs.YtndjopkdbdcmdaaGreatDoor
end Go.Proofs.YtndjopkdbdcmdaaGreatDoor
namespace Go.Proofs
open Go.Shelf
def ai3:Go.Shelf.Ren:=⟨fun | 196=>130 | 259=>174 | n=>n,fun | 9=>9 | 4=>4 | 3=>3 | 5=>5 | 12=>12 | 119=>176 | 0=>0 | 46=>180 | 139=>179 | 138=>178 | 53=>22 | n=>n,fun | 3=>0 | 4=>1 | n=>n⟩
theorem U3:Go.Proofs.Lays.n196 prog ai3:={
 mixed:=by kernel_rfl
 f196:=func130.trans (congrArg some (by kernel_rfl))
 f259:=func174.trans (congrArg some (by kernel_rfl))
 t0:=underlying0
 a0:=isAgg0
 z0:=sizeOf0
 v0:=zeroValue0
 t3:=underlying3
 a3:=isAgg3
 z3:=sizeOf3
 v3:=zeroValue3
 t4:=underlying4
 a4:=isAgg4
 z4:=sizeOf4
 v4:=zeroValue4
 t5:=underlying5
 a5:=isAgg5
 z5:=sizeOf5
 v5:=zeroValue5
 t9:=underlying9
 a9:=isAgg9
 z9:=sizeOf9
 v9:=zeroValue9
 t12:=underlying12
 a12:=isAgg12
 z12:=sizeOf12
 v12:=zeroValue12
 t46:=underlying180
 a46:=isAgg180
 z46:=sizeOf180
 v46:=zeroValue180
 t53:=underlying22
 a53:=isAgg22
 z53:=sizeOf22
 v53:=zeroValue22
 t119:=underlying176
 a119:=isAgg176
 z119:=sizeOf176
 t138:=underlying178
 a138:=isAgg178
 z138:=sizeOf178
 v138:=zeroValue178
 t139:=underlying179
 a139:=isAgg179
 z139:=sizeOf179
 v139:=zeroValue179
 g3:=by kernel_rfl
 g4:=by kernel_rfl }
def ai4:Go.Shelf.Ren:=⟨fun | 17=>131 | 15=>175 | 20=>198 | n=>n,fun | 9=>9 | 23=>182 | 4=>4 | 3=>3 | 0=>0 | 21=>21 | n=>n,fun | n=>n⟩
theorem ai5:Go.Proofs.LaysGw.n17 prog ai4:={
 mixed:=by kernel_rfl
 f15:=func175.trans (congrArg some (by kernel_rfl))
 f17:=func131.trans (congrArg some (by kernel_rfl))
 f20:=func198.trans (congrArg some (by kernel_rfl))
 t0:=underlying0
 a0:=isAgg0
 z0:=sizeOf0
 v0:=zeroValue0
 i0:=by kernel_rfl
 t3:=underlying3
 a3:=isAgg3
 z3:=sizeOf3
 v3:=zeroValue3
 i3:=by kernel_rfl
 t4:=underlying4
 a4:=isAgg4
 z4:=sizeOf4
 v4:=zeroValue4
 i4:=by kernel_rfl
 t9:=underlying9
 a9:=isAgg9
 z9:=sizeOf9
 v9:=zeroValue9
 i9:=by kernel_rfl
 t21:=underlying21
 a21:=isAgg21
 z21:=sizeOf21
 v21:=zeroValue21
 i21:=by kernel_rfl
 t23:=underlying182
 a23:=isAgg182
 z23:=sizeOf182
 v23:=zeroValue182
 i23:=by kernel_rfl }
end Go.Proofs
namespace Go.Proofs.YtndjopkdbdcmdaaGreatDoor
section
open Go.RowKit
theorem ai6(v:V):∀(w:World) (c:Cv),In w v c →
 Calls prog 44 #[c.agg] w fun e w'=>e=.returned (.int .i64 v.most)∧Grow w w':=by
 induction v using V.ind with
 | h k n b l f hl hf =>
  intro w c hv;have HV:=aa hv;obtain⟨aB,aL,aF,cB,cL,cF,rfl,h1,h2,h3,h4,h5,h6,h7,h8,h9,hb⟩:=hv.open;have Hl:=aa hl;have Hf:=aa hf;clear hb h1 h2 h3 hl hf h4 h5 hv;go_enter func44,ntmps44;go_wp2_with fail
  all_goals
   go_loopg [3,18] (l.length+1) (fun gk m i wr=>∃j:Nat,j≤l.length∧gk+j=l.length+1∧i=.int .i64 j∧m=.int .i64 ((((l.take j).map V.most).foldl max (max l.length f.length):Nat):Int) ∧
    Grow w wr∧In wr (.mk k n b l f) ⟨k,(n:Int),aB,b.length,cB,aL,l.length,cL,aF,f.length,cF⟩∧Blk wr w.heap.size 27 (Cv.cells ⟨k,(n:Int),aB,b.length,cB,aL,l.length,cL,aF,f.length,cF⟩))
   exact⟨0,by omega,by omega,rfl,by simp;omega,(ah w).alloc _,py HV.o ((ah w).alloc _),aH _ _ _⟩
   obtain⟨j,hj,hg,rfl,rfl,hw,hv,hB⟩:=hrel
   obtain⟨gk',rfl⟩:=bP gk (by omega)
   by_cases hlt:j<l.length
   ·obtain⟨bk,o,x,ha,hbk,e0,e1,e2,e3,e4,hx⟩:=hv.fJ j hlt
    dsimp only at ha
    subst ha
    have HW:=aa hw
    have HX:=aa hx
    have oU:=aa hv
    have HB:=aa hB
    have hm:=Cu V.most l (max l.length f.length) j hlt
    have HM:=aa hm
    clear hw hx hv hB hm
    go_wp2_with fail
    refine(Hl.o _ (aY hlt) _ x (HX.o.grow ((ah wr).alloc _))).mono ?_
    rintro e w' ⟨rfl,hb'⟩
    have hgr:Hid (Grow wr w'):=((ah wr).alloc _).trans hb'
    clear hb' e0 e1 e2 e3 e4
    go_wp2_with fail
    all_goals
     go_roundg gk'
     exact⟨j+1,by omega,by omega,by go_num,by rw[HM.o];go_num,HW.o.trans hgr.o,oU.o.grow hgr.o,HB.o.grow hgr.o⟩
     omega
   obtain rfl:j=l.length:=by omega
   have hc:=hB.cell
   have HW:=aa hw
   have oU:=aa hv
   clear hw hv hB hlt hg
   go_wp2_with fail
   go_loopg [3,30] (f.length+1) (fun gk m i wr=>∃j:Nat,j≤f.length∧gk+j=f.length+1∧i=.int .i64 j∧m=.int .i64 ((((f.take j).map fun x=>x.2.most).foldl max ((l.map V.most).foldl max (max l.length f.length)):Nat):Int) ∧
    Grow w wr∧In wr (.mk k n b l f) ⟨k,(n:Int),aB,b.length,cB,aL,l.length,cL,aF,f.length,cF⟩)
   exact⟨0,by omega,by omega,rfl,by simp,HW.o,oU.o⟩
   obtain⟨j,hj,hg,rfl,rfl,hw,hv⟩:=hrel
   obtain⟨gk',rfl⟩:=bP gk (by omega)
   by_cases hlt:j<f.length
   ·obtain⟨bk,o,x,ha,hbk,es,iA,e0,e1,e2,e3,e4,hx⟩:=hv.iR j hlt
    dsimp only at ha
    subst ha
    have HW:=aa hw
    have HX:=aa hx
    have oU:=aa hv
    have hm:=Cu (fun x:ByteArray×V=>x.2.most) f ((l.map V.most).foldl max (max l.length f.length)) j hlt
    have HM:=aa hm
    clear hw hx hv hm
    go_wp2_with fail
    refine(Hf.o _ (aY hlt) _ x (HX.o.grow ((ah wr).alloc _))).mono ?_
    rintro e w' ⟨rfl,hb'⟩
    have hgr:Hid (Grow wr w'):=((ah wr).alloc _).trans hb'
    clear hb' e0 e1 e2 e3 e4 es
    go_wp2_with fail
    all_goals
     go_roundg gk'
     exact⟨j+1,by omega,by omega,by go_num,by rw[HM.o];go_num,HW.o.trans hgr.o,oU.o.grow hgr.o⟩
     omega
   obtain rfl:j=f.length:=by omega
   have HW:=aa hw
   clear hw hv hlt hg
   go_wp2_with fail
   go_ret
   exact⟨dI (by rw[V.Ng,fC]),HW.o⟩
theorem ai7(v:V)(hk:v.k≠7∧v.k≠8)(w:World)(c:Cv)(hv:In w v c) :
 Calls prog 45 #[c.agg] w fun e w'=>e=.returned (.int .i64 0)∧Grow w w':=by
 obtain⟨k,n,b,l,f⟩:=v;obtain⟨aB,aL,aF,cB,cL,cF,rfl,h1,h2,h3,h4,h5,h6,h7,h8,h9,hb⟩:=hv.open;have e7:(k != 7)=true:=by simpa [V.k] using hk.1
 have e8:(k != 8)=true:=by simpa [V.k] using hk.2
 clear hb hv hk;go_enter func45,ntmps45;go_wp2_with fail;go_ret;exact⟨rfl,(ah w).alloc _⟩
theorem ai8(v:V):∀(w:World) (c:Cv),v.formed=true→v.depth≤1099511627776→In w v c →
 Calls prog 45 #[c.agg] w fun e w'=>e=.returned (.int .i64 v.depth)∧Grow w w':=by
 induction v using V.ind with
 | h k n b l f hl hf =>
  intro w c fh qc hv;rcases u_ fh with h | ⟨_,_,h⟩ | ⟨_,h⟩ | ⟨_,h⟩ | ⟨_,_,h⟩ | ⟨_,h⟩ | ⟨l',hl',h⟩ | ⟨f',hf',hnd,h⟩
  case inr.inr.inr.inr.inr.inr.inl =>
   cases h
   have dE:∀x∈l,x.depth≤1099511627776:=fun x hx=>a_ (V.Nh hx) qc
   rw[V.TY] at qc;have BQ:=aa dE;have HV:=aa hv;obtain⟨aB,aL,aF,cB,cL,cF,rfl,h1,h2,h3,h4,h5,h6,h7,h8,h9,hb⟩:=hv.open;have Hl:=aa hl;have Sa:=aa hl';clear hb h1 h2 h3 hl hf h4 h5 hv hl' fh dE;go_enter func45,ntmps45;go_wp2_with fail;go_loopg [3,19] (l.length+1) (fun gk m i wr=>∃j:Nat,j≤l.length∧gk+j=l.length+1∧i=.int .i64 j∧m=.int .i64 ((((l.take j).map V.depth).foldl max 0:Nat):Int) ∧
    Grow w wr∧In wr (.mk 7 0 [] l []) ⟨7,0,aB,0,cB,aL,l.length,cL,aF,0,cF⟩∧Blk wr w.heap.size 27 (Cv.cells ⟨7,0,aB,0,cB,aL,l.length,cL,aF,0,cF⟩))
   exact⟨0,by omega,by omega,rfl,by simp,(ah w).alloc _,py HV.o ((ah w).alloc _),aH _ _ _⟩;obtain⟨j,hj,hg,rfl,rfl,hw,hv,hB⟩:=hrel;obtain⟨gk',rfl⟩:=bP gk (by omega);by_cases hlt:j<l.length
   ·obtain⟨bk,o,x,ha,hbk,e0,e1,e2,e3,e4,hx⟩:=hv.fJ j hlt;dsimp only at ha;subst ha;have HW:=aa hw;have HX:=aa hx;have oU:=aa hv;have HB:=aa hB;have hm:=Cu V.depth l 0 j hlt;have HM:=aa hm;clear hw hx hv hB hm;go_wp2_with fail;refine(Hl.o _ (aY hlt) _ x (Sa.o _ (aY hlt)) (BQ.o _ (aY hlt)) (HX.o.grow ((ah wr).alloc _))).mono ?_;rintro e w' ⟨rfl,hb'⟩;have hgr:Hid (Grow wr w'):=((ah wr).alloc _).trans hb';clear hb' e0 e1 e2 e3 e4;go_wp2_with fail
    all_goals
     go_roundg gk'
     exact⟨j+1,by omega,by omega,by go_num,by rw[HM.o];go_num,HW.o.trans hgr.o,oU.o.grow hgr.o,HB.o.grow hgr.o⟩
     omega
   obtain rfl:j=l.length:=by omega
   have hc:=hB.cell;have HW:=aa hw;rw[fC];clear hw hv hB hlt hg;go_wp2_with fail;refine fQ ?_;go_wp2_with fail;go_ret;exact⟨dI (by rw[V.TY];omega),HW.o⟩
  case inr.inr.inr.inr.inr.inr.inr =>
   cases h
   have dE:∀x∈f,x.2.depth≤1099511627776:=fun x hx=>a_ (V.Ni hx) qc
   rw[V.Nj] at qc;have BQ:=aa dE;have HV:=aa hv;obtain⟨aB,aL,aF,cB,cL,cF,rfl,h1,h2,h3,h4,h5,h6,h7,h8,h9,hb⟩:=hv.open;have Hf:=aa hf;have Sc:=aa hf';clear hb h1 h2 h3 hl hf h4 h5 hv hf' fh dE;go_enter func45,ntmps45;go_wp2_with fail;refine fQ ?_;go_wp2_with fail;go_loopg [3,31] (f.length+1) (fun gk m i wr=>∃j:Nat,j≤f.length∧gk+j=f.length+1∧i=.int .i64 j∧m=.int .i64 ((((f.take j).map fun x=>x.2.depth).foldl max 0:Nat):Int) ∧
    Grow w wr∧In wr (.mk 8 0 [] [] f) ⟨8,0,aB,0,cB,aL,0,cL,aF,f.length,cF⟩)
   exact⟨0,by omega,by omega,rfl,by simp,(ah w).alloc _,py HV.o ((ah w).alloc _)⟩;obtain⟨j,hj,hg,rfl,rfl,hw,hv⟩:=hrel;obtain⟨gk',rfl⟩:=bP gk (by omega);by_cases hlt:j<f.length
   ·obtain⟨bk,o,x,ha,hbk,es,iA,e0,e1,e2,e3,e4,hx⟩:=hv.iR j hlt;dsimp only at ha;subst ha;have HW:=aa hw;have HX:=aa hx;have oU:=aa hv;have hm:=Cu (fun x:ByteArray×V=>x.2.depth) f 0 j hlt;have HM:=aa hm;clear hw hx hv hm;go_wp2_with fail;refine(Hf.o _ (aY hlt) _ x (Sc.o _ (aY hlt)).2 (BQ.o _ (aY hlt)) (HX.o.grow ((ah wr).alloc _))).mono ?_;rintro e w' ⟨rfl,hb'⟩;have hgr:Hid (Grow wr w'):=((ah wr).alloc _).trans hb';clear hb' e0 e1 e2 e3 e4 es;go_wp2_with fail
    all_goals
     go_roundg gk'
     exact⟨j+1,by omega,by omega,by go_num,by rw[HM.o];go_num,HW.o.trans hgr.o,oU.o.grow hgr.o⟩
     omega
   obtain rfl:j=f.length:=by omega
   have HW:=aa hw;rw[fC];clear hw hv hlt hg;go_wp2_with fail;go_ret;exact⟨dI (by rw[V.Nj];omega),HW.o⟩
  all_goals
   cases h
   refine(ai7 _ (by simp[V.k]) w c hv).mono ?_
   rintro e w' ⟨rfl,hg⟩
   exact⟨by simp[V.yu],hg⟩
end
section
open Go.RowKit
theorem ai9(v:V)(hk:v.l=[]∧v.f=[])(w:World)(c:Cv)(fh:v.formed=true)(hv:In w v c) :
 Calls prog 46 #[c.agg] w fun e w'=>e=.returned (.int .i64 (v.bytes.length:Nat))∧Grow w w':=by
 rcases u_ fh with rfl | ⟨_,_,rfl⟩ | ⟨_,rfl⟩ | ⟨_,rfl⟩ | ⟨_,_,rfl⟩ | ⟨_,rfl⟩ | ⟨l',hl',rfl⟩ | ⟨f',hf',hnd,rfl⟩
 all_goals
  simp only[V.l,V.f] at hk
  obtain⟨hk1,hk2⟩:=hk
  try subst hk1
  try subst hk2
  obtain⟨aB,aL,aF,cB,cL,cF,rfl,h1,h2,h3,h4,h5,h6,h7,h8,h9,hb⟩:=hv.open
  clear hb hv fh
  go_enter func46,ntmps46
  go_wp2_with fail
  refine fQ ?_
  go_wp2_with fail
  refine fQ ?_
  go_wp2_with fail
  go_ret
  exact⟨dI (by rw[iT];simp[jA]<;>omega),(ah w).alloc _⟩
theorem ai_(v:V):∀(w:World) (c:Cv),v.formed=true→v.bytes.length≤4611686018427387904→In w v c →
 Calls prog 46 #[c.agg] w fun e w'=>e=.returned (.int .i64 (v.bytes.length:Nat))∧Grow w w':=by
 induction v using V.ind with
 | h k n b l f hl hf =>
  intro w c fh qc hv;rcases u_ fh with h | ⟨_,_,h⟩ | ⟨_,h⟩ | ⟨_,h⟩ | ⟨_,_,h⟩ | ⟨_,h⟩ | ⟨l',hl',h⟩ | ⟨f',hf',hnd,h⟩
  case inr.inr.inr.inr.inr.inr.inl =>
   cases h
   rw[Cy] at qc ⊢;simp only[aU] at qc ⊢;have dE:∀x∈l,x.bytes.length≤4611686018427387904:=fun x hx=>a_ (TV V.bytes l x hx) (by omega)
   have BQ:=aa dE;have HV:=aa hv;obtain⟨aB,aL,aF,cB,cL,cF,rfl,h1,h2,h3,h4,h5,h6,h7,h8,h9,hb⟩:=hv.open;have Hl:=aa hl;have Sa:=aa hl';clear hb h1 h2 h3 hl hf h4 h5 hv hl' fh dE;go_enter func46,ntmps46;go_wp2_with fail;go_loopg [3,36] (l.length+1) (fun gk m i wr=>∃j:Nat,j≤l.length∧gk+j=l.length+1∧i=.int .i64 j∧m=.int .i64 ((((l.take j).map V.bytes).flatten.length+2:Nat):Int) ∧
    Grow w wr∧In wr (.mk 7 0 [] l []) ⟨7,0,aB,0,cB,aL,l.length,cL,aF,0,cF⟩∧Blk wr w.heap.size 27 (Cv.cells ⟨7,0,aB,0,cB,aL,l.length,cL,aF,0,cF⟩))
   exact⟨0,by omega,by omega,rfl,by simp,(ah w).alloc _,py HV.o ((ah w).alloc _),aH _ _ _⟩;obtain⟨j,hj,hg,rfl,rfl,hw,hv,hB⟩:=hrel;obtain⟨gk',rfl⟩:=bP gk (by omega);by_cases hlt:j<l.length
   ·obtain⟨bk,o,x,ha,hbk,e0,e1,e2,e3,e4,hx⟩:=hv.fJ j hlt;dsimp only at ha;subst ha;have HW:=aa hw;have HX:=aa hx;have oU:=aa hv;have HB:=aa hB;have hm:=cT List.length (yr V.bytes l j hlt);rw[bD] at hm;have hle:=yt V.bytes l (j+1);rw[hm] at hle;have HM:=aa hm;obtain⟨S,hS⟩:∃S,S=((l.take j).map V.bytes).flatten.length:=⟨_,rfl⟩;rw[← hS] at hle ⊢;have HS:=aa hS;clear hw hx hv hB hm hS;go_wp2_with fail;refine(Hl.o _ (aY hlt) _ x (Sa.o _ (aY hlt)) (BQ.o _ (aY hlt)) (HX.o.grow ((ah wr).alloc _))).mono ?_;rintro e w' ⟨rfl,hb'⟩;have hgr:Hid (Grow wr w'):=((ah wr).alloc _).trans hb';clear hb' e0 e1 e2 e3 e4;go_wp2_with fail;go_roundg gk'
    exact⟨j+1,by omega,by omega,by go_num,by rw[HM.o,← HS.o];go_num,HW.o.trans hgr.o,oU.o.grow hgr.o,HB.o.grow hgr.o⟩;omega
   obtain rfl:j=l.length:=by omega
   have hc:=hB.cell;have HW:=aa hw;rw[fC];clear hw hv hB hlt hg;go_wp2_with fail;refine fQ ?_;go_wp2_with fail;go_ret;exact⟨dI (by omega),HW.o⟩
  case inr.inr.inr.inr.inr.inr.inr =>
   cases h
   rw[zZ] at qc ⊢;simp only[aU] at qc ⊢;have dE:∀x∈f,(V.item x.1 x.2.bytes).length≤4611686018427387904:=fun x hx=>a_ (TV (fun x:ByteArray×V=>V.item x.1 x.2.bytes) f x hx) (by omega)
   have BQ:=aa dE;have HV:=aa hv;obtain⟨aB,aL,aF,cB,cL,cF,rfl,h1,h2,h3,h4,h5,h6,h7,h8,h9,hb⟩:=hv.open;have Hf:=aa hf;have Sc:=aa hf';clear hb h1 h2 h3 hl hf h4 h5 hv hf' fh dE;go_enter func46,ntmps46;go_wp2_with fail;refine fQ ?_;go_wp2_with fail;go_loopg [3,48] (f.length+1) (fun gk m i wr=>∃j:Nat,j≤f.length∧gk+j=f.length+1∧i=.int .i64 j∧m=.int .i64 ((((f.take j).map fun x=>V.item x.1 x.2.bytes).flatten.length+2:Nat):Int) ∧
    Grow w wr∧In wr (.mk 8 0 [] [] f) ⟨8,0,aB,0,cB,aL,0,cL,aF,f.length,cF⟩)
   exact⟨0,by omega,by omega,rfl,by simp,(ah w).alloc _,py HV.o ((ah w).alloc _)⟩;obtain⟨j,hj,hg,rfl,rfl,hw,hv⟩:=hrel;obtain⟨gk',rfl⟩:=bP gk (by omega);by_cases hlt:j<f.length
   ·obtain⟨bk,o,x,ha,hbk,es,iA,e0,e1,e2,e3,e4,hx⟩:=hv.iR j hlt;dsimp only at ha;subst ha;have HW:=aa hw;have HX:=aa hx;have oU:=aa hv;have hm:=cT List.length (yr (fun x:ByteArray×V=>V.item x.1 x.2.bytes) f j hlt);rw[bD,Cz] at hm;have hle:=yt (fun x:ByteArray×V=>V.item x.1 x.2.bytes) f (j+1);rw[hm] at hle;have HM:=aa hm;have hit:=BQ.o _ (aY hlt);rw[Cz] at hit;obtain⟨S,hS⟩:∃S,S=((f.take j).map fun x:ByteArray×V=>V.item x.1 x.2.bytes).flatten.length:=⟨_,rfl⟩;rw[← hS] at hle ⊢;have HS:=aa hS;clear hw hx hv hm hS;go_wp2_with fail
    go_region_with (go_at_call 46;refine(Hf.o _ (aY hlt) _ x (Sc.o _ (aY hlt)).2 (by omega) (HX.o.grow (((ah wr).alloc _).drew))).mono ?_;rintro e w' ⟨rfl,hb'⟩;have Z8:=(Blk.grow (Blk.drew (aH wr _ _)) hb').cell)
    all_goals
     have hgr:Hid (Grow wr w'):=(((ah wr).alloc _).drew).trans hb'
     clear hb' Z8
     go_wp2_with fail
     go_roundg gk'
     exact⟨j+1,by omega,by omega,by go_num,by rw[HM.o,← HS.o];go_num,HW.o.trans hgr.o,oU.o.grow hgr.o⟩
     omega
   obtain rfl:j=f.length:=by omega
   have HW:=aa hw;rw[fC];clear hw hv hlt hg;go_wp2_with fail;go_ret;exact⟨dI (by omega),HW.o⟩
  all_goals
   cases h
   exact ai9 _ ⟨rfl,rfl⟩ w c fh hv
end
section
open Go.RowKit
theorem Fi(n:Nat):(((UInt8.ofNat n).toNat:Nat):Int)=(n:Int) % 256:=by rw[yf];simp
theorem abD{w:World}(s:ByteArray):Src prog 1 9 (.string s) s.data.toList.length (bw s.data.toList) w:=Src.ofString w nZ s
end
end Go.Proofs.YtndjopkdbdcmdaaGreatDoor
namespace Go.Proofs
open Go.Shelf
def aja:Go.Shelf.Ren:=⟨fun | 146=>47 | 221=>90 | 268=>133 | 138=>134 | 143=>135 | 195=>176 | 197=>177 | 218=>178 | 219=>179 | 260=>199 | 217=>200 | 225=>201 | 224=>202 | 267=>203 | 266=>212 | 314=>213 | n=>n,fun | 9=>9 | 31=>103 | 3=>3 | 4=>4 | 0=>0 | 105=>212 | 21=>21 | 5=>5 | 46=>180 | 119=>176 | 139=>179 | 138=>178 | 146=>232 | 51=>231 | n=>n,fun | 1=>2 | 3=>0 | 4=>1 | n=>n⟩
theorem N7:Go.Proofs.LaysM.n146 prog aja:={
 mixed:=by kernel_rfl
 f138:=func134.trans (congrArg some (by kernel_rfl))
 f143:=func135.trans (congrArg some (by kernel_rfl))
 f146:=func47.trans (congrArg some (by kernel_rfl))
 f195:=func176.trans (congrArg some (by kernel_rfl))
 f197:=func177.trans (congrArg some (by kernel_rfl))
 f217:=func200.trans (congrArg some (by kernel_rfl))
 f218:=func178.trans (congrArg some (by kernel_rfl))
 f219:=func179.trans (congrArg some (by kernel_rfl))
 f221:=func90.trans (congrArg some (by kernel_rfl))
 f224:=func202.trans (congrArg some (by kernel_rfl))
 f225:=func201.trans (congrArg some (by kernel_rfl))
 f260:=func199.trans (congrArg some (by kernel_rfl))
 f266:=func212.trans (congrArg some (by kernel_rfl))
 f267:=func203.trans (congrArg some (by kernel_rfl))
 f268:=func133.trans (congrArg some (by kernel_rfl))
 f314:=func213.trans (congrArg some (by kernel_rfl))
 t0:=underlying0
 a0:=isAgg0
 z0:=sizeOf0
 v0:=zeroValue0
 t3:=underlying3
 a3:=isAgg3
 z3:=sizeOf3
 v3:=zeroValue3
 t4:=underlying4
 a4:=isAgg4
 z4:=sizeOf4
 v4:=zeroValue4
 t5:=underlying5
 a5:=isAgg5
 z5:=sizeOf5
 v5:=zeroValue5
 t9:=underlying9
 a9:=isAgg9
 z9:=sizeOf9
 v9:=zeroValue9
 t21:=underlying21
 a21:=isAgg21
 z21:=sizeOf21
 v21:=zeroValue21
 t31:=underlying103
 a31:=isAgg103
 z31:=sizeOf103
 v31:=zeroValue103
 t46:=underlying180
 a46:=isAgg180
 z46:=sizeOf180
 v46:=zeroValue180
 t51:=underlying231
 a51:=isAgg231
 z51:=sizeOf231
 v51:=zeroValue231
 t105:=underlying212
 a105:=isAgg212
 z105:=sizeOf212
 v105:=zeroValue212
 t119:=underlying176
 a119:=isAgg176
 z119:=sizeOf176
 t138:=underlying178
 a138:=isAgg178
 z138:=sizeOf178
 v138:=zeroValue178
 t139:=underlying179
 a139:=isAgg179
 z139:=sizeOf179
 v139:=zeroValue179
 t146:=underlying232
 a146:=isAgg232
 z146:=sizeOf232
 v146:=zeroValue232
 g1:=by kernel_rfl
 g3:=by kernel_rfl
 g4:=by kernel_rfl
 i0:=by kernel_rfl
 i3:=by kernel_rfl
 i4:=by kernel_rfl
 i5:=by kernel_rfl
 i9:=by kernel_rfl
 i21:=by kernel_rfl
 i31:=by kernel_rfl
 i46:=by kernel_rfl
 i51:=by kernel_rfl
 i105:=by kernel_rfl
 i138:=by kernel_rfl
 i139:=by kernel_rfl
 i146:=by kernel_rfl
 m1:=by kernel_rfl
 s1_3:=fun w h=>Go.Proofs.cell_of_shapedOpen_int (zero:=#[.int .i64 0]) (t:=3) h (of_decide_eq_true (by kernel_rfl)) (by kernel_rfl) rfl (by kernel_rfl) (by kernel_rfl) underlying3
 m3:=by kernel_rfl
 m4:=by kernel_rfl }
end Go.Proofs
namespace Go.Proofs.YtndjopkdbdcmdaaGreatDoor
section
open Go.Sort
variable {α:Type} [Inhabited α]
def pR(d:Array α)(x y n:Nat)(d':Array α):Prop:=
 PermIn x (y+n) d d'∧∀p,d'[p]! = if x≤p∧p<x+n then d[p-x+y]! else if y≤p∧p<y+n then d[p-y+x]! else d[p]!
theorem pR.zero(d:Array α)(x y:Nat):pR d x y 0 d:=⟨permIn_refl _ _ _,fun p=>by rw[ai (by omega),ai (by omega)]⟩
theorem pR.size{d d':Array α}{x y n:Nat}(h:pR d x y n d'):d'.size=d.size:=h.1.1
theorem pR.step{d d':Array α}{x y n:Nat}(h:pR d x y n d')(hxy:x+n<y)(hy:y+n<d.size):pR d x y (n+1) (swp d' (x+n) (y+n)):=by
 have hs:=h.size;refine⟨permIn_trans _ _ _ _ _ (permIn_mono _ _ x (y+n) x (y+(n+1)) (av _) (by omega) (by omega) h.1) (swp_permIn _ _ _ _ _ (by omega) (by omega) (by omega) (by omega) (by omega)),fun p=>?_⟩;by_cases h1:p=x+n
 ·subst h1;rw[swp_left _ _ _ (by omega) (by omega),h.2,ai (by omega),ai (by omega),ar (by omega)];congr 1;omega
 by_cases h2:p=y+n
 ·subst h2;rw[swp_right _ _ _ (by omega),h.2,ai (by omega),ai (by omega),ai (by omega),ar (by omega)];congr 1;omega
 rw[swp_other _ _ _ _ h1 h2,h.2];by_cases h3:x≤p∧p<x+n
 ·rw[ar h3,ar (by omega)]
 by_cases h4:y≤p∧p<y+n
 ·rw[ai h3,ar h4,ai (by omega),ar (by omega)]
 rw[ai h3,ai h4,ai (by omega),ai (by omega)]
def qP(d:Array α)(m i j:Nat)(d':Array α):Prop:=
 PermIn (m-i) (m+j) d d'∧∀p,d'[p]! = if m-i≤p∧p<m-i+j then d[p+i]! else if m-i+j≤p∧p<m+j then d[p-j]! else d[p]!
def sG(d:Array α)(m i j:Nat)(dk:Array α)(ik jk:Nat):Prop:=
 dk.size=d.size∧∀d',qP dk m ik jk d'→qP d m i j d'
theorem sG.start(d:Array α)(m i j:Nat):sG d m i j d i j:=⟨rfl,fun _ h=>h⟩
theorem sG.left{d dk dn:Array α}{m i j ik jk:Nat}(h:sG d m i j dk ik jk)(him:ik≤m)(hsz:m+jk≤d.size)(hj:0<jk)(hlt:jk<ik)(hs:pR dk (m-ik) m jk dn):sG d m i j dn (ik-jk) jk:=by
 have hz:=hs.size;refine⟨hz.trans h.1,fun d' hr=>h.2 d' ⟨?_,fun p=>?_⟩⟩
 ·refine permIn_trans _ _ _ _ _ hs.1 (permIn_mono _ _ _ _ _ _ (by omega) (av _) (by rw[hz,h.1];exact hsz) hr.1)
 rw[hr.2];by_cases h1:m-ik≤p∧p<m-ik+jk
 ·rw[ai (by omega),ai (by omega),ar h1,hs.2,ar (by omega)];congr 1;omega
 rw[ai h1];by_cases h2:m-ik+jk≤p∧p<m+jk
 ·rw[ar h2];by_cases h3:m-(ik-jk)≤p∧p<m-(ik-jk)+jk
  ·rw[ar h3,hs.2];by_cases h4:p+(ik-jk)<m
   ·omega
   rw[ai (by omega),ar (by omega)];congr 1;omega
  rw[ai h3,ar (by omega),hs.2,ai (by omega),ai (by omega)]
 rw[ai h2,ai (by omega),ai (by omega),hs.2,ai (by omega),ai (by omega)]
theorem sG.right{d dk dn:Array α}{m i j ik jk:Nat}(h:sG d m i j dk ik jk)(him:ik≤m)(hsz:m+jk≤d.size)(hi:0<ik)(hlt:ik<jk)(hs:pR dk (m-ik) (m+jk-ik) ik dn):sG d m i j dn ik (jk-ik):=by
 have hz:=hs.size;refine⟨hz.trans h.1,fun d' hr=>h.2 d' ⟨?_,fun p=>?_⟩⟩
 ·refine permIn_trans _ _ _ _ _ (permIn_mono _ _ _ _ _ _ (av _) (by omega) (by rw[h.1];exact hsz) hs.1) (permIn_mono _ _ _ _ _ _ (av _) (by omega) (by rw[hz,h.1];exact hsz) hr.1)
 rw[hr.2];by_cases h1:m-ik≤p∧p<m-ik+jk
 ·rw[ar h1];by_cases h3:p<m-ik+(jk-ik)
  ·rw[ar (by omega),hs.2,ai (by omega),ai (by omega)]
  rw[ai (by omega)];by_cases h4:p<m+(jk-ik)
  ·rw[ar (by omega),hs.2,ar (by omega)];congr 1;omega
  omega
 rw[ai h1];by_cases h2:m-ik+jk≤p∧p<m+jk
 ·rw[ar h2,ai (by omega),ai (by omega),hs.2,ai (by omega),ar (by omega)];congr 1;omega
 rw[ai h2,ai (by omega),ai (by omega),hs.2,ai (by omega),ai (by omega)]
theorem sG.last{d dk dn:Array α}{m i j ik:Nat}(h:sG d m i j dk ik ik)(him:ik≤m)(hs:pR dk (m-ik) m ik dn):qP d m i j dn:=
 h.2 dn ⟨hs.1,fun p=>by
  rw[hs.2];by_cases h1:m-ik≤p∧p<m-ik+ik
  ·rw[ar h1,ar h1];congr 1;omega
  rw[ai h1,ai h1];by_cases h2:m≤p∧p<m+ik
  ·rw[ar h2,ar (by omega)];congr 1;omega
  rw[ai h2,ai (by omega)]⟩
end
section
open Go.Shelf Go.RowKit Go.Lib Go.Sort
variable {α:Type} [Inhabited α]
theorem ajb(Z:Nat)(hz:∀w,(Go.sizeOf 115).run prog w=.ok Z w)(enc:α→List Value)(gc:Nat)(cb:Array Value)(blk off cap x y n:Nat)(d0 d:Array α)(w0 w:World)
 (R:RowK enc Z w0 blk off d0) (hs:d0.size=d.size) (S:SWK enc Z w0 blk off d w) (hxy:x+n≤y) (hy:y+n≤d.size) (hsz:d.size<4611686018427387904) :
 Calls prog 218 #[.slice (some ⟨blk,off,none⟩) d.size cap,.int .i64 x,.int .i64 y,.int .i64 n,.func (.func gc) #[] cb] w fun e w'=>e=.returned (.tuple #[])∧∃d',pR d x y n d'∧SWK enc Z w0 blk off d' w':=by
 have mixed:prog.follows Departure.mixedOrders=true:=by kernel_rfl
 have S0:Aside (SWK enc Z w0 blk off d w):=S;clear S;go_enter func218,ntmps218;go_wp2;go_loopg [10] n (fun kx cI wr=>∃(k:Nat) (dk:Array α),cI=.int .i64 k∧k+kx=n∧Aside (SWK enc Z w0 blk off dk wr)∧Hid (pR d x y k dk));exact⟨0,d,rfl,by omega,S0,pR.zero d x y⟩;clear S0;obtain⟨k,dk,rfl,hkx,S1,HR⟩:=hrel;by_cases hlt:k<n
 ·have uC:(k:Int)<(n:Int):=by omega
  have hds:dk.size=d.size:=HR.out.size;obtain⟨q1,hq1⟩:∃q1,q1=x+k:=⟨_,rfl⟩;obtain⟨q2,hq2⟩:∃q2,q2=y+k:=⟨_,rfl⟩;have e1:(x:Int)+(k:Int)=(q1:Int):=by omega
  have e2:(y:Int)+(k:Int)=(q2:Int):=by omega
  have amo:((q1:Int)).toNat=q1:=by omega
  have amq:(0:Int)≤(q1:Int):=by omega
  have amr:(q1:Int)<(d.size:Int):=by omega
  have ams:IntKind.i64.wrap ((q1:Int))=(q1:Int):=by rw[cZ];omega
  have amt:((q2:Int)).toNat=q2:=by omega
  have amu:(0:Int)≤(q2:Int):=by omega
  have amv:(q2:Int)<(d.size:Int):=by omega
  have amw:IntKind.i64.wrap ((q2:Int))=(q2:Int):=by rw[cZ];omega
  have S2:Aside (SWK enc Z w0 blk off (swp dk q1 q2) ((wr.drew.setCells blk (off+q1*Z) (enc dk[q2]!)).setCells blk (off+q2*Z) (enc dk[q1]!))):=S1.out.swapped R q1 q2 (by omega) (by omega);have zz:=S1.out.ld1 R (by omega) prog q1 (by omega);have zA:=S1.out.ld1 R (by omega) prog q2 (by omega);have zB:=S1.out.st1 R (by omega) prog q1 (by omega) dk[q2]!;have uD:=S1.out.st2 R (by omega) prog q1 q2 (by omega) (by omega) dk[q2]! dk[q1]!;have IC:(enc dk[q1]!).length=Z:=R.hk _;have ID:(enc dk[q2]!).length=Z:=R.hk _;have HQ:Hid (q1=x+k∧q2=y+k):=⟨hq1,hq2⟩;have iq:Hid (dk.size=d.size):=hds;clear hq1 hq2 hds;generalize enc dk[q1]! = IE at S2 zz uD IC;generalize enc dk[q2]! = IG at S2 zA zB uD ID;clear S1;go_wp2_with fail;go_big_region_o;clear zz zA zB uD
  generalize (wr.drew.setCells blk (off+q1*Z) IG).setCells blk (off+q2*Z) IE=w2 at S2 ⊢;go_wp2;go_roundg (n-(k+1));refine⟨k+1,swp dk q1 q2,by simp,by omega,S2,?_⟩;rw[HQ.out.1,HQ.out.2];exact HR.out.step (by omega) (by omega);omega
 have uC:¬ (k:Int)<(n:Int):=by omega
 obtain rfl:k=n:=by omega
 go_wp2;go_end0;exact⟨rfl,dk,HR.out,S1.out⟩
end
section
open Go.Shelf Go.RowKit Go.Lib Go.Sort
variable {α:Type} [Inhabited α]
theorem ajc(Z:Nat)(hz:∀w,(Go.sizeOf 115).run prog w=.ok Z w)(enc:α→List Value)(gc:Nat)(cb:Array Value)(blk off cap a m b:Nat)(d0 d:Array α)(w0 w:World)
 (R:RowK enc Z w0 blk off d0) (hs:d0.size=d.size) (S:SWK enc Z w0 blk off d w) (nS:a<m) (hmb:m<b) (hb:b≤d.size) (hsz:d.size<4611686018427387904) :
 Calls prog 208 #[.slice (some ⟨blk,off,none⟩) d.size cap,.int .i64 a,.int .i64 m,.int .i64 b,.func (.func gc) #[] cb] w fun e w'=>e=.returned (.tuple #[])∧∃d',qP d m (m-a) (b-m) d'∧SWK enc Z w0 blk off d' w':=by
 have HZ:=aa hz;have S0:Aside (SWK enc Z w0 blk off d w):=S;obtain⟨p1,hp1⟩:∃p1,p1=m-a:=⟨_,rfl⟩;obtain⟨p2,hp2⟩:∃p2,p2=b-m:=⟨_,rfl⟩;rw[← hp1,← hp2];have f1:(m:Int)-(a:Int)=(p1:Int):=by omega
 have f2:(b:Int)-(m:Int)=(p2:Int):=by omega
 have g1:IntKind.i64.wrap (p1:Int)=(p1:Int):=by rw[cZ];omega
 have g2:IntKind.i64.wrap (p2:Int)=(p2:Int):=by rw[cZ];omega
 have HP:Hid (p1=m-a∧p2=b-m):=⟨hp1,hp2⟩;clear S hz hp1 hp2;go_enter func208,ntmps208;go_wp2_with fail;go_loopg [10,11] (p1+p2) (fun kx cI Sd wr=>∃(i j:Nat) (dk:Array α),cI=.int .i64 i∧Sd=.int .i64 j∧i+j≤kx∧0<i∧0<j∧i≤m∧m+j≤d.size∧Aside (SWK enc Z w0 blk off dk wr)∧Hid (sG d m p1 p2 dk i j));exact⟨p1,p2,d,rfl,rfl,av _,by have:=HP.out;omega,by have:=HP.out;omega,by have:=HP.out;omega,by have:=HP.out;omega,S0,sG.start d m p1 p2⟩;clear S0 f1 f2 g1 g2;obtain⟨i,j,dk,rfl,rfl,hkx,hi0,yE,him,hjm,S1,HR⟩:=hrel;obtain⟨q1,hq1⟩:∃q1,q1=m-i:=⟨_,rfl⟩;have e1:(m:Int)-(i:Int)=(q1:Int):=by omega
 have r1:IntKind.i64.wrap (q1:Int)=(q1:Int):=by rw[cZ];omega
 have hds:dk.size=d.size:=HR.out.1;have Eu:=aa hq1;have iq:=aa hds;have CK:∀(xx yy nn:Nat),xx+nn≤yy→yy+nn≤d.size→Calls prog 218 #[.slice (some ⟨blk,off,none⟩) d.size cap,.int .i64 xx,.int .i64 yy,.int .i64 nn,.func (.func gc) #[] cb] wr fun e w'=>e=.returned (.tuple #[])∧∃d',pR dk xx yy nn d'∧SWK enc Z w0 blk off d' w':=fun xx yy nn h1 h2=>by
  have h:=ajb Z HZ.out enc gc cb blk off cap xx yy nn d0 dk w0 wr R (by rw[iq.out];exact hs) S1.out h1 (by rw[iq.out];exact h2) (by rw[iq.out];exact hsz);rw[iq.out] at h;exact h
 have ve:=aa CK;clear hq1 hds S1 CK;by_cases hij:i=j
 ·subst hij;have hne:((i:Int)==(i:Int))=true:=by simp
  go_wp2_with fail;refine(ve.out q1 m i (by have:=Eu.out;omega) (by omega)).mono ?_;rintro e w2 ⟨rfl,dn,hsw,S2⟩;have fw:=aa hsw;have eV:=aa S2;clear hsw S2;go_wp2_with fail;go_end0;exact⟨rfl,dn,HR.out.last him (by rw[← Eu.out];exact fw.out),eV.out⟩
 have hne:¬ ((i:Int)=(j:Int)):=by omega
 by_cases hlt:j<i
 ·have uC:(j:Int)<(i:Int):=by omega
  obtain⟨q2,hq2⟩:∃q2,q2=i-j:=⟨_,rfl⟩;have e2:(i:Int)-(j:Int)=(q2:Int):=by omega
  have r2:IntKind.i64.wrap (q2:Int)=(q2:Int):=by rw[cZ];omega
  have xZ:=aa hq2;clear hq2;go_wp2_with fail;refine(ve.out q1 m j (by have:=Eu.out;omega) (by omega)).mono ?_;rintro e w2 ⟨rfl,dn,hsw,S2⟩;have fw:=aa hsw;have eV:Aside (SWK enc Z w0 blk off dn w2):=S2;clear hsw S2;go_wp2_with fail;go_roundg (q2+j);exact⟨q2,j,dn,rfl,rfl,av _,by have:=xZ.out;omega,yE,by have:=xZ.out;omega,hjm,eV,by rw[xZ.out];exact HR.out.left him hjm yE hlt (by rw[← Eu.out];exact fw.out)⟩;have:=xZ.out;omega
 have uC:¬ (j:Int)<(i:Int):=by omega
 obtain⟨q2,hq2⟩:∃q2,q2=j-i:=⟨_,rfl⟩;obtain⟨q3,hq3⟩:∃q3,q3=m+j:=⟨_,rfl⟩;obtain⟨q4,hq4⟩:∃q4,q4=m+j-i:=⟨_,rfl⟩;have e2:(j:Int)-(i:Int)=(q2:Int):=by omega
 have r2:IntKind.i64.wrap (q2:Int)=(q2:Int):=by rw[cZ];omega
 have e3:(m:Int)+(j:Int)=(q3:Int):=by omega
 have r3:IntKind.i64.wrap (q3:Int)=(q3:Int):=by rw[cZ];omega
 have e4:(q3:Int)-(i:Int)=(q4:Int):=by omega
 have r4:IntKind.i64.wrap (q4:Int)=(q4:Int):=by rw[cZ];omega
 have xZ:=aa hq2;have Sg:=aa hq4;clear hq2 hq3 hq4;go_wp2_with fail;refine(ve.out q1 q4 i (by have:=Eu.out;have:=Sg.out;omega) (by have:=Sg.out;omega)).mono ?_;rintro e w2 ⟨rfl,dn,hsw,S2⟩;have fw:=aa hsw;have eV:Aside (SWK enc Z w0 blk off dn w2):=S2;clear hsw S2;go_wp2_with fail;go_roundg (i+q2);exact⟨i,q2,dn,rfl,rfl,av _,hi0,by have:=xZ.out;omega,him,by have:=xZ.out;omega,eV,by rw[xZ.out];exact HR.out.right him hjm hi0 (by omega) (by rw[← Eu.out,← Sg.out];exact fw.out)⟩;have:=xZ.out;omega
end
section
open Go.Sort
variable {α:Type} [Inhabited α] {lt:α→α→Bool}
def zC(d:Array α)(a k:Nat)(d':Array α):Prop:=PermIn a (k+1) d d'∧∀p,d'[p]! = if a≤p∧p<k then d[p+1]! else if p=k then d[a]! else d[p]!
theorem zC.zero(d:Array α)(a:Nat):zC d a a d:=⟨permIn_refl _ _ _,fun p=>by
 rw[ai (by omega)];by_cases h:p=a
 ·rw[ar h,h]
 rw[ai h]⟩
theorem zC.step{d d':Array α}{a k:Nat}(h:zC d a k d')(Sh:a≤k)(hk:k+1<d.size):zC d a (k+1) (swp d' k (k+1)):=by
 have hs:=h.1.1;refine⟨permIn_trans _ _ _ _ _ (permIn_mono _ _ a (k+1) a (k+1+1) (av _) (by omega) (by omega) h.1) (swp_permIn _ _ _ _ _ (by omega) (by omega) (by omega) (by omega) (by omega)),fun p=>?_⟩;by_cases h1:p=k
 ·subst h1;rw[swp_left _ _ _ (by omega) (by omega),h.2,ai (by omega),ai (by omega),ar (by omega)]
 by_cases h2:p=k+1
 ·subst h2;rw[swp_right _ _ _ (by omega),h.2,ai (by omega),ar rfl,ai (by omega),ar rfl]
 rw[swp_other _ _ _ _ h1 h2,h.2];by_cases h3:a≤p∧p<k
 ·rw[ar h3,ar (by omega)]
 rw[ai h3,ai h1,ai (by omega),ai h2]
def zD(d:Array α)(m k:Nat)(d':Array α):Prop:=PermIn k (m+1) d d'∧∀p,d'[p]! = if p=k then d[m]! else if k<p∧p≤m then d[p-1]! else d[p]!
theorem zD.zero(d:Array α)(m:Nat):zD d m m d:=⟨permIn_refl _ _ _,fun p=>by
 by_cases h:p=m
 ·rw[ar h,h]
 rw[ai h,ai (by omega)]⟩
theorem zD.step{d d':Array α}{m k:Nat}(h:zD d m (k+1) d')(hkm:k+1≤m)(hm:m<d.size):zD d m k (swp d' (k+1) k):=by
 have hs:=h.1.1;refine⟨permIn_trans _ _ _ _ _ (permIn_mono _ _ (k+1) (m+1) k (m+1) (by omega) (av _) (by omega) h.1) (swp_permIn _ _ _ _ _ (by omega) (by omega) (by omega) (by omega) (by omega)),fun p=>?_⟩;by_cases h1:p=k+1
 ·subst h1;rw[swp_left _ _ _ (by omega) (by omega),h.2,ai (by omega),ai (by omega),ai (by omega),ar (by omega)];congr 1
 by_cases h2:p=k
 ·subst h2;rw[swp_right _ _ _ (by omega),h.2,ar rfl,ar rfl]
 rw[swp_other _ _ _ _ h1 h2,h.2,ai h1,ai h2];by_cases h3:k+1<p∧p≤m
 ·rw[ar h3,ar (by omega)]
 rw[ai h3,ai (by omega)]
theorem Mn{d:Array α}{a b a' b':Nat}(h:SortedIn lt a b d)(ha:a≤a')(hb:b'≤b):SortedIn lt a' b' d:=fun i j h1 h2 h3=>h i j (by omega) h2 (by omega)
theorem ajd{d d':Array α}{a b i:Nat}(hS:SWO lt)(hs:SortedIn lt (a+1) b d)(hi:a+1≤i)(hib:i≤b)(hlo:i=a+1∨lt d[i-1]! d[a]! = true)(hhi:i=b∨lt d[i]! d[a]! = false)(h:zC d a (i-1) d'):SortedIn lt a b d':=by
 have low:∀k,a+1≤k→k<i→lt d[a]! d[k]! = false:=fun k h1 h2=>by
  rcases hlo with h0 | h0
  ·omega
  rcases dH k (i-1) with h3 | h3
  ·cases hc:lt d[a]! d[k]! with
   | false=>rfl
   | true=>have:=hS.trans _ _ _ h0 hc;rw[hs k (i-1) h1 h3 (by omega)] at this;cases this
  obtain rfl:k=i-1:=by omega
  cases hc:lt d[a]! d[i-1]! with
  | false=>rfl
  | true=>have:=hS.trans _ _ _ h0 hc;rw[hS.irrefl] at this;cases this
 have high:∀k,i≤k→k<b→lt d[k]! d[a]! = false:=fun k h1 h2=>by
  rcases hhi with h0 | h0
  ·omega
  rcases dH i k with h3 | h3
  ·exact hS.ntrans _ _ _ (hs i k hi h3 h2) h0
  obtain rfl:k=i:=by omega
  exact h0
 intro p q h1 h2 h3;rw[h.2 p,h.2 q];by_cases hp:p<i-1
 ·rw[ar (⟨h1,hp⟩:a≤p∧p<i-1)];by_cases hq:q<i-1
  ·rw[ar (by omega)];exact hs _ _ (by omega) (by omega) (by omega)
  rw[ai (by omega)];by_cases hq2:q=i-1
  ·rw[ar hq2];exact low _ (by omega) (by omega)
  rw[ai hq2];exact hs _ _ (by omega) (by omega) (by omega)
 rw[ai (by omega)];by_cases hp2:p=i-1
 ·rw[ar hp2,ai (by omega),ai (by omega)];exact high _ (by omega) h3
 rw[ai hp2,ai (by omega),ai (by omega)];exact hs _ _ (by omega) h2 h3
theorem aje{d d':Array α}{a m i:Nat}(hS:SWO lt)(hs:SortedIn lt a m d)(hi:a≤i)(him:i≤m)(hlo:i=a∨lt d[m]! d[i-1]! = false)(hhi:i=m∨lt d[m]! d[i]! = true)(h:zD d m i d'):SortedIn lt a (m+1) d':=by
 have low:∀k,a≤k→k<i→lt d[m]! d[k]! = false:=fun k h1 h2=>by
  rcases hlo with h0 | h0
  ·omega
  rcases dH k (i-1) with h3 | h3
  ·exact hS.ntrans _ _ _ h0 (hs k (i-1) h1 h3 (by omega))
  obtain rfl:k=i-1:=by omega
  exact h0
 have high:∀k,i≤k→k<m→lt d[k]! d[m]! = false:=fun k h1 h2=>by
  rcases hhi with h0 | h0
  ·omega
  cases hc:lt d[k]! d[m]! with
  | false=>rfl
  | true =>
   have ht:=hS.trans _ _ _ hc h0;rcases dH i k with h3 | h3
   ·rw[hs i k hi h3 h2] at ht;cases ht
   obtain rfl:k=i:=by omega
   rw[hS.irrefl] at ht;cases ht
 have g1:∀x,x<i→d'[x]! = d[x]! :=fun x hx=>by rw[h.2 x,ai (by omega),ai (by omega)]
 have g2:d'[i]! = d[m]! :=by rw[h.2 i,ar rfl]
 have g3:∀x,i<x→x≤m→d'[x]! = d[x-1]! :=fun x hx hm=>by rw[h.2 x,ai (by omega),ar ⟨hx,hm⟩]
 intro p q h1 h2 h3;by_cases hp:p<i
 ·rw[g1 p hp];by_cases hq:q<i
  ·rw[g1 q hq];exact hs _ _ h1 h2 (by omega)
  by_cases hq2:q=i
  ·rw[hq2,g2];exact low _ h1 hp
  rw[g3 q (by omega) (by omega)];exact hs _ _ h1 (by omega) (by omega)
 rw[g3 q (by omega) (by omega)];by_cases hp2:p=i
 ·rw[hp2,g2];exact high _ (by omega) (by omega)
 rw[g3 p (by omega) (by omega)];exact hs _ _ (by omega) (by omega) (by omega)
theorem qP.ajf(d:Array α)(m j:Nat):qP d m 0 j d:=⟨permIn_refl _ _ _,fun p=>by
 by_cases h:m-0≤p∧p<m-0+j
 ·rw[ar h];rfl
 rw[ai h,ai (by omega)]⟩
theorem qP.ajg(d:Array α)(m i:Nat):qP d m i 0 d:=⟨permIn_refl _ _ _,fun p=>by
 rw[ai (by omega)];by_cases h:m-i+0≤p∧p<m+0
 ·rw[ar h];rfl
 rw[ai h]⟩
theorem ajh{d dk:Array α}{a m b s e mid:Nat}(hS:SWO lt)(h1:SortedIn lt a m d)(h2:SortedIn lt m b d)(has:a≤s)(hsm:s≤m)(hme:m≤e)(Hy:e≤b)(hmid:mid+m=s+e)
 (hlo:s=a∨e=b∨lt d[e]! d[s-1]! = false) (hhi:s=m∨e=m∨lt d[e-1]! d[s]! = true) (h:qP d m (m-s) (e-m) dk) :
 SortedIn lt a s dk∧SortedIn lt s mid dk∧SortedIn lt mid e dk∧SortedIn lt e b dk∧∀p q,a≤p→p<mid→mid≤q→q<b→lt dk[q]! dk[p]! = false:=by
 have g:∀p,dk[p]! = if s≤p∧p<mid then d[p+(m-s)]! else if mid≤p∧p<e then d[p-(e-m)]! else d[p]! :=fun p=>by
  rw[h.2 p];rw[show m-(m-s)=s by omega,show s+(e-m)=mid by omega,show m+(e-m)=e by omega]
 have e1:∀p,p<s→dk[p]! = d[p]! :=fun p hp=>by rw[g,ai (by omega),ai (by omega)]
 have e2:∀p,s≤p→p<mid→dk[p]! = d[p+(m-s)]! :=fun p hp hq=>by rw[g,ar ⟨hp,hq⟩]
 have e3:∀p,mid≤p→p<e→dk[p]! = d[p-(e-m)]! :=fun p hp hq=>by rw[g,ai (by omega),ar ⟨hp,hq⟩]
 have e4:∀p,e≤p→dk[p]! = d[p]! :=fun p hp=>by rw[g,ai (by omega),ai (by omega)]
 have ref:∀{x y:Nat},a≤x→x≤y→y<m→lt d[y]! d[x]! = false:=fun {x y} hx hxy hy=>by
  rcases dH x y with hh | hh
  ·exact h1 x y hx hh hy
  obtain rfl:x=y:=by omega
  exact hS.irrefl _
 have Si:∀{x y:Nat},m≤x→x≤y→y<b→lt d[y]! d[x]! = false:=fun {x y} hx hxy hy=>by
  rcases dH x y with hh | hh
  ·exact h2 x y hx hh hy
  obtain rfl:x=y:=by omega
  exact hS.irrefl _
 refine⟨fun i j hi hij hj=>?_,fun i j hi hij hj=>?_,fun i j hi hij hj=>?_,fun i j hi hij hj=>?_,fun p q hp hpm hq Ml=>?_⟩
 ·rw[e1 i (by omega),e1 j (by omega)];exact h1 _ _ hi hij (by omega)
 ·rw[e2 i hi (by omega),e2 j (by omega) hj];exact h2 _ _ (by omega) (by omega) (by omega)
 ·rw[e3 i hi (by omega),e3 j (by omega) hj];exact h1 _ _ (by omega) (by omega) (by omega)
 ·rw[e4 i hi,e4 j (by omega)];exact h2 _ _ (by omega) hij hj
 rcases dH p s with hps | hps
 ·rw[e1 p hps];rcases dH q e with zE | zE
  ·rw[e3 q hq zE];exact ref hp (by omega) (by omega)
  rw[e4 q zE];rcases hlo with h0 | h0 | h0
  ·omega
  ·omega
  exact hS.ntrans _ _ _ (Si hme zE Ml) (hS.ntrans _ _ _ h0 (ref hp (by omega) (by omega)))
 rw[e2 p hps hpm];rcases dH q e with zE | zE
 ·rw[e3 q hq zE];rcases hhi with h0 | h0 | h0
  ·omega
  ·omega
  cases hc:lt d[q-(e-m)]! d[p+(m-s)]! with
  | false=>rfl
  | true =>
   have k1:lt d[e-1]! d[p+(m-s)]! = false:=Si (by omega) (by omega) (by omega)
   cases hc2:lt d[q-(e-m)]! d[e-1]! with
   | false=>have:=hS.ntrans _ _ _ hc2 k1;rw[hc] at this;cases this
   | true=>have:=hS.trans _ _ _ hc2 h0;rw[ref (x:=s) has (by omega) (by omega)] at this;cases this
 rw[e4 q zE];exact Si (by omega) (by omega) Ml
theorem aji{d:Array α}{a mid b:Nat}(h1:SortedIn lt a mid d)(h2:SortedIn lt mid b d)(hx:∀p q,a≤p→p<mid→mid≤q→q<b→lt d[q]! d[p]! = false):SortedIn lt a b d:=by
 intro i j hi hij hj;rcases dH i mid with h | h
 ·rcases dH j mid with h' | h'
  ·exact h1 i j hi hij h'
  exact hx i j hi h h' hj
 exact h2 i j h hij hj
theorem aax{d d':Array α}{a mid b:Nat}(hb:b≤d.size)(nS:a≤mid)(hmb:mid≤b)(hp:PermIn a mid d d'∨PermIn mid b d d')(hx:∀p q,a≤p→p<mid→mid≤q→q<b→lt d[q]! d[p]! = false) :
 ∀p q,a≤p→p<mid→mid≤q→q<b→lt d'[q]! d'[p]! = false:=by
 intro p q h1 h2 h3 h4;rcases hp with hp | hp
 ·rw[hp.2.1 q (.inr h3)];exact permIn_all d d' a mid (fun u=>lt d[q]! u=false) (by omega) hp (fun i hi hj=>hx i q hi hj h3 h4) p h1 h2
 rw[hp.2.1 p (.inl h2)];exact permIn_all d d' mid b (fun u=>lt u d[p]! = false) hb hp (fun i hi hj=>hx p i h1 h2 hi hj) q h3 h4
theorem II{d d':Array α}{a b x y:Nat}(hp:PermIn x y d d')(h:SortedIn lt a b d)(hd:b≤x∨y≤a):SortedIn lt a b d':=fun i j h1 h2 h3=>by
 rw[hp.2.1 i (by omega),hp.2.1 j (by omega)];exact h i j h1 h2 h3
end
section
open Go.Shelf Go.RowKit Go.Lib Go.Sort
variable {α:Type} [Inhabited α]
def uE(Z:Nat)(enc:α→List Value)(cf:α→α→Int)(gc:Nat)(cb:Array Value)(blk off cap:Nat)(w0:World)(a m b:Nat)(d:Array α)(w:World):Prop:=
 Calls prog 191 #[.slice (some ⟨blk,off,none⟩) d.size cap,.int .i64 a,.int .i64 m,.int .i64 b,.func (.func gc) #[] cb] w fun e w'=>e=.returned (.tuple #[])∧∃d',PermIn a b d d'∧SortedIn (ltOf cf) a b d'∧SWK enc Z w0 blk off d' w'
theorem ajj(Z:Nat)(hz:∀w,(Go.sizeOf 115).run prog w=.ok Z w)(enc:α→List Value)(cf:α→α→Int)(hS:SWO (ltOf cf))(gc:Nat)(cb:Array Value)(eg:∀args w,(callFunc gc args).run prog w=.ok (.enter gc args) w)(blk off cap:Nat)(d0:Array α)(w0:World)(R:RowK enc Z w0 blk off d0)(hC:CmpLays prog gc cb enc Z cf blk off d0.size w0)(hsz:d0.size<4611686018427387904)(a b:Nat)(d:Array α)(w:World)(hs:d.size=d0.size)(S:SWK enc Z w0 blk off d w)(hmb:a+1<b)(hb:b≤d.size)(h2:SortedIn (ltOf cf) (a+1) b d):uE Z enc cf gc cb blk off cap w0 a (a+1) b d w:=by
 have HZ:=aa hz;have gq:=aa hs;have mixed:prog.follows Departure.mixedOrders=true:=by kernel_rfl
 have S0:Aside (SWK enc Z w0 blk off d w):=S;have H2:=aa h2;have Sj:d.size<4611686018427387904:=by omega
 have bG:((a:Int)+1)-(a:Int)=1:=by omega
 have hmw:IntKind.i64.wrap (1:Int)=1:=by rw[cZ];omega
 clear S h2 hs;unfold uE;have Sk:((a+1:Nat):Int)-(a:Int)=1:=by omega
 obtain⟨m,hm⟩:∃m,m=a+1:=⟨_,rfl⟩;rw[← hm] at Sk hmb H2 ⊢;have HM:=aa hm;have nS:a<m:=by omega
 clear hm bG;go_enter func191,ntmps191;go_wp2_with fail;go_loopg [10,11,12] (b-m+1) (fun gk cI Sd s12 wr=>∃(i j:Nat),cI=.int .i64 i∧Sd=.int .i64 j∧m≤i∧i≤j∧j≤b∧j-i≤gk∧Aside (SWK enc Z w0 blk off d wr)∧Hid ((i=m∨ltOf cf d[i-1]! d[a]! = true)∧(j=b∨ltOf cf d[j]! d[a]! = false)));exact⟨m,b,rfl,rfl,av _,by omega,av _,by omega,S0,.inl rfl,.inl rfl⟩;clear S0;obtain⟨i,j,rfl,rfl,rI,hij,hjb,iB,S1,HI⟩:=hrel;by_cases hlt:i<j
 ·obtain⟨gk',rfl⟩:=bP gk (by omega);obtain⟨h,hh⟩:∃h,(i+j) / 2=h:=⟨_,rfl⟩;have JN:i≤h:=by omega
  have Ac:h<j:=by omega
  have hhi:((i:Int)+(j:Int)) / 2=(h:Int):=by omega
  have aay:IntKind.i64.wrap ((i:Int)+(j:Int))=(i:Int)+(j:Int):=by rw[cZ];omega
  clear hh;have uC:(i:Int)<(j:Int):=by omega
  have ea1:((h:Nat):Int).toNat=h:=by omega
  have pa1:(0:Int)≤((h:Nat):Int):=by omega
  have ba1:((h:Nat):Int)<(d.size:Int):=by omega
  have ra1:IntKind.i64.wrap ((h:Nat):Int)=((h:Nat):Int):=by rw[cZ];omega
  have ea2:((a:Nat):Int).toNat=a:=by omega
  have pa2:(0:Int)≤((a:Nat):Int):=by omega
  have ba2:((a:Nat):Int)<(d.size:Int):=by omega
  have ra2:IntKind.i64.wrap ((a:Nat):Int)=((a:Nat):Int):=by rw[cZ];omega
  have lA:=S1.out.ld R (by have:=gq.out;omega) prog h (by have:=gq.out;omega);have lB:=S1.out.ld R (by have:=gq.out;omega) prog a (by have:=gq.out;omega);have jL:=fun n os=>S1.out.cmp hC (by have:=gq.out;omega) d[h]! d[a]! n os
  have SG:=aa (fun n os=>S1.out.grown n os);have nA:(enc d[h]!).length=Z:=R.hk _;have nB:(enc d[a]!).length=Z:=R.hk _;obtain⟨z,hzz⟩:∃z,cf d[h]! d[a]! = z:=⟨_,rfl⟩;rw[hzz] at jL;have zF:=aa hzz;generalize enc d[h]! = cA at lA jL nA;generalize enc d[a]! = cB at lB jL nB;clear S1 hzz;by_cases hlv:z<0
  ·have hlb:decide (z<0)=true:=bT hlv;go_wp2_with fail;go_quiet_grown (first | (go_at_fn gc;refine Calls.grown_of (jL _ _)));have eV:Aside (SWK enc Z w0 blk off d (grow (wr.drewN nq) osq)):=SG.out nq osq;generalize grow (wr.drewN nq) osq=w2 at eV ⊢;clear lA lB jL SG;go_wp2_with fail;go_roundg gk';exact⟨h+1,j,by go_num,rfl,by omega,by omega,hjb,by omega,eV,.inr (by rw[wG];unfold ltOf;rw[zF.out];exact bT hlv),HI.out.2⟩;omega
  have hlb:decide (z<0)=false:=bY hlv;go_wp2_with fail;go_quiet_grown (first | (go_at_fn gc;refine Calls.grown_of (jL _ _)));have eV:Aside (SWK enc Z w0 blk off d (grow (wr.drewN nq) osq)):=SG.out nq osq;generalize grow (wr.drewN nq) osq=w2 at eV ⊢;clear lA lB jL SG;go_wp2_with fail;go_roundg gk';exact⟨i,h,rfl,rfl,rI,by omega,by omega,by omega,eV,HI.out.1,.inr (by unfold ltOf;rw[zF.out];exact bY (by omega))⟩;omega
 obtain rfl:i=j:=by omega
 have uC:¬ (i:Int)<(i:Int):=by omega
 obtain⟨i1,hi1⟩:∃i1,i1=i-1:=⟨_,rfl⟩;have e1:(i:Int)-1=(i1:Int):=by omega
 have r1:IntKind.i64.wrap (i1:Int)=(i1:Int):=by rw[cZ];omega
 have w_:=aa hi1;have ajk:a≤i1:=by omega
 have amx:i1<b:=by omega
 clear hi1;go_wp2_with fail;go_loopg [13] (i1-a+1) (fun gk s13 wr=>∃(k:Nat) (dk:Array α),s13=.int .i64 k∧a≤k∧k≤i1∧i1-k≤gk∧Aside (SWK enc Z w0 blk off dk wr)∧Hid (zC d a k dk));exact⟨a,d,rfl,av _,ajk,by omega,S1,zC.zero d a⟩;clear S1;obtain⟨k,dk,rfl,Sh,hki,N3,S1,HR⟩:=hrel;have iq:=aa (HR.out.1.1);by_cases dC:k<i1
 ·have Sl:(k:Int)<(i1:Int):=by omega
  obtain⟨q,hq⟩:∃q,q=k+1:=⟨_,rfl⟩;have Sm:(k:Int)+1=(q:Int):=by omega
  have HQ:=aa hq;have hqd:q<d.size:=by omega
  clear hq;have ea3:((k:Nat):Int).toNat=k:=by omega
  have pa3:(0:Int)≤((k:Nat):Int):=by omega
  have ba3:((k:Nat):Int)<(d.size:Int):=by omega
  have ra3:IntKind.i64.wrap ((k:Nat):Int)=((k:Nat):Int):=by rw[cZ];omega
  have ea4:((q:Nat):Int).toNat=q:=by omega
  have pa4:(0:Int)≤((q:Nat):Int):=by omega
  have ba4:((q:Nat):Int)<(d.size:Int):=by omega
  have ra4:IntKind.i64.wrap ((q:Nat):Int)=((q:Nat):Int):=by rw[cZ];omega
  have S2:Aside (SWK enc Z w0 blk off (swp dk k q) ((wr.drew.setCells blk (off+k*Z) (enc dk[q]!)).setCells blk (off+q*Z) (enc dk[k]!))):=S1.out.swapped R k q (by have:=iq.out;omega) (by have:=iq.out;omega);have zz:=S1.out.ld1 R (by have:=iq.out;have:=gq.out;omega) prog k (by have:=iq.out;omega);have zA:=S1.out.ld1 R (by have:=iq.out;have:=gq.out;omega) prog q (by have:=iq.out;omega);have zB:=S1.out.st1 R (by have:=iq.out;have:=gq.out;omega) prog k (by have:=iq.out;omega) dk[q]!;have uD:=S1.out.st2 R (by have:=iq.out;have:=gq.out;omega) prog k q (by have:=iq.out;omega) (by have:=iq.out;omega) dk[q]! dk[k]!;have IC:(enc dk[k]!).length=Z:=R.hk _;have ID:(enc dk[q]!).length=Z:=R.hk _;generalize enc dk[k]! = IE at S2 zz uD IC
  generalize enc dk[q]! = IG at S2 zA zB uD ID;clear S1;go_wp2_with fail;go_big_region_o;clear zz zA zB uD;generalize (wr.drew.setCells blk (off+k*Z) IG).setCells blk (off+q*Z) IE=w2 at S2 ⊢;go_wp2;go_roundg (i1-q);exact⟨q,swp dk k q,by go_num,by have:=HQ.out;omega,by have:=HQ.out;omega,av _,S2,by rw[HQ.out];exact HR.out.step Sh (by have:=HQ.out;omega)⟩;have:=HQ.out;omega
 have Sl:¬ (k:Int)<(i1:Int):=by omega
 obtain rfl:k=i1:=by omega
 go_wp2_with fail;(try simp only[Exit.inBlock,Exit.then]);refine gK (results_none rfl _ _ _) rfl ?_;exact⟨rfl,dk,permIn_mono _ _ _ _ _ _ (av _) (by omega) hb HR.out.1,ajd hS (by rw[← HM.out];exact H2.out) (by have:=HM.out;omega) (by omega) (by rw[← HM.out];exact HI.out.1) HI.out.2 (by rw[← w_.out];exact HR.out),S1.out⟩
theorem ajl(Z:Nat)(hz:∀w,(Go.sizeOf 115).run prog w=.ok Z w)(enc:α→List Value)(cf:α→α→Int)(hS:SWO (ltOf cf))(gc:Nat)(cb:Array Value)(eg:∀args w,(callFunc gc args).run prog w=.ok (.enter gc args) w)(blk off cap:Nat)(d0:Array α)(w0:World)(R:RowK enc Z w0 blk off d0)(hC:CmpLays prog gc cb enc Z cf blk off d0.size w0)(hsz:d0.size<4611686018427387904)(a m:Nat)(d:Array α)(w:World)(hs:d.size=d0.size)(S:SWK enc Z w0 blk off d w)(nS:a+1<m)(hb:m+1≤d.size)(h1:SortedIn (ltOf cf) a m d):uE Z enc cf gc cb blk off cap w0 a m (m+1) d w:=by
 have HZ:=aa hz;have gq:=aa hs;have mixed:prog.follows Departure.mixedOrders=true:=by kernel_rfl
 have S0:Aside (SWK enc Z w0 blk off d w):=S;have H1:=aa h1;have Sj:d.size<4611686018427387904:=by omega
 have Sk:((m:Int)-(a:Int)==1)=false:=by rw[pj];omega
 have ajm:IntKind.i64.wrap ((m:Int)-(a:Int))=(m:Int)-(a:Int):=by rw[cZ];omega
 have hmw:IntKind.i64.wrap (1:Int)=1:=by rw[cZ];omega
 clear S h1 hs;unfold uE;have BK:((m+1:Nat):Int)-(m:Int)=1:=by omega
 obtain⟨b,sk⟩:∃b,b=m+1:=⟨_,rfl⟩;rw[← sk] at BK hb ⊢;have BL:=aa sk;have hmb:m<b:=by omega
 clear sk;go_enter func191,ntmps191;go_wp2_with fail;go_loopg [14,15,16] (m-a+1) (fun gk s14 s15 s16 wr=>∃(i j:Nat),s14=.int .i64 i∧s15=.int .i64 j∧a≤i∧i≤j∧j≤m∧j-i≤gk∧Aside (SWK enc Z w0 blk off d wr)∧Hid ((i=a∨ltOf cf d[m]! d[i-1]! = false)∧(j=m∨ltOf cf d[m]! d[j]! = true)));exact⟨a,m,rfl,rfl,av _,by omega,av _,by omega,S0,.inl rfl,.inl rfl⟩;clear S0;obtain⟨i,j,rfl,rfl,rI,hij,hjb,iB,S1,HI⟩:=hrel;by_cases hlt:i<j
 ·obtain⟨gk',rfl⟩:=bP gk (by omega);obtain⟨h,hh⟩:∃h,(i+j) / 2=h:=⟨_,rfl⟩;have JN:i≤h:=by omega
  have Ac:h<j:=by omega
  have hhi:((i:Int)+(j:Int)) / 2=(h:Int):=by omega
  have aay:IntKind.i64.wrap ((i:Int)+(j:Int))=(i:Int)+(j:Int):=by rw[cZ];omega
  clear hh;have uC:(i:Int)<(j:Int):=by omega
  have ea1:((m:Nat):Int).toNat=m:=by omega
  have pa1:(0:Int)≤((m:Nat):Int):=by omega
  have ba1:((m:Nat):Int)<(d.size:Int):=by omega
  have ra1:IntKind.i64.wrap ((m:Nat):Int)=((m:Nat):Int):=by rw[cZ];omega
  have ea2:((h:Nat):Int).toNat=h:=by omega
  have pa2:(0:Int)≤((h:Nat):Int):=by omega
  have ba2:((h:Nat):Int)<(d.size:Int):=by omega
  have ra2:IntKind.i64.wrap ((h:Nat):Int)=((h:Nat):Int):=by rw[cZ];omega
  have lA:=S1.out.ld R (by have:=gq.out;omega) prog m (by have:=gq.out;omega);have lB:=S1.out.ld R (by have:=gq.out;omega) prog h (by have:=gq.out;omega);have jL:=fun n os=>S1.out.cmp hC (by have:=gq.out;omega) d[m]! d[h]! n os
  have SG:=aa (fun n os=>S1.out.grown n os);have nA:(enc d[m]!).length=Z:=R.hk _;have nB:(enc d[h]!).length=Z:=R.hk _;obtain⟨z,hzz⟩:∃z,cf d[m]! d[h]! = z:=⟨_,rfl⟩;rw[hzz] at jL;have zF:=aa hzz;generalize enc d[m]! = cA at lA jL nA;generalize enc d[h]! = cB at lB jL nB;clear S1 hzz;by_cases hlv:z<0
  ·have hlb:decide (z<0)=true:=bT hlv;go_wp2_with fail;go_quiet_grown (first | (go_at_fn gc;refine Calls.grown_of (jL _ _)));have eV:Aside (SWK enc Z w0 blk off d (grow (wr.drewN nq) osq)):=SG.out nq osq;generalize grow (wr.drewN nq) osq=w2 at eV ⊢;clear lA lB jL SG;go_wp2_with fail;go_roundg gk';exact⟨i,h,rfl,rfl,rI,by omega,by omega,by omega,eV,HI.out.1,.inr (by unfold ltOf;rw[zF.out];exact bT hlv)⟩;omega
  have hlb:decide (z<0)=false:=bY hlv;go_wp2_with fail;go_quiet_grown (first | (go_at_fn gc;refine Calls.grown_of (jL _ _)));have eV:Aside (SWK enc Z w0 blk off d (grow (wr.drewN nq) osq)):=SG.out nq osq;generalize grow (wr.drewN nq) osq=w2 at eV ⊢;clear lA lB jL SG;go_wp2_with fail;go_roundg gk';exact⟨h+1,j,by go_num,rfl,by omega,by omega,hjb,by omega,eV,.inr (by rw[wG];unfold ltOf;rw[zF.out];exact bY (by omega)),HI.out.2⟩;omega
 obtain rfl:i=j:=by omega
 have uC:¬ (i:Int)<(i:Int):=by omega
 go_wp2_with fail;go_loopg [17] (m-i+1) (fun gk s17 wr=>∃(k:Nat) (dk:Array α),s17=.int .i64 k∧i≤k∧k≤m∧k-i≤gk∧Aside (SWK enc Z w0 blk off dk wr)∧Hid (zD d m k dk));exact⟨m,d,rfl,hjb,av _,by omega,S1,zD.zero d m⟩;clear S1;obtain⟨k,dk,rfl,Sh,hki,N3,S1,HR⟩:=hrel;have iq:=aa (HR.out.1.1);by_cases dC:i<k
 ·have Sl:(i:Int)<(k:Int):=by omega
  obtain⟨q,hq⟩:∃q,q=k-1:=⟨_,rfl⟩;have Sm:(k:Int)-1=(q:Int):=by omega
  have HQ:=aa hq;have hqd:q<d.size:=by omega
  have Qx:k<d.size:=by omega
  clear hq;have ea3:((k:Nat):Int).toNat=k:=by omega
  have pa3:(0:Int)≤((k:Nat):Int):=by omega
  have ba3:((k:Nat):Int)<(d.size:Int):=by omega
  have ra3:IntKind.i64.wrap ((k:Nat):Int)=((k:Nat):Int):=by rw[cZ];omega
  have ea4:((q:Nat):Int).toNat=q:=by omega
  have pa4:(0:Int)≤((q:Nat):Int):=by omega
  have ba4:((q:Nat):Int)<(d.size:Int):=by omega
  have ra4:IntKind.i64.wrap ((q:Nat):Int)=((q:Nat):Int):=by rw[cZ];omega
  have S2:Aside (SWK enc Z w0 blk off (swp dk k q) ((wr.drew.setCells blk (off+k*Z) (enc dk[q]!)).setCells blk (off+q*Z) (enc dk[k]!))):=S1.out.swapped R k q (by have:=iq.out;omega) (by have:=iq.out;omega);have zz:=S1.out.ld1 R (by have:=iq.out;have:=gq.out;omega) prog k (by have:=iq.out;omega);have zA:=S1.out.ld1 R (by have:=iq.out;have:=gq.out;omega) prog q (by have:=iq.out;omega);have zB:=S1.out.st1 R (by have:=iq.out;have:=gq.out;omega) prog k (by have:=iq.out;omega) dk[q]!;have uD:=S1.out.st2 R (by have:=iq.out;have:=gq.out;omega) prog k q (by have:=iq.out;omega) (by have:=iq.out;omega) dk[q]! dk[k]!;have IC:(enc dk[k]!).length=Z:=R.hk _;have ID:(enc dk[q]!).length=Z:=R.hk _;generalize enc dk[k]! = IE at S2 zz uD IC
  generalize enc dk[q]! = IG at S2 zA zB uD ID;clear S1;go_wp2_with fail;go_big_region_o;clear zz zA zB uD;generalize (wr.drew.setCells blk (off+k*Z) IG).setCells blk (off+q*Z) IE=w2 at S2 ⊢;go_wp2;go_roundg (q-i);exact⟨q,swp dk k q,by go_num,by have:=HQ.out;omega,by have:=HQ.out;omega,av _,S2,by
   obtain⟨k',rfl⟩:∃k',k=k'+1:=⟨k-1,by have:=HQ.out;omega⟩;rw[HQ.out,wG];exact HR.out.step (by omega) (by omega)⟩
  have:=HQ.out;omega
 have Sl:¬ (i:Int)<(k:Int):=by omega
 obtain rfl:i=k:=by omega
 go_wp2_with fail;(try simp only[Exit.inBlock,Exit.then]);refine gK (results_none rfl _ _ _) rfl ?_;refine⟨rfl,dk,?_,?_,S1.out⟩
 ·rw[BL.out];exact permIn_mono _ _ _ _ _ _ rI (av _) (by have:=BL.out;omega) HR.out.1
 rw[BL.out];exact aje hS H1.out rI hjb HI.out.1 HI.out.2 HR.out
end
end Go.Proofs.YtndjopkdbdcmdaaGreatDoor
namespace Go.Proofs
open Go.Shelf
def ajn:Go.Shelf.Ren:=⟨fun | 20=>190 | n=>n,fun | 24=>115 | 22=>111 | 3=>3 | 25=>154 | 4=>4 | 0=>0 | n=>n,fun | n=>n⟩
theorem ajo:Go.Proofs.SlLaysF0.n20 prog ajn:={
 mixed:=by kernel_rfl
 f20:=⟨f190.name,by decide,func190.trans (congrArg some (by kernel_rfl))⟩
 t0:=underlying0
 a0:=isAgg0
 z0:=sizeOf0
 v0:=zeroValue0
 t3:=underlying3
 a3:=isAgg3
 z3:=sizeOf3
 v3:=zeroValue3
 t4:=underlying4
 a4:=isAgg4
 z4:=sizeOf4
 v4:=zeroValue4
 t22:=underlying111
 a22:=isAgg111
 z22:=sizeOf111
 v22:=zeroValue111
 t25:=underlying154
 a25:=isAgg154
 z25:=sizeOf154
 v25:=zeroValue154 }
end Go.Proofs
namespace Go.Proofs.YtndjopkdbdcmdaaGreatDoor
end Go.Proofs.YtndjopkdbdcmdaaGreatDoor
