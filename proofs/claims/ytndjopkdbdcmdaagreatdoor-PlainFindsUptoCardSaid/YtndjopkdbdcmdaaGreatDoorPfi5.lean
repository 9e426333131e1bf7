/- Part 5 of the proof of pfinds_card. -/
import Derived.Test.YtndjopkdbdcmdaaGreatDoorPfi1
import Derived.Ground.NamesProg
import Derived.WalkMore
import Derived.Shelf.Unicode.ValidAny
import Derived.Shelf.Strings.FuncGrows
import Derived.Deep.RegionWith
import Derived.Shelf.Strings.SplitShaped
import Derived.Deep.CutRange
import Derived.Ground.SlsfProg
import Derived.Laws.IdiomCopy
import Derived.Lib.AppendZerosOnto
import Derived.Lib.Overlaps
import Derived.Shelf.RegionOpenPlain
import Derived.Shelf.Spec.SlicesInsert
import Derived.Laws.Externs
import Derived.Lib.SliceRun
set_option linter.unusedVariables false
set_option linter.unusedSimpArgs false
set_option maxRecDepth 100000
set_option maxHeartbeats 12800000
open Go.Proofs.Tryz
namespace Go.Proofs.YtndjopkdbdcmdaaGreatDoor
section
open Go.RowKit
def vh:List UInt8→Nat→Int
 | [],n=>n
 | c::r,n=>if c.toNat<48∨57<c.toNat then -1 else vh r (10*n+(c.toNat-48))
def om(s:List UInt8):Int:=if s=[]∨4<s.length∨(1<s.length∧s.head?=some 48) then -1 else vh s 0
theorem aa7(s:List UInt8)(j:Nat)(h:j<s.length)(n:Nat):vh (s.drop j) n=if s[j].toNat<48∨57<s[j].toNat then -1 else vh (s.drop (j+1)) (10*n+(s[j].toNat-48)):=by
 rw[Aw h,vh]
theorem Hz(s:ByteArray)(j:Nat)(h:j<s.size):s[j]=s.data.toList[j]'(by simpa using h):=by
 show s.data[j]=_;simp
theorem toList_data(s:ByteArray):s.toList=s.data.toList:=by
 exact ByteArray.toList_eq s
theorem ajN(s:ByteArray)(w:World):Calls prog 91 #[.string s] w fun e w'=>e=.returned (.int .i64 (om s.data.toList))∧w=w':=by
 obtain⟨z,hz⟩:∃z,om s.data.toList=z:=⟨_,rfl⟩;rw[hz];have hlen:s.data.toList.length=s.size:=by simp
 by_cases h0:s.size=0
 ·have he:s.data.toList=[]:=Ay.1 (by omega);have hz':z=-1:=by rw[← hz,he];rfl
  have o_:s=⟨#[]⟩:=by apply CQ;apply Az;exact he
  subst o_;subst hz';clear h0 hz he hlen;go_enter func91,ntmps91;go_wp2_with fail;go_ret;exact⟨rfl,rfl⟩
 have hne:s.data.toList≠[]:=fun h=>h0 (by rw[← hlen,h];rfl)
 have eU:¬ s.toList=[]:=by
  intro h;have:=toList_data s;rw[h] at this;exact hne this.symm
 have hl2:s.toList.isEmpty=false:=by simpa using eU
 have hpos:0<s.size:=by omega
 by_cases h4:4<s.size
 ·have hz':z=-1:=by rw[← hz];unfold om;rw[aw (.inr (.inl (by omega)))]
  subst hz';clear h0 hz hne hlen;go_enter func91,ntmps91;go_wp2_with fail;go_ret;exact⟨rfl,rfl⟩
 obtain⟨x,hx⟩:∃x,s[0]'hpos=x:=⟨_,rfl⟩;have hx0:s.data.toList.head?=some x:=by
  rw[← hx,Hz s 0 hpos,List.head?_eq_getElem?,cJ]
 have hxl:=x.toNat_lt;by_cases h1:1<s.size∧x.toNat=48
 ·have hz':z=-1:=by
   rw[← hz];unfold om;rw[aw (.inr (.inr ⟨by omega,by rw[hx0];congr 1;apply tF.1;exact h1.2⟩))]
  subst hz';obtain⟨h1,h2⟩:=h1;have JL:((x.toNat:Int)==48)=true:=by simp;omega
  clear h0 hz hne hlen hx0 h2;go_enter func91,ntmps91;go_wp2_with fail;go_ret;exact⟨rfl,rfl⟩
 have hz':vh s.data.toList 0=z:=by
  rw[← hz];unfold om;rw[ai];rintro(h | h | ⟨h,h'⟩)
  ·exact hne h
  ·omega
  exact h1 ⟨by omega,by rw[hx0] at h';injection h' with h';rw[h'];rfl⟩
 have HZ:=aa hz';have hs1:¬ 1<s.size∨(1<s.size∧((x.toNat:Int)==48)=false):=by
  rcases fh 1 s.size with h | h
  ·right;exact⟨h,by simp;omega⟩
  left;omega
 clear hz hz' hne hlen hx0 h1 h0;have hs4:s.size≤4:=by omega
 have hsj:∀(n:Nat) (j:Nat),j<s.size→n<10 ^ j→n≤999:=fun n j h1 h2=>by
  have:10 ^ j≤10 ^ 3:=mq (by omega) (by omega);omega
 have TM:=aa hsj;clear hsj;rcases hs1 with hs1 | ⟨hs1,hs2⟩
 all_goals
  go_enter func91,ntmps91
  go_wp2_with fail
  go_loopg [3,24] (s.size+1) (fun gk a i wr=>w=wr∧∃(j n:Nat),j≤s.size∧gk+j=s.size+1∧i=.int .i64 j∧a=.int .i64 (n:Int)∧n<10 ^ j∧vh (s.data.toList.drop j) n=z)
  exact⟨rfl,0,0,by omega,by omega,rfl,rfl,by simp,HZ.o⟩
  obtain⟨rfl,j,n,hj,kW,rfl,rfl,hn,hf⟩:=hrel
  have HF:=aa hf
  have HN:=aa hn
  clear hf
  by_cases hlt:j<s.size
  ·obtain⟨gk',rfl⟩:=bS gk (by omega)
   have hn9:=TM.o n j hlt hn
   clear hn
   have hstep:=aa7 s.data.toList j (by simpa using hlt) n
   rw[HF.o,← Hz s j hlt] at hstep
   obtain⟨y,hy⟩:∃y,s[j]=y:=⟨_,rfl⟩
   rw[hy] at hstep
   have HST:=aa hstep
   have Bd:=y.toNat_lt
   clear hstep
   by_cases c1:y.toNat<48
   ·have HE:=aa (show z=-1 by rw[HST.o,aw (.inl c1)])
    go_wp2_with fail
    go_ret
    exact⟨cA HE.o.symm,rfl⟩
   by_cases c2:57<y.toNat
   ·have HE:=aa (show z=-1 by rw[HST.o,aw (.inr c2)])
    go_wp2_with fail
    go_ret
    exact⟨cA HE.o.symm,rfl⟩
   have HE:=aa (show z=vh (s.data.toList.drop (j+1)) (10*n+(y.toNat-48)) by rw[HST.o,ai (by omega)])
   go_wp2_with fail
   go_roundg gk'
   exact⟨rfl,j+1,10*n+(y.toNat-48),by omega,by omega,by go_num,by go_num,by have:=HN.o;rw[vE];omega,HE.o.symm⟩
   omega
  obtain rfl:j=s.size:=by omega
  have HE:=aa (show z=(n:Int) by rw[← HF.o,J9 (by simp)];rfl)
  clear hn
  go_wp2_with fail
  go_ret
  exact⟨cA HE.o.symm,rfl⟩
theorem afo(s:ByteArray)(w:World):Calls prog 104 #[.string s] w fun e w'=>e=.returned (.int .i64 (om s.data.toList))∧w=w':=by
 obtain⟨z,hz⟩:∃z,om s.data.toList=z:=⟨_,rfl⟩;rw[hz];have hlen:s.data.toList.length=s.size:=by simp
 by_cases h0:s.size=0
 ·have he:s.data.toList=[]:=Ay.1 (by omega);have hz':z=-1:=by rw[← hz,he];rfl
  have o_:s=⟨#[]⟩:=by apply CQ;apply Az;exact he
  subst o_;subst hz';clear h0 hz he hlen;go_enter func104,ntmps104;go_wp2_with fail;go_ret;exact⟨rfl,rfl⟩
 have hne:s.data.toList≠[]:=fun h=>h0 (by rw[← hlen,h];rfl)
 have eU:¬ s.toList=[]:=by
  intro h;have:=toList_data s;rw[h] at this;exact hne this.symm
 have hl2:s.toList.isEmpty=false:=by simpa using eU
 have hpos:0<s.size:=by omega
 by_cases h4:4<s.size
 ·have hz':z=-1:=by rw[← hz];unfold om;rw[aw (.inr (.inl (by omega)))]
  subst hz';clear h0 hz hne hlen;go_enter func104,ntmps104;go_wp2_with fail;go_ret;exact⟨rfl,rfl⟩
 obtain⟨x,hx⟩:∃x,s[0]'hpos=x:=⟨_,rfl⟩;have hx0:s.data.toList.head?=some x:=by
  rw[← hx,Hz s 0 hpos,List.head?_eq_getElem?,cJ]
 have hxl:=x.toNat_lt;by_cases h1:1<s.size∧x.toNat=48
 ·have hz':z=-1:=by
   rw[← hz];unfold om;rw[aw (.inr (.inr ⟨by omega,by rw[hx0];congr 1;apply tF.1;exact h1.2⟩))]
  subst hz';obtain⟨h1,h2⟩:=h1;have JL:((x.toNat:Int)==48)=true:=by simp;omega
  clear h0 hz hne hlen hx0 h2;go_enter func104,ntmps104;go_wp2_with fail;go_ret;exact⟨rfl,rfl⟩
 have hz':vh s.data.toList 0=z:=by
  rw[← hz];unfold om;rw[ai];rintro(h | h | ⟨h,h'⟩)
  ·exact hne h
  ·omega
  exact h1 ⟨by omega,by rw[hx0] at h';injection h' with h';rw[h'];rfl⟩
 have HZ:=aa hz';have hs1:¬ 1<s.size∨(1<s.size∧((x.toNat:Int)==48)=false):=by
  rcases fh 1 s.size with h | h
  ·right;exact⟨h,by simp;omega⟩
  left;omega
 clear hz hz' hne hlen hx0 h1 h0;have hs4:s.size≤4:=by omega
 have hsj:∀(n:Nat) (j:Nat),j<s.size→n<10 ^ j→n≤999:=fun n j h1 h2=>by
  have:10 ^ j≤10 ^ 3:=mq (by omega) (by omega);omega
 have TM:=aa hsj;clear hsj;rcases hs1 with hs1 | ⟨hs1,hs2⟩
 all_goals
  go_enter func104,ntmps104
  go_wp2_with fail
  go_loopg [3,4] (s.size+1) (fun gk a i wr=>w=wr∧∃(j n:Nat),j≤s.size∧gk+j=s.size+1∧i=.int .i64 j∧a=.int .i64 (n:Int)∧n<10 ^ j∧vh (s.data.toList.drop j) n=z)
  exact⟨rfl,0,0,by omega,by omega,rfl,rfl,by simp,HZ.o⟩
  obtain⟨rfl,j,n,hj,kW,rfl,rfl,hn,hf⟩:=hrel
  have HF:=aa hf
  have HN:=aa hn
  clear hf
  by_cases hlt:j<s.size
  ·obtain⟨gk',rfl⟩:=bS gk (by omega)
   have hn9:=TM.o n j hlt hn
   clear hn
   have hstep:=aa7 s.data.toList j (by simpa using hlt) n
   rw[HF.o,← Hz s j hlt] at hstep
   obtain⟨y,hy⟩:∃y,s[j]=y:=⟨_,rfl⟩
   rw[hy] at hstep
   have HST:=aa hstep
   have Bd:=y.toNat_lt
   clear hstep
   by_cases c1:y.toNat<48
   ·have HE:=aa (show z=-1 by rw[HST.o,aw (.inl c1)])
    go_wp2_with fail
    go_ret
    exact⟨cA HE.o.symm,rfl⟩
   by_cases c2:57<y.toNat
   ·have HE:=aa (show z=-1 by rw[HST.o,aw (.inr c2)])
    go_wp2_with fail
    go_ret
    exact⟨cA HE.o.symm,rfl⟩
   have HE:=aa (show z=vh (s.data.toList.drop (j+1)) (10*n+(y.toNat-48)) by rw[HST.o,ai (by omega)])
   go_wp2_with fail
   go_roundg gk'
   exact⟨rfl,j+1,10*n+(y.toNat-48),by omega,by omega,by go_num,by go_num,by have:=HN.o;rw[vE];omega,HE.o.symm⟩
   omega
  obtain rfl:j=s.size:=by omega
  have HE:=aa (show z=(n:Int) by rw[← HF.o,J9 (by simp)];rfl)
  clear hn
  go_wp2_with fail
  go_ret
  exact⟨cA HE.o.symm,rfl⟩
end
end Go.Proofs.YtndjopkdbdcmdaaGreatDoor
namespace Go.Proofs
open Go.Shelf
def ajO:Go.Shelf.Ren:=⟨fun | 196=>130 | 259=>174 | n=>n,fun | 9=>9 | 4=>4 | 3=>3 | 5=>5 | 12=>12 | 119=>176 | 0=>0 | 46=>180 | 139=>179 | 138=>178 | 53=>22 | n=>n,fun | 3=>0 | 4=>1 | n=>n⟩
theorem VA:Go.Proofs.Lays.n196 prog ajO:={
 mixed:=by kernel_rfl
 f196:=func130.trans (congrArg some (by kernel_rfl))
 f259:=func174.trans (congrArg some (by kernel_rfl))
 t0:=underlying0
 a0:=isAgg0
 z0:=sizeOf0
 v0:=zeroValue0
 t3:=underlying3
 a3:=isAgg3
 z3:=sizeOf3
 v3:=zeroValue3
 t4:=underlying4
 a4:=isAgg4
 z4:=sizeOf4
 v4:=zeroValue4
 t5:=underlying5
 a5:=isAgg5
 z5:=sizeOf5
 v5:=zeroValue5
 t9:=underlying9
 a9:=isAgg9
 z9:=sizeOf9
 v9:=zeroValue9
 t12:=underlying12
 a12:=isAgg12
 z12:=sizeOf12
 v12:=zeroValue12
 t46:=underlying180
 a46:=isAgg180
 z46:=sizeOf180
 v46:=zeroValue180
 t53:=underlying22
 a53:=isAgg22
 z53:=sizeOf22
 v53:=zeroValue22
 t119:=underlying176
 a119:=isAgg176
 z119:=sizeOf176
 t138:=underlying178
 a138:=isAgg178
 z138:=sizeOf178
 v138:=zeroValue178
 t139:=underlying179
 a139:=isAgg179
 z139:=sizeOf179
 v139:=zeroValue179
 g3:=by kernel_rfl
 g4:=by kernel_rfl }
def ajP:Go.Shelf.Ren:=⟨fun | 17=>131 | 15=>175 | 20=>198 | n=>n,fun | 9=>9 | 23=>182 | 4=>4 | 3=>3 | 0=>0 | 21=>21 | n=>n,fun | n=>n⟩
theorem ajQ:Go.Proofs.LaysGw.n17 prog ajP:={
 mixed:=by kernel_rfl
 f15:=func175.trans (congrArg some (by kernel_rfl))
 f17:=func131.trans (congrArg some (by kernel_rfl))
 f20:=func198.trans (congrArg some (by kernel_rfl))
 t0:=underlying0
 a0:=isAgg0
 z0:=sizeOf0
 v0:=zeroValue0
 i0:=by kernel_rfl
 t3:=underlying3
 a3:=isAgg3
 z3:=sizeOf3
 v3:=zeroValue3
 i3:=by kernel_rfl
 t4:=underlying4
 a4:=isAgg4
 z4:=sizeOf4
 v4:=zeroValue4
 i4:=by kernel_rfl
 t9:=underlying9
 a9:=isAgg9
 z9:=sizeOf9
 v9:=zeroValue9
 i9:=by kernel_rfl
 t21:=underlying21
 a21:=isAgg21
 z21:=sizeOf21
 v21:=zeroValue21
 i21:=by kernel_rfl
 t23:=underlying182
 a23:=isAgg182
 z23:=sizeOf182
 v23:=zeroValue182
 i23:=by kernel_rfl }
end Go.Proofs
namespace Go.Proofs.YtndjopkdbdcmdaaGreatDoor
section
open Go.RowKit
theorem ajR(v:V):∀(w:World) (c:Cv),In w v c →
 Calls prog 44 #[c.agg] w fun e w'=>e=.returned (.int .i64 v.most)∧Grow w w':=by
 induction v using V.ind with
 | h k n b l f hl hf =>
  intro w c hv;have HV:=aa hv;obtain⟨aB,aL,aF,cB,cL,cF,rfl,h1,h2,h3,h4,h5,h6,h7,h8,h9,hb⟩:=hv.open;have Hl:=aa hl;have Hf:=aa hf;clear hb h1 h2 h3 hl hf h4 h5 hv;go_enter func44,ntmps44;go_wp2_with fail
  all_goals
   go_loopg [3,18] (l.length+1) (fun gk m i wr=>∃j:Nat,j≤l.length∧gk+j=l.length+1∧i=.int .i64 j∧m=.int .i64 ((((l.take j).map V.most).foldl max (max l.length f.length):Nat):Int) ∧
    Grow w wr∧In wr (.mk k n b l f) ⟨k,(n:Int),aB,b.length,cB,aL,l.length,cL,aF,f.length,cF⟩∧Blk wr w.heap.size 27 (Cv.cells ⟨k,(n:Int),aB,b.length,cB,aL,l.length,cL,aF,f.length,cF⟩))
   exact⟨0,by omega,by omega,rfl,by simp;omega,(ah w).alloc _,oK HV.o ((ah w).alloc _),aD _ _ _⟩
   obtain⟨j,hj,hg,rfl,rfl,hw,hv,hB⟩:=hrel
   obtain⟨gk',rfl⟩:=bS gk (by omega)
   by_cases hlt:j<l.length
   ·obtain⟨bk,o,x,ha,hbk,e0,e1,e2,e3,e4,hx⟩:=hv.fO j hlt
    dsimp only at ha
    subst ha
    have HW:=aa hw
    have HX:=aa hx
    have py:=aa hv
    have HB:=aa hB
    have hm:=C6 V.most l (max l.length f.length) j hlt
    have HM:=aa hm
    clear hw hx hv hB hm
    go_wp2_with fail
    refine(Hl.o _ (aW hlt) _ x (HX.o.grow ((ah wr).alloc _))).mono ?_
    rintro e w' ⟨rfl,hb'⟩
    have hgr:Hid (Grow wr w'):=((ah wr).alloc _).trans hb'
    clear hb' e0 e1 e2 e3 e4
    go_wp2_with fail
    all_goals
     go_roundg gk'
     exact⟨j+1,by omega,by omega,by go_num,by rw[HM.o];go_num,HW.o.trans hgr.o,py.o.grow hgr.o,HB.o.grow hgr.o⟩
     omega
   obtain rfl:j=l.length:=by omega
   have hc:=hB.cell
   have HW:=aa hw
   have py:=aa hv
   clear hw hv hB hlt hg
   go_wp2_with fail
   go_loopg [3,30] (f.length+1) (fun gk m i wr=>∃j:Nat,j≤f.length∧gk+j=f.length+1∧i=.int .i64 j∧m=.int .i64 ((((f.take j).map fun x=>x.2.most).foldl max ((l.map V.most).foldl max (max l.length f.length)):Nat):Int) ∧
    Grow w wr∧In wr (.mk k n b l f) ⟨k,(n:Int),aB,b.length,cB,aL,l.length,cL,aF,f.length,cF⟩)
   exact⟨0,by omega,by omega,rfl,by simp,HW.o,py.o⟩
   obtain⟨j,hj,hg,rfl,rfl,hw,hv⟩:=hrel
   obtain⟨gk',rfl⟩:=bS gk (by omega)
   by_cases hlt:j<f.length
   ·obtain⟨bk,o,x,ha,hbk,es,im,e0,e1,e2,e3,e4,hx⟩:=hv.iF j hlt
    dsimp only at ha
    subst ha
    have HW:=aa hw
    have HX:=aa hx
    have py:=aa hv
    have hm:=C6 (fun x:ByteArray×V=>x.2.most) f ((l.map V.most).foldl max (max l.length f.length)) j hlt
    have HM:=aa hm
    clear hw hx hv hm
    go_wp2_with fail
    refine(Hf.o _ (aW hlt) _ x (HX.o.grow ((ah wr).alloc _))).mono ?_
    rintro e w' ⟨rfl,hb'⟩
    have hgr:Hid (Grow wr w'):=((ah wr).alloc _).trans hb'
    clear hb' e0 e1 e2 e3 e4 es
    go_wp2_with fail
    all_goals
     go_roundg gk'
     exact⟨j+1,by omega,by omega,by go_num,by rw[HM.o];go_num,HW.o.trans hgr.o,py.o.grow hgr.o⟩
     omega
   obtain rfl:j=f.length:=by omega
   have HW:=aa hw
   clear hw hv hlt hg
   go_wp2_with fail
   go_ret
   exact⟨cA (by rw[V.Oc,fS]),HW.o⟩
theorem ajS(v:V)(hk:v.k≠7∧v.k≠8)(w:World)(c:Cv)(hv:In w v c) :
 Calls prog 45 #[c.agg] w fun e w'=>e=.returned (.int .i64 0)∧Grow w w':=by
 obtain⟨k,n,b,l,f⟩:=v;obtain⟨aB,aL,aF,cB,cL,cF,rfl,h1,h2,h3,h4,h5,h6,h7,h8,h9,hb⟩:=hv.open;have e7:(k != 7)=true:=by simpa [V.k] using hk.1
 have e8:(k != 8)=true:=by simpa [V.k] using hk.2
 clear hb hv hk;go_enter func45,ntmps45;go_wp2_with fail;go_ret;exact⟨rfl,(ah w).alloc _⟩
theorem ajT(v:V):∀(w:World) (c:Cv),v.formed=true→v.depth≤1099511627776→In w v c →
 Calls prog 45 #[c.agg] w fun e w'=>e=.returned (.int .i64 v.depth)∧Grow w w':=by
 induction v using V.ind with
 | h k n b l f hl hf =>
  intro w c fF rH hv;rcases rU fF with h | ⟨_,_,h⟩ | ⟨_,h⟩ | ⟨_,h⟩ | ⟨_,_,h⟩ | ⟨_,h⟩ | ⟨l',hl',h⟩ | ⟨f',hf',hnd,h⟩
  case inr.inr.inr.inr.inr.inr.inl =>
   cases h
   have ej:∀x∈l,x.depth≤1099511627776:=fun x hx=>bn (V.Od hx) rH
   rw[V.UN] at rH;have CD:=aa ej;have HV:=aa hv;obtain⟨aB,aL,aF,cB,cL,cF,rfl,h1,h2,h3,h4,h5,h6,h7,h8,h9,hb⟩:=hv.open;have Hl:=aa hl;have TN:=aa hl';clear hb h1 h2 h3 hl hf h4 h5 hv hl' fF ej;go_enter func45,ntmps45;go_wp2_with fail;go_loopg [3,19] (l.length+1) (fun gk m i wr=>∃j:Nat,j≤l.length∧gk+j=l.length+1∧i=.int .i64 j∧m=.int .i64 ((((l.take j).map V.depth).foldl max 0:Nat):Int) ∧
    Grow w wr∧In wr (.mk 7 0 [] l []) ⟨7,0,aB,0,cB,aL,l.length,cL,aF,0,cF⟩∧Blk wr w.heap.size 27 (Cv.cells ⟨7,0,aB,0,cB,aL,l.length,cL,aF,0,cF⟩))
   exact⟨0,by omega,by omega,rfl,by simp,(ah w).alloc _,oK HV.o ((ah w).alloc _),aD _ _ _⟩;obtain⟨j,hj,hg,rfl,rfl,hw,hv,hB⟩:=hrel;obtain⟨gk',rfl⟩:=bS gk (by omega);by_cases hlt:j<l.length
   ·obtain⟨bk,o,x,ha,hbk,e0,e1,e2,e3,e4,hx⟩:=hv.fO j hlt;dsimp only at ha;subst ha;have HW:=aa hw;have HX:=aa hx;have py:=aa hv;have HB:=aa hB;have hm:=C6 V.depth l 0 j hlt;have HM:=aa hm;clear hw hx hv hB hm;go_wp2_with fail;refine(Hl.o _ (aW hlt) _ x (TN.o _ (aW hlt)) (CD.o _ (aW hlt)) (HX.o.grow ((ah wr).alloc _))).mono ?_;rintro e w' ⟨rfl,hb'⟩;have hgr:Hid (Grow wr w'):=((ah wr).alloc _).trans hb';clear hb' e0 e1 e2 e3 e4;go_wp2_with fail
    all_goals
     go_roundg gk'
     exact⟨j+1,by omega,by omega,by go_num,by rw[HM.o];go_num,HW.o.trans hgr.o,py.o.grow hgr.o,HB.o.grow hgr.o⟩
     omega
   obtain rfl:j=l.length:=by omega
   have hc:=hB.cell;have HW:=aa hw;rw[fS];clear hw hv hB hlt hg;go_wp2_with fail;refine fW ?_;go_wp2_with fail;go_ret;exact⟨cA (by rw[V.UN];omega),HW.o⟩
  case inr.inr.inr.inr.inr.inr.inr =>
   cases h
   have ej:∀x∈f,x.2.depth≤1099511627776:=fun x hx=>bn (V.Oe hx) rH
   rw[V.Og] at rH;have CD:=aa ej;have HV:=aa hv;obtain⟨aB,aL,aF,cB,cL,cF,rfl,h1,h2,h3,h4,h5,h6,h7,h8,h9,hb⟩:=hv.open;have Hf:=aa hf;have TP:=aa hf';clear hb h1 h2 h3 hl hf h4 h5 hv hf' fF ej;go_enter func45,ntmps45;go_wp2_with fail;refine fW ?_;go_wp2_with fail;go_loopg [3,31] (f.length+1) (fun gk m i wr=>∃j:Nat,j≤f.length∧gk+j=f.length+1∧i=.int .i64 j∧m=.int .i64 ((((f.take j).map fun x=>x.2.depth).foldl max 0:Nat):Int) ∧
    Grow w wr∧In wr (.mk 8 0 [] [] f) ⟨8,0,aB,0,cB,aL,0,cL,aF,f.length,cF⟩)
   exact⟨0,by omega,by omega,rfl,by simp,(ah w).alloc _,oK HV.o ((ah w).alloc _)⟩;obtain⟨j,hj,hg,rfl,rfl,hw,hv⟩:=hrel;obtain⟨gk',rfl⟩:=bS gk (by omega);by_cases hlt:j<f.length
   ·obtain⟨bk,o,x,ha,hbk,es,im,e0,e1,e2,e3,e4,hx⟩:=hv.iF j hlt;dsimp only at ha;subst ha;have HW:=aa hw;have HX:=aa hx;have py:=aa hv;have hm:=C6 (fun x:ByteArray×V=>x.2.depth) f 0 j hlt;have HM:=aa hm;clear hw hx hv hm;go_wp2_with fail;refine(Hf.o _ (aW hlt) _ x (TP.o _ (aW hlt)).2 (CD.o _ (aW hlt)) (HX.o.grow ((ah wr).alloc _))).mono ?_;rintro e w' ⟨rfl,hb'⟩;have hgr:Hid (Grow wr w'):=((ah wr).alloc _).trans hb';clear hb' e0 e1 e2 e3 e4 es;go_wp2_with fail
    all_goals
     go_roundg gk'
     exact⟨j+1,by omega,by omega,by go_num,by rw[HM.o];go_num,HW.o.trans hgr.o,py.o.grow hgr.o⟩
     omega
   obtain rfl:j=f.length:=by omega
   have HW:=aa hw;rw[fS];clear hw hv hlt hg;go_wp2_with fail;go_ret;exact⟨cA (by rw[V.Og];omega),HW.o⟩
  all_goals
   cases h
   refine(ajS _ (by simp[V.k]) w c hv).mono ?_
   rintro e w' ⟨rfl,hg⟩
   exact⟨by simp[V.yS],hg⟩
end
section
open Go.RowKit
theorem ajU(v:V)(hk:v.l=[]∧v.f=[])(w:World)(c:Cv)(fF:v.formed=true)(hv:In w v c) :
 Calls prog 46 #[c.agg] w fun e w'=>e=.returned (.int .i64 (v.bytes.length:Nat))∧Grow w w':=by
 rcases rU fF with rfl | ⟨_,_,rfl⟩ | ⟨_,rfl⟩ | ⟨_,rfl⟩ | ⟨_,_,rfl⟩ | ⟨_,rfl⟩ | ⟨l',hl',rfl⟩ | ⟨f',hf',hnd,rfl⟩
 all_goals
  simp only[V.l,V.f] at hk
  obtain⟨hk1,hk2⟩:=hk
  try subst hk1
  try subst hk2
  obtain⟨aB,aL,aF,cB,cL,cF,rfl,h1,h2,h3,h4,h5,h6,h7,h8,h9,hb⟩:=hv.open
  clear hb hv fF
  go_enter func46,ntmps46
  go_wp2_with fail
  refine fW ?_
  go_wp2_with fail
  refine fW ?_
  go_wp2_with fail
  go_ret
  exact⟨cA (by rw[i7];simp[jG]<;>omega),(ah w).alloc _⟩
theorem ajV(v:V):∀(w:World) (c:Cv),v.formed=true→v.bytes.length≤4611686018427387904→In w v c →
 Calls prog 46 #[c.agg] w fun e w'=>e=.returned (.int .i64 (v.bytes.length:Nat))∧Grow w w':=by
 induction v using V.ind with
 | h k n b l f hl hf =>
  intro w c fF rH hv;rcases rU fF with h | ⟨_,_,h⟩ | ⟨_,h⟩ | ⟨_,h⟩ | ⟨_,_,h⟩ | ⟨_,h⟩ | ⟨l',hl',h⟩ | ⟨f',hf',hnd,h⟩
  case inr.inr.inr.inr.inr.inr.inl =>
   cases h
   rw[C9] at rH ⊢;simp only[aT] at rH ⊢;have ej:∀x∈l,x.bytes.length≤4611686018427387904:=fun x hx=>bn (UK V.bytes l x hx) (by omega)
   have CD:=aa ej;have HV:=aa hv;obtain⟨aB,aL,aF,cB,cL,cF,rfl,h1,h2,h3,h4,h5,h6,h7,h8,h9,hb⟩:=hv.open;have Hl:=aa hl;have TN:=aa hl';clear hb h1 h2 h3 hl hf h4 h5 hv hl' fF ej;go_enter func46,ntmps46;go_wp2_with fail;go_loopg [3,36] (l.length+1) (fun gk m i wr=>∃j:Nat,j≤l.length∧gk+j=l.length+1∧i=.int .i64 j∧m=.int .i64 ((((l.take j).map V.bytes).flatten.length+2:Nat):Int) ∧
    Grow w wr∧In wr (.mk 7 0 [] l []) ⟨7,0,aB,0,cB,aL,l.length,cL,aF,0,cF⟩∧Blk wr w.heap.size 27 (Cv.cells ⟨7,0,aB,0,cB,aL,l.length,cL,aF,0,cF⟩))
   exact⟨0,by omega,by omega,rfl,by simp,(ah w).alloc _,oK HV.o ((ah w).alloc _),aD _ _ _⟩;obtain⟨j,hj,hg,rfl,rfl,hw,hv,hB⟩:=hrel;obtain⟨gk',rfl⟩:=bS gk (by omega);by_cases hlt:j<l.length
   ·obtain⟨bk,o,x,ha,hbk,e0,e1,e2,e3,e4,hx⟩:=hv.fO j hlt;dsimp only at ha;subst ha;have HW:=aa hw;have HX:=aa hx;have py:=aa hv;have HB:=aa hB;have hm:=cT List.length (yQ V.bytes l j hlt);rw[bG] at hm;have hle:=yR V.bytes l (j+1);rw[hm] at hle;have HM:=aa hm;obtain⟨S,hS⟩:∃S,S=((l.take j).map V.bytes).flatten.length:=⟨_,rfl⟩;rw[← hS] at hle ⊢;have HS:=aa hS;clear hw hx hv hB hm hS;go_wp2_with fail;refine(Hl.o _ (aW hlt) _ x (TN.o _ (aW hlt)) (CD.o _ (aW hlt)) (HX.o.grow ((ah wr).alloc _))).mono ?_;rintro e w' ⟨rfl,hb'⟩;have hgr:Hid (Grow wr w'):=((ah wr).alloc _).trans hb';clear hb' e0 e1 e2 e3 e4;go_wp2_with fail;go_roundg gk'
    exact⟨j+1,by omega,by omega,by go_num,by rw[HM.o,← HS.o];go_num,HW.o.trans hgr.o,py.o.grow hgr.o,HB.o.grow hgr.o⟩;omega
   obtain rfl:j=l.length:=by omega
   have hc:=hB.cell;have HW:=aa hw;rw[fS];clear hw hv hB hlt hg;go_wp2_with fail;refine fW ?_;go_wp2_with fail;go_ret;exact⟨cA (by omega),HW.o⟩
  case inr.inr.inr.inr.inr.inr.inr =>
   cases h
   rw[AK] at rH ⊢;simp only[aT] at rH ⊢;have ej:∀x∈f,(V.item x.1 x.2.bytes).length≤4611686018427387904:=fun x hx=>bn (UK (fun x:ByteArray×V=>V.item x.1 x.2.bytes) f x hx) (by omega)
   have CD:=aa ej;have HV:=aa hv;obtain⟨aB,aL,aF,cB,cL,cF,rfl,h1,h2,h3,h4,h5,h6,h7,h8,h9,hb⟩:=hv.open;have Hf:=aa hf;have TP:=aa hf';clear hb h1 h2 h3 hl hf h4 h5 hv hf' fF ej;go_enter func46,ntmps46;go_wp2_with fail;refine fW ?_;go_wp2_with fail;go_loopg [3,48] (f.length+1) (fun gk m i wr=>∃j:Nat,j≤f.length∧gk+j=f.length+1∧i=.int .i64 j∧m=.int .i64 ((((f.take j).map fun x=>V.item x.1 x.2.bytes).flatten.length+2:Nat):Int) ∧
    Grow w wr∧In wr (.mk 8 0 [] [] f) ⟨8,0,aB,0,cB,aL,0,cL,aF,f.length,cF⟩)
   exact⟨0,by omega,by omega,rfl,by simp,(ah w).alloc _,oK HV.o ((ah w).alloc _)⟩;obtain⟨j,hj,hg,rfl,rfl,hw,hv⟩:=hrel;obtain⟨gk',rfl⟩:=bS gk (by omega);by_cases hlt:j<f.length
   ·obtain⟨bk,o,x,ha,hbk,es,im,e0,e1,e2,e3,e4,hx⟩:=hv.iF j hlt;dsimp only at ha;subst ha;have HW:=aa hw;have HX:=aa hx;have py:=aa hv;have hm:=cT List.length (yQ (fun x:ByteArray×V=>V.item x.1 x.2.bytes) f j hlt);rw[bG,C_] at hm;have hle:=yR (fun x:ByteArray×V=>V.item x.1 x.2.bytes) f (j+1);rw[hm] at hle;have HM:=aa hm;have hit:=CD.o _ (aW hlt);rw[C_] at hit;obtain⟨S,hS⟩:∃S,S=((f.take j).map fun x:ByteArray×V=>V.item x.1 x.2.bytes).flatten.length:=⟨_,rfl⟩;rw[← hS] at hle ⊢;have HS:=aa hS;clear hw hx hv hm hS;go_wp2_with fail
    go_region_with (go_at_call 46;refine(Hf.o _ (aW hlt) _ x (TP.o _ (aW hlt)).2 (by omega) (HX.o.grow (((ah wr).alloc _).drew))).mono ?_;rintro e w' ⟨rfl,hb'⟩;have hcq:=(Blk.grow (Blk.drew (aD wr _ _)) hb').cell)
    all_goals
     have hgr:Hid (Grow wr w'):=(((ah wr).alloc _).drew).trans hb'
     clear hb' hcq
     go_wp2_with fail
     go_roundg gk'
     exact⟨j+1,by omega,by omega,by go_num,by rw[HM.o,← HS.o];go_num,HW.o.trans hgr.o,py.o.grow hgr.o⟩
     omega
   obtain rfl:j=f.length:=by omega
   have HW:=aa hw;rw[fS];clear hw hv hlt hg;go_wp2_with fail;go_ret;exact⟨cA (by omega),HW.o⟩
  all_goals
   cases h
   exact ajU _ ⟨rfl,rfl⟩ w c fF hv
end
section
open Go.RowKit
theorem Ha(n:Nat):(((UInt8.ofNat n).toNat:Nat):Int)=(n:Int) % 256:=by rw[Au];simp
theorem ajW{w:World}(s:ByteArray):Src prog 1 9 (.string s) s.data.toList.length (bT s.data.toList) w:=Src.ofString w qz s
end
end Go.Proofs.YtndjopkdbdcmdaaGreatDoor
namespace Go.Proofs
open Go.Shelf
def ajX:Go.Shelf.Ren:=⟨fun | 146=>47 | 221=>90 | 268=>133 | 138=>134 | 143=>135 | 195=>176 | 197=>177 | 218=>178 | 219=>179 | 260=>199 | 217=>200 | 225=>201 | 224=>202 | 267=>203 | 266=>212 | 314=>213 | n=>n,fun | 9=>9 | 31=>103 | 3=>3 | 4=>4 | 0=>0 | 105=>212 | 21=>21 | 5=>5 | 46=>180 | 119=>176 | 139=>179 | 138=>178 | 146=>232 | 51=>231 | n=>n,fun | 1=>2 | 3=>0 | 4=>1 | n=>n⟩
theorem Pz:Go.Proofs.LaysM.n146 prog ajX:={
 mixed:=by kernel_rfl
 f138:=func134.trans (congrArg some (by kernel_rfl))
 f143:=func135.trans (congrArg some (by kernel_rfl))
 f146:=func47.trans (congrArg some (by kernel_rfl))
 f195:=func176.trans (congrArg some (by kernel_rfl))
 f197:=func177.trans (congrArg some (by kernel_rfl))
 f217:=func200.trans (congrArg some (by kernel_rfl))
 f218:=func178.trans (congrArg some (by kernel_rfl))
 f219:=func179.trans (congrArg some (by kernel_rfl))
 f221:=func90.trans (congrArg some (by kernel_rfl))
 f224:=func202.trans (congrArg some (by kernel_rfl))
 f225:=func201.trans (congrArg some (by kernel_rfl))
 f260:=func199.trans (congrArg some (by kernel_rfl))
 f266:=func212.trans (congrArg some (by kernel_rfl))
 f267:=func203.trans (congrArg some (by kernel_rfl))
 f268:=func133.trans (congrArg some (by kernel_rfl))
 f314:=func213.trans (congrArg some (by kernel_rfl))
 t0:=underlying0
 a0:=isAgg0
 z0:=sizeOf0
 v0:=zeroValue0
 t3:=underlying3
 a3:=isAgg3
 z3:=sizeOf3
 v3:=zeroValue3
 t4:=underlying4
 a4:=isAgg4
 z4:=sizeOf4
 v4:=zeroValue4
 t5:=underlying5
 a5:=isAgg5
 z5:=sizeOf5
 v5:=zeroValue5
 t9:=underlying9
 a9:=isAgg9
 z9:=sizeOf9
 v9:=zeroValue9
 t21:=underlying21
 a21:=isAgg21
 z21:=sizeOf21
 v21:=zeroValue21
 t31:=underlying103
 a31:=isAgg103
 z31:=sizeOf103
 v31:=zeroValue103
 t46:=underlying180
 a46:=isAgg180
 z46:=sizeOf180
 v46:=zeroValue180
 t51:=underlying231
 a51:=isAgg231
 z51:=sizeOf231
 v51:=zeroValue231
 t105:=underlying212
 a105:=isAgg212
 z105:=sizeOf212
 v105:=zeroValue212
 t119:=underlying176
 a119:=isAgg176
 z119:=sizeOf176
 t138:=underlying178
 a138:=isAgg178
 z138:=sizeOf178
 v138:=zeroValue178
 t139:=underlying179
 a139:=isAgg179
 z139:=sizeOf179
 v139:=zeroValue179
 t146:=underlying232
 a146:=isAgg232
 z146:=sizeOf232
 v146:=zeroValue232
 g1:=by kernel_rfl
 g3:=by kernel_rfl
 g4:=by kernel_rfl
 i0:=by kernel_rfl
 i3:=by kernel_rfl
 i4:=by kernel_rfl
 i5:=by kernel_rfl
 i9:=by kernel_rfl
 i21:=by kernel_rfl
 i31:=by kernel_rfl
 i46:=by kernel_rfl
 i51:=by kernel_rfl
 i105:=by kernel_rfl
 i138:=by kernel_rfl
 i139:=by kernel_rfl
 i146:=by kernel_rfl
 m1:=by kernel_rfl
 s1_3:=fun w h=>Go.Proofs.cell_of_shapedOpen_int (zero:=#[.int .i64 0]) (t:=3) h (of_decide_eq_true (by kernel_rfl)) (by kernel_rfl) rfl (by kernel_rfl) (by kernel_rfl) underlying3
 m3:=by kernel_rfl
 m4:=by kernel_rfl }
end Go.Proofs
namespace Go.Proofs.YtndjopkdbdcmdaaGreatDoor


end Go.Proofs.YtndjopkdbdcmdaaGreatDoor
namespace Go.Proofs
open Go.Shelf
end Go.Proofs
namespace Go.Proofs.YtndjopkdbdcmdaaGreatDoor


section
open Go.Shelf Go.RowKit Go.Lib Go.Sort
def cQ(a b:List UInt8):Bool:=decide (Lib.compareBytes a b<0)
theorem JM(a:List UInt8):cQ a []=false:=by cases a<;>simp[cQ,Lib.compareBytes]
theorem TQ(x:UInt8)(a:List UInt8):cQ [] (x::a)=true:=by simp[cQ,Lib.compareBytes]
theorem TR(x y:UInt8)(a b:List UInt8):cQ (x::a) (y::b)=(decide (x<y)||(x==y&&cQ a b)):=by
 unfold cQ;rw[Lib.compareBytes];by_cases h1:x<y
 ·simp[h1]
 by_cases h2:x=y
 ·subst h2;simp[h1]
 have h3:y<x:=by
  rcases FA x.toNat y.toNat with h | h | h
  ·exact absurd (AJ.2 h) h1
  ·exact absurd (tF.1 h) h2
  exact AJ.2 h
 simp[h1,h2,h3]
theorem xG:∀a:List UInt8,cQ a a=false
 | []=>JM []
 | x::a=>by rw[TR,xG a];simp
theorem xE:∀a b c:List UInt8,cQ a b=true→cQ b c=true→cQ a c=true
 | [],[],c,h,k=>by rw[JM] at h;cases h
 | [],y::b,[],h,k=>by rw[JM] at k;cases k
 | [],y::b,z::c,h,k=>TQ z c
 | x::a,[],c,h,k=>by rw[JM] at h;cases h
 | x::a,y::b,[],h,k=>by rw[JM] at k;cases k
 | x::a,y::b,z::c,h,k=>by
  rw[TR] at h k ⊢;simp only[J7,iC,il,Fj] at h k ⊢;rcases h with h | ⟨rfl,h⟩
  ·rcases k with k | ⟨rfl,k⟩
   ·exact .inl (UInt8.lt_trans h k)
   exact .inl h
  rcases k with k | ⟨rfl,k⟩
  ·exact .inl k
  exact .inr ⟨rfl,xE a b c h k⟩
theorem GZ:∀a b:List UInt8,cQ a b=false→cQ b a=false→a=b
 | [],[],h,k=>rfl
 | [],y::b,h,k=>by rw[TQ] at h;cases h
 | x::a,[],h,k=>by rw[TQ] at k;cases k
 | x::a,y::b,h,k=>by
  rw[TR] at h k;simp only[lF,j4,lD,tJ] at h k;have hxy:x=y:=by
   rcases FA x.toNat y.toNat with h' | h' | h'
   ·exact absurd (AJ.2 h') h.1
   ·exact tF.1 h'
   exact absurd (AJ.2 h') k.1
  subst hxy;rw[GZ a b (by rcases h.2 with h' | h';exact absurd rfl h';exact h') (by rcases k.2 with h' | h';exact absurd rfl h';exact h')]
theorem adM:SWO cQ where
 irrefl:=xG
 trans:=xE
 ntrans:=fun x y z h k=>by
  cases hc:cQ x z with
  | false=>rfl
  | true =>
   cases h1:cQ y x with
   | false=>rw[GZ x y h h1] at hc;rw[hc] at k;cases k
   | true=>have:=xE _ _ _ h1 hc;rw[this] at k;cases k
end
section
open Go.RowKit
section
variable {P:Program}
theorem Ah(w:World)(dT sT ty elem:TypeId)(z g o dLen dCap:Nat)(a:Addr)(sLen sCap:Nat)(cs:List Value)
 (hu:P.underlying dT=some (.slice elem)) (hs:(P.info? elem).map (·.size)=some z) (hn:cs.length=Nat.min sLen dLen*z)
 (hsrc:∀j v,cs[j]?=some v→w.cell? (a.add j)=some v) (hc:∀j,j<cs.length→(w.cell? ⟨g,o+j,none⟩).isSome=true) (hf:∀j,j<cs.length→w.frozen? ⟨g,o+j,none⟩=false) (h1:∀v∈cs,v.oneCell'=true) :
 (Builtin.copy_ #[dT,sT] ty #[.slice (some ⟨g,o,none⟩) dLen dCap,.slice (some a) sLen sCap]).run P w=.ok (goInt (Nat.min sLen dLen)) (w.setCells g o cs):=by
 have hl:=run_loadCells_list (P:=P) w a cs hsrc;have hst:=run_storeCells_cells (P:=P) g o cs 0 w (by simpa using hc) (by simpa using hf) h1;simp only[gf] at hst
 cases hq:P.info? elem with
 | none=>simp[hq] at hs
 | some i =>
  have hi:i.size=z:=by simpa [hq] using hs
  simp[Builtin.copy_,wX hu,Builtin.lenOf,Builtin.firstCells,sizeOf,typeInfo,hq,hi,← hn,hl,hst]
end
theorem kL{w:World}{base z n c:Nat}{T:TypeId}{A:Option Addr}{xs:List Value}(h:w.ownsRow base T z (.slice A n c) n xs)(hn:0<n) :
 ∃g cur,A=some ⟨g,0,none⟩∧base≤g∧w.heap[g]?=some (.cells cur T (0,0))∧n≤c∧c≤maxLen∧cur.size=c*z∧cur.toList.take (n*z)=xs∧xs.length=n*z:=by
 obtain⟨hl,h0 | ⟨g,cap,cur,hv,hb,hg,hnc,hcm,hcs,ht⟩⟩:=h
 ·omega
 injection hv with h1 _ h3;subst h1 h3;exact⟨g,cur,rfl,hb,hg,hnc,hcm,hcs,ht,hl⟩
theorem jM{w:World}{g:Nat}{T:TypeId}{cur:Array Value}(hg:w.heap[g]?=some (.cells cur T (0,0)))(j:Nat)(hj:j<cur.size):(w.cell? ⟨g,j,none⟩).isSome=true∧w.frozen? ⟨g,j,none⟩=false:=by
 constructor
 ·rw[vD w g j cur T (0,0) hg,Array.getElem?_eq_getElem hj];rfl
 simp[World.frozen?,hg]
theorem zr{w:World}{g z n:Nat}{T:TypeId}{cur:Array Value}{xs:List Value}(hg:w.heap[g]?=some (.cells cur T (0,0)))(ht:cur.toList.take (n*z)=xs)(j:Nat)(v:Value)(hj:xs[j]?=some v):w.cell? ⟨g,j,none⟩=some v:=by
 rw[vD w g j cur T (0,0) hg,← pH];rw[← ht,FI] at hj;split at hj
 ·exact hj
 cases hj
theorem K8{w:World}{base z n c g:Nat}{T:TypeId}{cur:Array Value}{xs:List Value}(hb:base≤g)(hg:w.heap[g]?=some (.cells cur T (0,0)))(hnc:n≤c)(hcm:c≤maxLen)(hcs:cur.size=c*z)(ht:cur.toList.take (n*z)=xs)(hl:xs.length=n*z):w.ownsRow base T z (.slice (some ⟨g,0,none⟩) n c) n xs:=
 ⟨hl,.inr ⟨g,c,cur,rfl,hb,hg,hnc,hcm,hcs,ht⟩⟩
theorem xH{w:World}{g o:Nat}{T:TypeId}{cur:Array Value}(hg:w.heap[g]?=some (.cells cur T (0,0)))(vs:List Value)(h:o+vs.length≤cur.size) :
 ∃cur':Array Value,(w.setCells g o vs).heap[g]?=some (.cells cur' T (0,0))∧cur'.size=cur.size∧cur'.toList=cur.toList.take o++vs++cur.toList.drop (o+vs.length):=
 ⟨_,N_ g T vs w o cur hg h,by simp;omega,by simp⟩
theorem aa8{α:Type}(l vs r:List α)(o k:Nat)(ho:o≤l.length)(hk:k=o+vs.length):(l.take o++vs++r).take k=l.take o++vs:=by
 rw[FJ];simp;omega
theorem aa9{w:World}{base z n c g:Nat}{T:TypeId}{xs vs:List Value}(h:w.ownsRow base T z (.slice (some ⟨g,0,none⟩) n c) n xs)(i:Nat)(hi:i<n)(hroom:n+1≤c)(hz:vs.length=z) :
 ((w.setCells g ((i+1)*z) (xs.drop (i*z))).setCells g (i*z) vs).ownsRow base T z (.slice (some ⟨g,0,none⟩) (n+1) c) (n+1) (xs.take (i*z)++vs++xs.drop (i*z)):=by
 obtain⟨g',cur,hA,hb,hg,hnc,hcm,hcs,ht,hl⟩:=kL h (by omega);injection hA with hA;injection hA with hA _;subst hA;have h1:(i+1)*z≤n*z:=iB _ hi;have h2:(n+1)*z≤c*z:=iB _ hroom;have h3:(i+1)*z=i*z+z:=by rw[mn,rO]
 have h4:(n+1)*z=n*z+z:=by rw[mn,rO]
 have hd:(xs.drop (i*z)).length=n*z-i*z:=by rw[iM,hl]
 obtain⟨c1,hg1,hs1,e1⟩:=xH (o:=(i+1)*z) hg (xs.drop (i*z)) (by rw[hd];omega);obtain⟨c2,hg2,hs2,e2⟩:=xH (o:=i*z) hg1 vs (by rw[hz,hs1,hcs];omega);have hcl:cur.toList.length=c*z:=by simpa using hcs
 have ES:cur.toList.take (i*z)=xs.take (i*z):=by rw[← ht,Ks,qu (by omega)]
 have hc1:c1.toList.take (i*z)=xs.take (i*z):=by
  rw[e1,nQ,FK (by rw[dS];omega),Ks,qu (by omega),ES]
 have ajY:(c1.toList.drop (i*z+z)).take (n*z-i*z)=xs.drop (i*z):=by
  rw[e1,← h3,nQ,List.drop_left' (by rw[dS];omega),FJ hd]
 refine K8 hb hg2 hroom hcm (by rw[hs2,hs1,hcs]) ?_ ?_
 ·rw[e2,hz,hc1];have hl2:(xs.take (i*z)++vs).length=i*z+z:=by rw[bG,dS,hz];omega
  rw[h4,show n*z+z=(i*z+z)+(n*z-i*z) by omega,← hl2,List.take_length_add_append,hl2,ajY]
 rw[bG,bG,dS,hz,hd];omega
theorem aa_{w:World}{base z n i G N:Nat}{T:TypeId}{ROW:Array Value}{xs vs:List Value}(hN:w.heap[N]?=some (.cells ROW T (0,0)))(hb:base≤N)(hs:ROW.size=G*z)(ht:ROW.toList.take (i*z)=xs.take (i*z))(hl:xs.length=n*z)(hz:vs.length=z)(hi:i<n)(hG:n+1≤G)(yB:G≤maxLen) :
 ((w.setCells N (i*z) vs).drew.setCells N ((i+1)*z) (xs.drop (i*z))).ownsRow base T z (.slice (some ⟨N,0,none⟩) (n+1) G) (n+1) (xs.take (i*z)++vs++xs.drop (i*z)):=by
 have h1:(i+1)*z≤n*z:=iB _ hi;have h2:(n+1)*z≤G*z:=iB _ hG;have h3:(i+1)*z=i*z+z:=by rw[mn,rO]
 have h4:(n+1)*z=n*z+z:=by rw[mn,rO]
 have hd:(xs.drop (i*z)).length=n*z-i*z:=by rw[iM,hl]
 obtain⟨c1,hg1,hs1,e1⟩:=xH (o:=i*z) hN vs (by rw[hz,hs];omega);obtain⟨c2,hg2,hs2,e2⟩:=xH (w:=(w.setCells N (i*z) vs).drew) (o:=(i+1)*z) hg1 (xs.drop (i*z)) (by rw[hd,hs1,hs];omega);have hcl:ROW.toList.length=G*z:=by simpa using hs
 have hc1:c1.toList.take ((i+1)*z)=xs.take (i*z)++vs:=by
  rw[e1,aa8 _ _ _ _ _ (by omega) (by omega),ht]
 refine K8 hb hg2 hG yB (by rw[hs2,hs1,hs]) ?_ ?_
 ·rw[e2,aa8 _ _ _ _ _ (by rw[yJ,hs1,hs];omega) (by rw[hd];omega),hc1]
 rw[bG,bG,dS,hz,hd];omega
end
section
open Go.RowKit Go.Shelf
theorem Nu{w w':World}{r:Option Nat}(h:w.drew.grownBy w' r):w.grownBy w' r:=⟨h.os,h.tape,h.output,h.size,h.block⟩
theorem TS{A:Option Addr}{m n c:Nat}(h:m=n):Ending.returned (.slice A m c)=.returned (.slice A n c):=by rw[h]
theorem mL:prog.underlying 42=some (.slice 48):=by kernel_rfl
theorem He:(prog.info? 48).map (fun i=>(i.zero,i.size,i.bytes))=some (some (.agg #[.string ⟨#[]⟩,.slice none 0 0,.slice none 0 0]),3,64):=by kernel_rfl
theorem aip(n:Nat)(A:Option Addr)(cap:Nat)(news:List Value)(w:World)(hr:Reads (bK w 0 w.heap.size) 3 A n news)(h1:∀u∈news,u.oneCell'=true)(hn:n≤1000000000000) :
 Calls prog 38 #[.slice A n cap] w fun e w'=>∃A' c',e=.returned (.slice A' n c')∧w'.ownsRow w.heap.size 48 3 (.slice A' n c') n news∧Grow w w':=by
 rcases A with _ | a
 ·have h0:n=0:=by
   rcases Aq n with h | h
   ·exact h
   obtain⟨bk,o,e,_⟩:=hr.2 h;cases e
  subst h0;have hx:news=[]:=lC (by simpa using hr.1);subst hx;have he:=fun w=>Lib.run_eql_slice_nil (P:=prog) w 42 48 none 0 cap 0 0 mL
  go_enter func38,ntmps38;go_wp2_with fail;go_ret;exact⟨none,0,rfl,iY _ _ _ _,ah w⟩
 obtain⟨i0,hi0,hz0,hz1,hz2⟩:=info_parts He;have gU:=aa hi0;have gV:=aa hz0;have gW:=aa hz1;have gX:=aa hz2;have HS:=aa (fe (P:=prog) (c:=cap) mL (eX (fk ((ah w).alloc (.cells #[] 48)).below (ay _) (ay _) (ay _)) hr) h1);have he:=fun w=>Lib.run_eql_slice_nil (P:=prog) w 42 48 (some a) n cap 0 0 mL
 clear hr h1 hi0 hz0 hz1 hz2;go_enter func38,ntmps38;go_wp2_with (at_builtin;refine xg rfl (.tmp 5) (.tmp 6) 42 42 rfl w.heap.size 48 i0 _ 3 64 mL gU.o gV.o gW.o gX.o rfl (.slice (some ⟨w.heap.size,0,none⟩) 0 0) 0 [] rfl (tE w #[] 0 (ay _) (by simp[maxLen]) rfl) _ n news rfl HS.o (by omega) (by simp only[maxLen];omega) (by simp) ?_;intro A3 c3 w3 gP qi vk;rw[dY,pE] at gP;have iA:=aa gP;have aP:=aa (((ah w).alloc (.cells #[] 48)).grown qi (fun k hk=>by have hk2:w.heap.size=k:=(by simpa [Value.ownBlock] using hk);omega));clear gP qi vk);go_ret;exact⟨A3,c3,TS (by omega),iA.o,aP.o⟩
theorem uA:prog.underlying 46=some (.slice 64):=by kernel_rfl
theorem Qf:(prog.info? 64).map (fun i=>(i.zero,i.size,i.bytes))=some (some (.agg #[.string ⟨#[]⟩,.string ⟨#[]⟩,.bool false]),3,40):=by kernel_rfl
theorem aiq(n:Nat)(A:Option Addr)(cap:Nat)(news:List Value)(w:World)(hr:Reads (bK w 0 w.heap.size) 3 A n news)(h1:∀u∈news,u.oneCell'=true)(hn:n≤1000000000000) :
 Calls prog 40 #[.slice A n cap] w fun e w'=>∃A' c',e=.returned (.slice A' n c')∧w'.ownsRow w.heap.size 64 3 (.slice A' n c') n news∧Grow w w':=by
 rcases A with _ | a
 ·have h0:n=0:=by
   rcases Aq n with h | h
   ·exact h
   obtain⟨bk,o,e,_⟩:=hr.2 h;cases e
  subst h0;have hx:news=[]:=lC (by simpa using hr.1);subst hx;have he:=fun w=>Lib.run_eql_slice_nil (P:=prog) w 46 64 none 0 cap 0 0 uA
  go_enter func40,ntmps40;go_wp2_with fail;go_ret;exact⟨none,0,rfl,iY _ _ _ _,ah w⟩
 obtain⟨i0,hi0,hz0,hz1,hz2⟩:=info_parts Qf;have gU:=aa hi0;have gV:=aa hz0;have gW:=aa hz1;have gX:=aa hz2;have HS:=aa (fe (P:=prog) (c:=cap) uA (eX (fk ((ah w).alloc (.cells #[] 64)).below (ay _) (ay _) (ay _)) hr) h1);have he:=fun w=>Lib.run_eql_slice_nil (P:=prog) w 46 64 (some a) n cap 0 0 uA
 clear hr h1 hi0 hz0 hz1 hz2;go_enter func40,ntmps40;go_wp2_with (at_builtin;refine xg rfl (.tmp 5) (.tmp 6) 46 46 rfl w.heap.size 64 i0 _ 3 40 uA gU.o gV.o gW.o gX.o rfl (.slice (some ⟨w.heap.size,0,none⟩) 0 0) 0 [] rfl (tE w #[] 0 (ay _) (by simp[maxLen]) rfl) _ n news rfl HS.o (by omega) (by simp only[maxLen];omega) (by simp) ?_;intro A3 c3 w3 gP qi vk;rw[dY,pE] at gP;have iA:=aa gP;have aP:=aa (((ah w).alloc (.cells #[] 64)).grown qi (fun k hk=>by have hk2:w.heap.size=k:=(by simpa [Value.ownBlock] using hk);omega));clear gP qi vk);go_ret;exact⟨A3,c3,TS (by omega),iA.o,aP.o⟩
theorem tA:prog.underlying 24=some (.slice 27):=by kernel_rfl
theorem TT:(prog.info? 27).map (fun i=>(i.zero,i.size,i.bytes))=some (some (.agg #[.int .i64 0,.int .u64 0,.slice none 0 0,.slice none 0 0,.slice none 0 0]),5,88):=by kernel_rfl
theorem Yw(n:Nat)(A:Option Addr)(cap:Nat)(news:List Value)(w:World)(hr:Reads (bK w 0 w.heap.size) 5 A n news)(h1:∀u∈news,u.oneCell'=true)(hn:n≤1000000000000) :
 Calls prog 39 #[.slice A n cap] w fun e w'=>∃A' c',e=.returned (.slice A' n c')∧w'.ownsRow w.heap.size 27 5 (.slice A' n c') n news∧Grow w w':=by
 rcases A with _ | a
 ·have h0:n=0:=by
   rcases Aq n with h | h
   ·exact h
   obtain⟨bk,o,e,_⟩:=hr.2 h;cases e
  subst h0;have hx:news=[]:=lC (by simpa using hr.1);subst hx;have he:=fun w=>Lib.run_eql_slice_nil (P:=prog) w 24 27 none 0 cap 0 0 tA
  go_enter func39,ntmps39;go_wp2_with fail;go_ret;exact⟨none,0,rfl,iY _ _ _ _,ah w⟩
 obtain⟨i0,hi0,hz0,hz1,hz2⟩:=info_parts TT;have gU:=aa hi0;have gV:=aa hz0;have gW:=aa hz1;have gX:=aa hz2;have HS:=aa (fe (P:=prog) (c:=cap) tA (eX (fk ((ah w).alloc (.cells #[] 27)).below (ay _) (ay _) (ay _)) hr) h1);have he:=fun w=>Lib.run_eql_slice_nil (P:=prog) w 24 27 (some a) n cap 0 0 tA
 clear hr h1 hi0 hz0 hz1 hz2;go_enter func39,ntmps39;go_wp2_with (at_builtin;refine xg rfl (.tmp 5) (.tmp 6) 24 24 rfl w.heap.size 27 i0 _ 5 88 tA gU.o gV.o gW.o gX.o rfl (.slice (some ⟨w.heap.size,0,none⟩) 0 0) 0 [] rfl (tE w #[] 0 (ay _) (by simp[maxLen]) rfl) _ n news rfl HS.o (by omega) (by simp only[maxLen];omega) (by simp) ?_;intro A3 c3 w3 gP qi vk;rw[dY,pE] at gP;have iA:=aa gP;have aP:=aa (((ah w).alloc (.cells #[] 27)).grown qi (fun k hk=>by have hk2:w.heap.size=k:=(by simpa [Value.ownBlock] using hk);omega));clear gP qi vk);go_ret;exact⟨A3,c3,TS (by omega),iA.o,aP.o⟩
end
section
open Go.RowKit Go.Shelf
theorem ajZ(base n c vb:Nat)(A:Option Addr)(xs vs:List Value)(w:World)(Tv:TypeId)(jr:∀u∈vs,u.oneCell'=true)(hown:w.ownsRow base 48 3 (.slice A n c) n xs)(hn:n≤1000000000)(hz:vs.length=3)
 (hv:w.heap[vb]?=some (.cells vs.toArray Tv (0,0))) (hbase:base≤w.heap.size) :
 Calls prog 116 #[.slice A n c,.int .i64 n,.slice (some ⟨vb,0,none⟩) 1 1] w fun e w'=>∃A' c',e=.returned (.slice A' (n+1:Nat) c')∧w'.ownsRow base 48 3 (.slice A' (n+1) c') (n+1) (xs++vs)∧w.grownBy w' (Value.ownBlock (.slice A n c)) ∧
  (Value.ownBlock (.slice A' (n+1) c')=Value.ownBlock (.slice A n c)∨Value.ownBlock (.slice A' (n+1) c')=some w.heap.size):=by
 have hc:c≤maxLen:=by
  obtain⟨-,⟨hq,-,-⟩ | ⟨g,cap,cur,hq,-,-,-,hcm,-⟩⟩:=hown
  ·injection hq with _ _ h3;rw[h3];exact ba _
  injection hq with _ _ h3;rw[h3];exact hcm
 have hc2:n≤c:=by
  obtain⟨-,⟨hq,-,-⟩ | ⟨g,cap,cur,hq,-,-,hnc,-,-⟩⟩:=hown
  ·injection hq with _ h2 _;rw[h2];exact ba _
  injection hq with _ _ h3;rw[h3];exact hnc
 have hcc:c≤9223372036854775807:=by unfold maxLen at hc;omega
 clear hc;obtain⟨i0,hi0,hz0,hz1,hz2⟩:=info_parts He;have gU:=aa hi0;have gV:=aa hz0;have gW:=aa hz1;have gX:=aa hz2;have HS:=aa (Src.ofSlice (P:=prog) (size:=3) w mL ⟨vb,0,none⟩ 1 1 vs (by omega) (fun j u hu=>by rw[add_lit,vD w vb _ _ Tv (0,0) hv];simpa using hu) jr);have HO:=aa hown;clear hi0 hz0 hz1 hz2 hown hv jr;rcases Decidable.em (c=n) with hcn | hcn
 case' inl=>replace hcn:=hcn.symm;subst hcn
 all_goals
  go_enter func116,ntmps116
  go_wp2_with (at_builtin;refine xg rfl (.tmp 23) (.tmp 24) 42 42 rfl base 48 i0 _ 3 64 mL gU.o gV.o gW.o gX.o rfl (.slice A n _) n xs rfl HO.o _ 1 vs rfl HS.o (by omega) (by simp only[maxLen];omega) hbase ?_;intro A3 c3 w3 gP qi vk;have iA:=aa gP;have aP:=aa qi;have Cs:=aa vk;clear gP qi vk)
  all_goals
   go_ret
   exact⟨A3,c3,rfl,iA.o,aP.o,Cs.o⟩
theorem aj0(base n i c vb g:Nat)(xs vs:List Value)(w:World)(Tv:TypeId)(h1:∀u∈xs,u.oneCell'=true)(jr:∀u∈vs,u.oneCell'=true)(hown:w.ownsRow base 48 3 (.slice (some ⟨g,0,none⟩) n c) n xs)(hi:i<n)(hn:n≤1000000000)(hroom:n+1≤c)(hz:vs.length=3)
 (hv:w.heap[vb]?=some (.cells vs.toArray Tv (0,0))) (hvb:vb≠g) :
 Calls prog 116 #[.slice (some ⟨g,0,none⟩) n c,.int .i64 i,.slice (some ⟨vb,0,none⟩) 1 1] w fun e w'=>e=.returned (.slice (some ⟨g,0,none⟩) (n+1:Nat) c)∧w'.ownsRow base 48 3 (.slice (some ⟨g,0,none⟩) (n+1) c) (n+1) (xs.take (i*3)++vs++xs.drop (i*3))∧w.grownBy w' (some g):=by
 obtain⟨g',cur,hA,hb,hg,hnc,hcm,hcs,ht,hl⟩:=kL hown (by omega);injection hA with hA;injection hA with hA _;subst hA;have bU:(i+1)*3≤n*3:=iB _ hi;have hm2:(n+1)*3≤c*3:=iB _ hroom;have hcm2:c≤9223372036854775807:=by unfold maxLen at hcm;omega
 have ej:(xs.drop (i*3)).length=n*3-i*3:=by rw[iM,hl]
 have hsz:(prog.info? 48).map (·.size)=some 3:=by kernel_rfl
 have hov:∀ab lb cb,(callFunc 164 #[.slice (some ⟨vb,0,none⟩) 1 1,.slice (some ⟨g,ab,none⟩) lb cb]).run prog w=.ok (.value (.bool false)) w:=fun ab lb cb=>by
  rw[run_callFunc_extern (fn:=f164) (by kernel_rfl) (by kernel_rfl) (by kernel_rfl) (by kernel_rfl) (e:=Extern.SlicesOverlaps.overlaps #[42,42] #[4]) (by kernel_rfl),
   Lib.run_overlaps_apart w 42 4 48 mL 3 (fun _=>rfl) ⟨vb,0,none⟩ ⟨g,ab,none⟩ 1 1 lb cb hvb Tv 48 vs.toArray.size cur.size (by simp[World.shape?,hv]) (by simp[World.shape?,hg]) (by rw[hcs];omega) (by simp[World.frozen?,hv]) (by simp[World.frozen?,hv])]
  rfl
 have JN:∀ty m1 m2 dc sc,m1=n-i→m2=n+1-i→(Builtin.copy_ #[42,42] ty #[.slice (some ⟨g,(i+1)*3,none⟩) m1 dc,.slice (some ⟨g,i*3,none⟩) m2 sc]).run prog w.drew=.ok (goInt (n-i:Nat)) (w.drew.setCells g ((i+1)*3) (xs.drop (i*3))):=fun ty m1 m2 dc sc bU hm2=>by
  have hmin:Nat.min m2 m1=n-i:=by show min _ _=_;omega
  have h:=Ah (P:=prog) w.drew 42 42 ty 48 3 g ((i+1)*3) m1 dc ⟨g,i*3,none⟩ m2 sc (xs.drop (i*3)) mL hsz (by rw[ej,hmin];omega)
   (fun j v hj=>by rw[add_lit];rw[wY] at hj;exact zr (w:=w.drew) hg ht _ v hj)
   (fun j hj=>(jM (w:=w.drew) hg _ (by rw[hcs];omega)).1) (fun j hj=>(jM (w:=w.drew) hg _ (by rw[hcs];omega)).2) (fun v hv=>h1 v (rQ hv))
  rw[hmin] at h;exact h
 obtain⟨W1,hW1⟩:∃W1,w.drew.setCells g ((i+1)*3) (xs.drop (i*3))=W1:=⟨_,rfl⟩;obtain⟨c1,hg1,hs1,-⟩:=xH (w:=w.drew) (o:=(i+1)*3) hg (xs.drop (i*3)) (by rw[ej,hcs];omega);have hv1:W1.heap[vb]?=some (.cells vs.toArray Tv (0,0)):=by
  rw[← hW1,(jF g _ rfl _ w.drew _).block vb (tM.1 hv).1 (by intro h;injection h with h;exact hvb h)];exact hv
 rw[hW1] at hg1;have JO:∀ty dc,(Builtin.copy_ #[42,42] ty #[.slice (some ⟨g,i*3,none⟩) (n+1-i) dc,.slice (some ⟨vb,0,none⟩) 1 1]).run prog W1=.ok (goInt (1:Nat)) (W1.setCells g (i*3) vs):=fun ty dc=>by
  have hmin:Nat.min 1 (n+1-i)=1:=by show min _ _=_;omega
  have h:=Ah (P:=prog) W1 42 42 ty 48 3 g (i*3) (n+1-i) dc ⟨vb,0,none⟩ 1 1 vs mL hsz (by rw[hz,hmin])
   (fun j v hj=>by rw[add_lit,vD W1 vb _ _ Tv (0,0) hv1];simpa using hj)
   (fun j hj=>(jM hg1 _ (by rw[hs1,hcs];omega)).1) (fun j hj=>(jM hg1 _ (by rw[hs1,hcs];omega)).2) jr
  rw[hmin] at h;exact h
 have vo:=aa (show (W1.setCells g (i*3) vs).ownsRow base 48 3 (.slice (some ⟨g,0,none⟩) (n+1) c) (n+1) (xs.take (i*3)++vs++xs.drop (i*3)) by
  rw[← hW1];exact aa9 (w:=w.drew) hown i hi hroom hz)
 have aH:=aa (show w.grownBy (W1.setCells g (i*3) vs) (some g) by
  rw[← hW1];exact Nu (World.grownBy.trans (jF g _ rfl _ w.drew _) (jF g _ rfl _ _ _)))
 have gZ:=aa JN;have aj1:∀ty dc,(Builtin.copy_ #[42,42] ty #[.slice (some ⟨g,i*3,none⟩) (n+1-i) dc,.slice (some ⟨vb,0,none⟩) 1 1]).run prog (w.drew.setCells g ((i+1)*3) (xs.drop (i*3)))=.ok (goInt (1:Nat)) ((w.drew.setCells g ((i+1)*3) (xs.drop (i*3))).setCells g (i*3) vs):=by
  rw[hW1];exact JO
 rw[← hW1] at vo aH;clear hown hg hg1 hs1 JO hv1 hW1 ht hl ej hcs hcm h1 jr bU hm2 hv JN hsz hz W1;have hz2:¬ ((i:Int)=(n:Int)):=by omega
 have hw1:IntKind.i64.wrap ((i:Int)+1)=(i:Int)+1:=by rw[lJ];omega
 have hw2:IntKind.i64.wrap ((n:Int)+1)=(n:Int)+1:=by rw[lJ];omega
 have hb1:(0:Int)≤(i:Int)+1:=by omega
 have aj2:(0:Int)≤(n:Int)+1:=by omega
 have htn:((i:Int)+1).toNat=i+1:=by omega
 have aj3:((n:Int)+1).toNat=n+1:=by omega
 have hin:i≤n:=by omega
 have hb2:¬ (c=i+1):=by omega
 have hb4:¬ (c=i):=by omega
 have cr:¬ ((c:Int)<(n:Int)+1):=by omega
 have kQ:(n:Int)+1≤(c:Int):=by omega
 have mN:(i:Int)≤(n:Int):=by omega
 have iK:(i:Int)≤(n:Int)+1:=by omega
 have gM:(i:Int)+1≤(n:Int)+1:=by omega
 have TU:i≤n+1:=by omega
 have mixed:prog.follows Departure.mixedOrders=true:=by kernel_rfl
 go_enter func116,ntmps116;go_wp2_with (simp only[hov]);go_region_law_o (refine step_copy_runI rfl _ _ 42 42 rfl _ _ (by simp[Act.eval,Act.put]) (by simp[Act.eval,Act.put]) (gZ.o _ (n-i) (n+1-i) (c-(i+1)) (c-i) rfl rfl) ?_);go_wp2_with fail;go_ret;exact⟨rfl,vo.o,aH.o⟩
theorem aj4(base n i c vb g:Nat)(xs vs:List Value)(w:World)(Tv:TypeId)(h1:∀u∈xs,u.oneCell'=true)(jr:∀u∈vs,u.oneCell'=true)(hown:w.ownsRow base 48 3 (.slice (some ⟨g,0,none⟩) n c) n xs)(hi:i<n)(hn:n≤1000000000)(hroom:c<n+1)(hz:vs.length=3)
 (hv:w.heap[vb]?=some (.cells vs.toArray Tv (0,0))) (hvb:vb≠g) (hbase:base≤w.heap.size) :
 Calls prog 116 #[.slice (some ⟨g,0,none⟩) n c,.int .i64 i,.slice (some ⟨vb,0,none⟩) 1 1] w fun e w'=>∃A' c',e=.returned (.slice A' (n+1:Nat) c')∧w'.ownsRow base 48 3 (.slice A' (n+1) c') (n+1) (xs.take (i*3)++vs++xs.drop (i*3))∧w.grownBy w' none∧Value.ownBlock (.slice A' (n+1) c')=some w.heap.size:=by
 obtain⟨g',cur,hA,hb,hg,hnc,hcm,hcs,ht,hl⟩:=kL hown (by omega);injection hA with hA;injection hA with hA _;subst hA;obtain⟨i0,hi0,hz0,hzs,hzb⟩:=info_parts He;have bU:(i+1)*3≤n*3:=iB _ hi;have hcm2:c≤9223372036854775807:=by unfold maxLen at hcm;omega
 have ej:(xs.drop (i*3)).length=n*3-i*3:=by rw[iM,hl]
 have htl:(xs.take (i*3)).length=i*3:=by rw[dS,hl];omega
 have hsz:(prog.info? 48).map (·.size)=some 3:=by kernel_rfl
 have jb:g<w.heap.size:=(tM.1 hg).1;have TV:vb<w.heap.size:=(tM.1 hv).1;have hkk:(n:Int)+1-(i:Int)=((n+1-i:Nat):Int):=by omega
 have hik:i+(n+1-i)=n+1:=by omega
 have hold:(Builtin.firstCells i0.size i (.slice (some ⟨g,0,none⟩) i c)).run prog w.drew=.ok (xs.take (i*3)).toArray w.drew:=by
  rw[hzs];exact NJ w.drew 3 i ⟨g,0,none⟩ i c (xs.take (i*3)) htl (fun j v hj=>by
   rw[add_lit,dY];rw[FI] at hj;split at hj
   ·exact zr (w:=w.drew) hg ht j v hj
   cases hj)
 have yC:∀ty,(Builtin.append_ #[42,3] ty #[.slice (some ⟨g,0,none⟩) i c,.int .i64 ((n:Int)+1-(i:Int))]).run prog w =
  .ok (.slice (some ⟨w.heap.size,0,none⟩) (n+1) (grownCap w (n+1) c 48)) (w.drew.alloc (.cells ((xs.take (i*3)).toArray++Builtin.zeroCells (Value.agg #[.string ⟨#[]⟩,.slice none 0 0,.slice none 0 0]).cells (n+1-i)++Builtin.zeroCells (Value.agg #[.string ⟨#[]⟩,.slice none 0 0,.slice none 0 0]).cells (grownCap w (n+1) c 48-(n+1))) 48)):=fun ty=>by
  have h:=Lib.run_append_grow_zeros (P:=prog) w 42 3 ty 48 i0 _ .i64 .i64 mL (by kernel_rfl) hi0 hz0 (some ⟨g,0,none⟩) i c (xs.take (i*3)) hold (n+1-i) (by omega) (by omega) (by omega) (by omega) (by rw[hzb];omega) (by rw[hzb,hik];exact J3 hroom (by omega));rw[hik] at h;rw[hkk];exact h
 obtain⟨G,hG⟩:∃G,G=grownCap w (n+1) c 48:=⟨_,rfl⟩;have TW:n+1≤G:=by rw[hG];exact grownCap_ge w _ _ _
 have yB:G≤maxLen:=by rw[hG];exact grownCap_le_maxLen w _ _ _ (by unfold maxLen;omega)
 rw[← hG] at yC;obtain⟨ROW,yD⟩:∃ROW:Array Value,ROW=(xs.take (i*3)).toArray++Builtin.zeroCells (Value.agg #[.string ⟨#[]⟩,.slice none 0 0,.slice none 0 0]).cells (n+1-i)++Builtin.zeroCells (Value.agg #[.string ⟨#[]⟩,.slice none 0 0,.slice none 0 0]).cells (G-(n+1)):=⟨_,rfl⟩;rw[← yD] at yC;have pz:ROW.size=G*3:=by
  rw[yD];simp only[NH,Builtin.zeroCells,Value.cells,J2,htl,Array.size_map,Array.size_range,aT,bz];omega
 have JP:ROW.toList.take (i*3)=xs.take (i*3):=by
  rw[yD];simp only[NI,nQ];rw[FJ htl]
 obtain⟨W1,hW1⟩:∃W1,W1=(w.alloc (.cells ROW 48)).drew:=⟨_,rfl⟩;have yE:W1.heap=w.heap.push (.cells ROW 48):=by rw[hW1];rfl
 have TX:W1.heap.size=w.heap.size+1:=by rw[yE,Array.size_push]
 have hN:W1.heap[w.heap.size]?=some (.cells ROW 48 (0,0)):=by rw[yE];simp
 have hO:∀k,k<w.heap.size→W1.heap[k]?=w.heap[k]?:=fun k hk=>by
  rw[yE];simp[Array.getElem?_push,Nat.ne_of_lt hk]
 have TY:∀ty dc,(Builtin.copy_ #[42,42] ty #[.slice (some ⟨w.heap.size,i*3,none⟩) (n+1-i) dc,.slice (some ⟨vb,0,none⟩) 1 1]).run prog W1=.ok (goInt (1:Nat)) (W1.setCells w.heap.size (i*3) vs):=fun ty dc=>by
  have hmin:Nat.min 1 (n+1-i)=1:=by show min _ _=_;omega
  have h:=Ah (P:=prog) W1 42 42 ty 48 3 w.heap.size (i*3) (n+1-i) dc ⟨vb,0,none⟩ 1 1 vs mL hsz (by rw[hz,hmin])
   (fun j v hj=>by rw[add_lit,vD W1 vb _ _ Tv (0,0) ((hO vb TV).trans hv)];simpa using hj)
   (fun j hj=>(jM hN _ (by rw[pz];omega)).1) (fun j hj=>(jM hN _ (by rw[pz];omega)).2) jr
  rw[hmin] at h;exact h
 obtain⟨c1,CE,hs2,-⟩:=xH (o:=i*3) hN vs (by rw[pz];omega);have hg2:(W1.setCells w.heap.size (i*3) vs).heap[g]?=some (.cells cur 48 (0,0)):=by
  rw[(jF w.heap.size _ rfl _ W1 _).block g (by omega) (by intro h;injection h with h;omega),hO g jb];exact hg
 have CG:∀ty m1 m2 dc sc,m1=n-i→m2=n-i→(Builtin.copy_ #[42,42] ty #[.slice (some ⟨w.heap.size,(i+1)*3,none⟩) m1 dc,.slice (some ⟨g,i*3,none⟩) m2 sc]).run prog (W1.setCells w.heap.size (i*3) vs).drew=.ok (goInt (n-i:Nat)) ((W1.setCells w.heap.size (i*3) vs).drew.setCells w.heap.size ((i+1)*3) (xs.drop (i*3))):=fun ty m1 m2 dc sc bU hm2=>by
  have hmin:Nat.min m2 m1=n-i:=by show min _ _=_;omega
  have h:=Ah (P:=prog) (W1.setCells w.heap.size (i*3) vs).drew 42 42 ty 48 3 w.heap.size ((i+1)*3) m1 dc ⟨g,i*3,none⟩ m2 sc (xs.drop (i*3)) mL hsz (by rw[ej,hmin];omega)
   (fun j v hj=>by rw[add_lit];rw[wY] at hj;exact zr (w:=(W1.setCells w.heap.size (i*3) vs).drew) hg2 ht _ v hj)
   (fun j hj=>(jM (w:=(W1.setCells w.heap.size (i*3) vs).drew) CE _ (by rw[hs2,pz];omega)).1) (fun j hj=>(jM (w:=(W1.setCells w.heap.size (i*3) vs).drew) CE _ (by rw[hs2,pz];omega)).2) (fun v hv=>h1 v (rQ hv))
  rw[hmin] at h;exact h
 have vo:=aa (aa_ (base:=base) hN (by omega) pz JP hl hz hi TW yB);have aH:=aa (show w.grownBy ((W1.setCells w.heap.size (i*3) vs).drew.setCells w.heap.size ((i+1)*3) (xs.drop (i*3))) none by
  have hs1:(W1.setCells w.heap.size (i*3) vs).heap.size≥w.heap.size:=bn (by omega) (jF w.heap.size _ rfl _ W1 _).size;have e1:w.grownBy W1 (some w.heap.size):=⟨by rw[hW1];rfl,by rw[hW1];rfl,by rw[hW1];rfl,by omega,fun k hk _=>hO k hk⟩;have e2:W1.grownBy (W1.setCells w.heap.size (i*3) vs) (some w.heap.size):=jF w.heap.size _ rfl _ W1 _;have e3:(W1.setCells w.heap.size (i*3) vs).grownBy ((W1.setCells w.heap.size (i*3) vs).drew.setCells w.heap.size ((i+1)*3) (xs.drop (i*3))) (some w.heap.size):=Nu (jF w.heap.size _ rfl _ _ _);have e4:=(e1.trans e2).trans e3;exact⟨e4.os,e4.tape,e4.output,e4.size,fun k hk _=>e4.block k hk (by intro h;injection h with h;omega)⟩)
 have hGi:¬ (G=i):=by omega
 have aj5:¬ (G=i+1):=by omega
 have aj6:G≤9223372036854775807:=by unfold maxLen at yB;omega
 rw[hW1] at vo aH TY CG;have HB:=aa CG;have TZ:=aa yC;clear hown yE TX hg hg2 hN CE hs2 hO hW1 W1 ht hl ej htl hcs hcm h1 jr bU hv hsz hz pz JP yD hG hold yC hkk hik hi0 hz0 hzs hzb yB CG;have hz2:¬ ((i:Int)=(n:Int)):=by omega
 have hz3:(c:Int)<(n:Int)+1:=by omega
 have GL:¬ (c=i):=by omega
 have hw1:IntKind.i64.wrap ((i:Int)+1)=(i:Int)+1:=by rw[lJ];omega
 have hw2:IntKind.i64.wrap ((n:Int)+1)=(n:Int)+1:=by rw[lJ];omega
 have hw3:IntKind.i64.wrap ((n:Int)+1-(i:Int))=(n:Int)+1-(i:Int):=by rw[lJ];omega
 have hb1:(0:Int)≤(i:Int)+1:=by omega
 have htn:((i:Int)+1).toNat=i+1:=by omega
 have hin:i≤n:=by omega
 have S3:i≤c:=by omega
 have hb3:(i:Int)≤(n:Int):=by omega
 have iK:(i:Int)≤(n:Int)+1:=by omega
 have gM:(i:Int)+1≤(n:Int)+1:=by omega
 have TU:i≤n+1:=by omega
 have sV:i≤G:=by omega
 have mixed:prog.follows Departure.mixedOrders=true:=by kernel_rfl
 go_enter func116,ntmps116;go_wp2_with (at_builtin;refine Lib.wpList_append_run _ rfl _ _ _ _ rfl _ _ rfl rfl _ _ (TZ.o _) ?_);go_region_law_o (refine step_copy_runI rfl _ _ 42 42 rfl _ _ (by simp[Act.eval,Act.put]) (by simp[Act.eval,Act.put]) (HB.o _ (n-i) (n-i) (G-(i+1)) (c-i) rfl rfl) ?_);go_wp2_with fail;go_ret;exact⟨_,_,rfl,vo.o,aH.o,rfl⟩
theorem Yv(base n i c vb:Nat)(A:Option Addr)(xs vs:List Value)(w:World)(Tv:TypeId)(h1:∀u∈xs,u.oneCell'=true)(jr:∀u∈vs,u.oneCell'=true)(hown:w.ownsRow base 48 3 (.slice A n c) n xs)(hi:i≤n)(hn:n≤1000000000)(hz:vs.length=3)
 (hv:w.heap[vb]?=some (.cells vs.toArray Tv (0,0))) (hvb:Value.ownBlock (.slice A n c)≠some vb) (hbase:base≤w.heap.size) :
 Calls prog 116 #[.slice A n c,.int .i64 i,.slice (some ⟨vb,0,none⟩) 1 1] w fun e w'=>∃A' c',e=.returned (.slice A' (n+1:Nat) c')∧w'.ownsRow base 48 3 (.slice A' (n+1) c') (n+1) (xs.take (i*3)++vs++xs.drop (i*3))∧w.grownBy w' (Value.ownBlock (.slice A n c)) ∧
  (Value.ownBlock (.slice A' (n+1) c')=Value.ownBlock (.slice A n c)∨Value.ownBlock (.slice A' (n+1) c')=some w.heap.size):=by
 rcases fh i n with hlt | hge
 ·obtain⟨g,cur,rfl,hb,hg,hnc,hcm,hcs,ht,hl⟩:=kL hown (by omega);have E5:vb≠g:=fun h=>hvb (by rw[h];rfl)
  rcases fh c (n+1) with hr | hr
  ·refine(aj4 base n i c vb g xs vs w Tv h1 jr hown hlt hn hr hz hv E5 hbase).mono ?_;rintro e w' ⟨A',c',he,ho,hgr,hA⟩;exact⟨A',c',he,ho,⟨hgr.os,hgr.tape,hgr.output,hgr.size,fun k hk _=>hgr.block k hk (by intro h;cases h)⟩,.inr hA⟩
  refine(aj0 base n i c vb g xs vs w Tv h1 jr hown hlt hn hr hz hv E5).mono ?_;rintro e w' ⟨he,ho,hgr⟩;exact⟨_,_,he,ho,hgr,.inl rfl⟩
 obtain rfl:i=n:=by omega
 have hl:xs.length=i*3:=hown.1;rw[jD (by omega),J_ (by omega),ml];exact ajZ base i c vb A xs vs w Tv jr hown hn hz hv hbase
theorem aj7(base n c vb:Nat)(A:Option Addr)(xs vs:List Value)(w:World)(Tv:TypeId)(jr:∀u∈vs,u.oneCell'=true)(hown:w.ownsRow base 27 5 (.slice A n c) n xs)(hn:n≤1000000000)(hz:vs.length=5)
 (hv:w.heap[vb]?=some (.cells vs.toArray Tv (0,0))) (hbase:base≤w.heap.size) :
 Calls prog 121 #[.slice A n c,.int .i64 n,.slice (some ⟨vb,0,none⟩) 1 1] w fun e w'=>∃A' c',e=.returned (.slice A' (n+1:Nat) c')∧w'.ownsRow base 27 5 (.slice A' (n+1) c') (n+1) (xs++vs)∧w.grownBy w' (Value.ownBlock (.slice A n c)) ∧
  (Value.ownBlock (.slice A' (n+1) c')=Value.ownBlock (.slice A n c)∨Value.ownBlock (.slice A' (n+1) c')=some w.heap.size):=by
 have hc:c≤maxLen:=by
  obtain⟨-,⟨hq,-,-⟩ | ⟨g,cap,cur,hq,-,-,-,hcm,-⟩⟩:=hown
  ·injection hq with _ _ h3;rw[h3];exact ba _
  injection hq with _ _ h3;rw[h3];exact hcm
 have hc2:n≤c:=by
  obtain⟨-,⟨hq,-,-⟩ | ⟨g,cap,cur,hq,-,-,hnc,-,-⟩⟩:=hown
  ·injection hq with _ h2 _;rw[h2];exact ba _
  injection hq with _ _ h3;rw[h3];exact hnc
 have hcc:c≤9223372036854775807:=by unfold maxLen at hc;omega
 clear hc;obtain⟨i0,hi0,hz0,hz1,hz2⟩:=info_parts TT;have gU:=aa hi0;have gV:=aa hz0;have gW:=aa hz1;have gX:=aa hz2;have HS:=aa (Src.ofSlice (P:=prog) (size:=5) w tA ⟨vb,0,none⟩ 1 1 vs (by omega) (fun j u hu=>by rw[add_lit,vD w vb _ _ Tv (0,0) hv];simpa using hu) jr);have HO:=aa hown;clear hi0 hz0 hz1 hz2 hown hv jr;rcases Decidable.em (c=n) with hcn | hcn
 case' inl=>replace hcn:=hcn.symm;subst hcn
 all_goals
  go_enter func121,ntmps121
  go_wp2_with (at_builtin;refine xg rfl (.tmp 23) (.tmp 24) 24 24 rfl base 27 i0 _ 5 88 tA gU.o gV.o gW.o gX.o rfl (.slice A n _) n xs rfl HO.o _ 1 vs rfl HS.o (by omega) (by simp only[maxLen];omega) hbase ?_;intro A3 c3 w3 gP qi vk;have iA:=aa gP;have aP:=aa qi;have Cs:=aa vk;clear gP qi vk)
  all_goals
   go_ret
   exact⟨A3,c3,rfl,iA.o,aP.o,Cs.o⟩
theorem aj8(base n i c vb g:Nat)(xs vs:List Value)(w:World)(Tv:TypeId)(h1:∀u∈xs,u.oneCell'=true)(jr:∀u∈vs,u.oneCell'=true)(hown:w.ownsRow base 27 5 (.slice (some ⟨g,0,none⟩) n c) n xs)(hi:i<n)(hn:n≤1000000000)(hroom:n+1≤c)(hz:vs.length=5)
 (hv:w.heap[vb]?=some (.cells vs.toArray Tv (0,0))) (hvb:vb≠g) :
 Calls prog 121 #[.slice (some ⟨g,0,none⟩) n c,.int .i64 i,.slice (some ⟨vb,0,none⟩) 1 1] w fun e w'=>e=.returned (.slice (some ⟨g,0,none⟩) (n+1:Nat) c)∧w'.ownsRow base 27 5 (.slice (some ⟨g,0,none⟩) (n+1) c) (n+1) (xs.take (i*5)++vs++xs.drop (i*5))∧w.grownBy w' (some g):=by
 obtain⟨g',cur,hA,hb,hg,hnc,hcm,hcs,ht,hl⟩:=kL hown (by omega);injection hA with hA;injection hA with hA _;subst hA;have bU:(i+1)*5≤n*5:=iB _ hi;have hm2:(n+1)*5≤c*5:=iB _ hroom;have hcm2:c≤9223372036854775807:=by unfold maxLen at hcm;omega
 have ej:(xs.drop (i*5)).length=n*5-i*5:=by rw[iM,hl]
 have hsz:(prog.info? 27).map (·.size)=some 5:=by kernel_rfl
 have hov:∀ab lb cb,(callFunc 168 #[.slice (some ⟨vb,0,none⟩) 1 1,.slice (some ⟨g,ab,none⟩) lb cb]).run prog w=.ok (.value (.bool false)) w:=fun ab lb cb=>by
  rw[run_callFunc_extern (fn:=f168) (by kernel_rfl) (by kernel_rfl) (by kernel_rfl) (by kernel_rfl) (e:=Extern.SlicesOverlaps.overlaps #[24,24] #[4]) (by kernel_rfl),
   Lib.run_overlaps_apart w 24 4 27 tA 5 (fun _=>rfl) ⟨vb,0,none⟩ ⟨g,ab,none⟩ 1 1 lb cb hvb Tv 27 vs.toArray.size cur.size (by simp[World.shape?,hv]) (by simp[World.shape?,hg]) (by rw[hcs];omega) (by simp[World.frozen?,hv]) (by simp[World.frozen?,hv])]
  rfl
 have JN:∀ty m1 m2 dc sc,m1=n-i→m2=n+1-i→(Builtin.copy_ #[24,24] ty #[.slice (some ⟨g,(i+1)*5,none⟩) m1 dc,.slice (some ⟨g,i*5,none⟩) m2 sc]).run prog w.drew=.ok (goInt (n-i:Nat)) (w.drew.setCells g ((i+1)*5) (xs.drop (i*5))):=fun ty m1 m2 dc sc bU hm2=>by
  have hmin:Nat.min m2 m1=n-i:=by show min _ _=_;omega
  have h:=Ah (P:=prog) w.drew 24 24 ty 27 5 g ((i+1)*5) m1 dc ⟨g,i*5,none⟩ m2 sc (xs.drop (i*5)) tA hsz (by rw[ej,hmin];omega)
   (fun j v hj=>by rw[add_lit];rw[wY] at hj;exact zr (w:=w.drew) hg ht _ v hj)
   (fun j hj=>(jM (w:=w.drew) hg _ (by rw[hcs];omega)).1) (fun j hj=>(jM (w:=w.drew) hg _ (by rw[hcs];omega)).2) (fun v hv=>h1 v (rQ hv))
  rw[hmin] at h;exact h
 obtain⟨W1,hW1⟩:∃W1,w.drew.setCells g ((i+1)*5) (xs.drop (i*5))=W1:=⟨_,rfl⟩;obtain⟨c1,hg1,hs1,-⟩:=xH (w:=w.drew) (o:=(i+1)*5) hg (xs.drop (i*5)) (by rw[ej,hcs];omega);have hv1:W1.heap[vb]?=some (.cells vs.toArray Tv (0,0)):=by
  rw[← hW1,(jF g _ rfl _ w.drew _).block vb (tM.1 hv).1 (by intro h;injection h with h;exact hvb h)];exact hv
 rw[hW1] at hg1;have JO:∀ty dc,(Builtin.copy_ #[24,24] ty #[.slice (some ⟨g,i*5,none⟩) (n+1-i) dc,.slice (some ⟨vb,0,none⟩) 1 1]).run prog W1=.ok (goInt (1:Nat)) (W1.setCells g (i*5) vs):=fun ty dc=>by
  have hmin:Nat.min 1 (n+1-i)=1:=by show min _ _=_;omega
  have h:=Ah (P:=prog) W1 24 24 ty 27 5 g (i*5) (n+1-i) dc ⟨vb,0,none⟩ 1 1 vs tA hsz (by rw[hz,hmin])
   (fun j v hj=>by rw[add_lit,vD W1 vb _ _ Tv (0,0) hv1];simpa using hj)
   (fun j hj=>(jM hg1 _ (by rw[hs1,hcs];omega)).1) (fun j hj=>(jM hg1 _ (by rw[hs1,hcs];omega)).2) jr
  rw[hmin] at h;exact h
 have vo:=aa (show (W1.setCells g (i*5) vs).ownsRow base 27 5 (.slice (some ⟨g,0,none⟩) (n+1) c) (n+1) (xs.take (i*5)++vs++xs.drop (i*5)) by
  rw[← hW1];exact aa9 (w:=w.drew) hown i hi hroom hz)
 have aH:=aa (show w.grownBy (W1.setCells g (i*5) vs) (some g) by
  rw[← hW1];exact Nu (World.grownBy.trans (jF g _ rfl _ w.drew _) (jF g _ rfl _ _ _)))
 have gZ:=aa JN;have aj1:∀ty dc,(Builtin.copy_ #[24,24] ty #[.slice (some ⟨g,i*5,none⟩) (n+1-i) dc,.slice (some ⟨vb,0,none⟩) 1 1]).run prog (w.drew.setCells g ((i+1)*5) (xs.drop (i*5)))=.ok (goInt (1:Nat)) ((w.drew.setCells g ((i+1)*5) (xs.drop (i*5))).setCells g (i*5) vs):=by
  rw[hW1];exact JO
 rw[← hW1] at vo aH;clear hown hg hg1 hs1 JO hv1 hW1 ht hl ej hcs hcm h1 jr bU hm2 hv JN hsz hz W1;have hz2:¬ ((i:Int)=(n:Int)):=by omega
 have hw1:IntKind.i64.wrap ((i:Int)+1)=(i:Int)+1:=by rw[lJ];omega
 have hw2:IntKind.i64.wrap ((n:Int)+1)=(n:Int)+1:=by rw[lJ];omega
 have hb1:(0:Int)≤(i:Int)+1:=by omega
 have aj2:(0:Int)≤(n:Int)+1:=by omega
 have htn:((i:Int)+1).toNat=i+1:=by omega
 have aj3:((n:Int)+1).toNat=n+1:=by omega
 have hin:i≤n:=by omega
 have hb2:¬ (c=i+1):=by omega
 have hb4:¬ (c=i):=by omega
 have cr:¬ ((c:Int)<(n:Int)+1):=by omega
 have kQ:(n:Int)+1≤(c:Int):=by omega
 have mN:(i:Int)≤(n:Int):=by omega
 have iK:(i:Int)≤(n:Int)+1:=by omega
 have gM:(i:Int)+1≤(n:Int)+1:=by omega
 have TU:i≤n+1:=by omega
 have mixed:prog.follows Departure.mixedOrders=true:=by kernel_rfl
 go_enter func121,ntmps121;go_wp2_with (simp only[hov]);go_region_law_o (refine step_copy_runI rfl _ _ 24 24 rfl _ _ (by simp[Act.eval,Act.put]) (by simp[Act.eval,Act.put]) (gZ.o _ (n-i) (n+1-i) (c-(i+1)) (c-i) rfl rfl) ?_);go_wp2_with fail;go_ret;exact⟨rfl,vo.o,aH.o⟩
theorem aj9(base n i c vb g:Nat)(xs vs:List Value)(w:World)(Tv:TypeId)(h1:∀u∈xs,u.oneCell'=true)(jr:∀u∈vs,u.oneCell'=true)(hown:w.ownsRow base 27 5 (.slice (some ⟨g,0,none⟩) n c) n xs)(hi:i<n)(hn:n≤1000000000)(hroom:c<n+1)(hz:vs.length=5)
 (hv:w.heap[vb]?=some (.cells vs.toArray Tv (0,0))) (hvb:vb≠g) (hbase:base≤w.heap.size) :
 Calls prog 121 #[.slice (some ⟨g,0,none⟩) n c,.int .i64 i,.slice (some ⟨vb,0,none⟩) 1 1] w fun e w'=>∃A' c',e=.returned (.slice A' (n+1:Nat) c')∧w'.ownsRow base 27 5 (.slice A' (n+1) c') (n+1) (xs.take (i*5)++vs++xs.drop (i*5))∧w.grownBy w' none∧Value.ownBlock (.slice A' (n+1) c')=some w.heap.size:=by
 obtain⟨g',cur,hA,hb,hg,hnc,hcm,hcs,ht,hl⟩:=kL hown (by omega);injection hA with hA;injection hA with hA _;subst hA;obtain⟨i0,hi0,hz0,hzs,hzb⟩:=info_parts TT;have bU:(i+1)*5≤n*5:=iB _ hi;have hcm2:c≤9223372036854775807:=by unfold maxLen at hcm;omega
 have ej:(xs.drop (i*5)).length=n*5-i*5:=by rw[iM,hl]
 have htl:(xs.take (i*5)).length=i*5:=by rw[dS,hl];omega
 have hsz:(prog.info? 27).map (·.size)=some 5:=by kernel_rfl
 have jb:g<w.heap.size:=(tM.1 hg).1;have TV:vb<w.heap.size:=(tM.1 hv).1;have hkk:(n:Int)+1-(i:Int)=((n+1-i:Nat):Int):=by omega
 have hik:i+(n+1-i)=n+1:=by omega
 have hold:(Builtin.firstCells i0.size i (.slice (some ⟨g,0,none⟩) i c)).run prog w.drew=.ok (xs.take (i*5)).toArray w.drew:=by
  rw[hzs];exact NJ w.drew 5 i ⟨g,0,none⟩ i c (xs.take (i*5)) htl (fun j v hj=>by
   rw[add_lit,dY];rw[FI] at hj;split at hj
   ·exact zr (w:=w.drew) hg ht j v hj
   cases hj)
 have yC:∀ty,(Builtin.append_ #[24,3] ty #[.slice (some ⟨g,0,none⟩) i c,.int .i64 ((n:Int)+1-(i:Int))]).run prog w =
  .ok (.slice (some ⟨w.heap.size,0,none⟩) (n+1) (grownCap w (n+1) c 27)) (w.drew.alloc (.cells ((xs.take (i*5)).toArray++Builtin.zeroCells (Value.agg #[.int .i64 0,.int .u64 0,.slice none 0 0,.slice none 0 0,.slice none 0 0]).cells (n+1-i)++Builtin.zeroCells (Value.agg #[.int .i64 0,.int .u64 0,.slice none 0 0,.slice none 0 0,.slice none 0 0]).cells (grownCap w (n+1) c 27-(n+1))) 27)):=fun ty=>by
  have h:=Lib.run_append_grow_zeros (P:=prog) w 24 3 ty 27 i0 _ .i64 .i64 tA (by kernel_rfl) hi0 hz0 (some ⟨g,0,none⟩) i c (xs.take (i*5)) hold (n+1-i) (by omega) (by omega) (by omega) (by omega) (by rw[hzb];omega) (by rw[hzb,hik];exact J3 hroom (by omega));rw[hik] at h;rw[hkk];exact h
 obtain⟨G,hG⟩:∃G,G=grownCap w (n+1) c 27:=⟨_,rfl⟩;have TW:n+1≤G:=by rw[hG];exact grownCap_ge w _ _ _
 have yB:G≤maxLen:=by rw[hG];exact grownCap_le_maxLen w _ _ _ (by unfold maxLen;omega)
 rw[← hG] at yC;obtain⟨ROW,yD⟩:∃ROW:Array Value,ROW=(xs.take (i*5)).toArray++Builtin.zeroCells (Value.agg #[.int .i64 0,.int .u64 0,.slice none 0 0,.slice none 0 0,.slice none 0 0]).cells (n+1-i)++Builtin.zeroCells (Value.agg #[.int .i64 0,.int .u64 0,.slice none 0 0,.slice none 0 0,.slice none 0 0]).cells (G-(n+1)):=⟨_,rfl⟩;rw[← yD] at yC;have pz:ROW.size=G*5:=by
  rw[yD];simp only[NH,Builtin.zeroCells,Value.cells,J2,htl,Array.size_map,Array.size_range,aT,bz];omega
 have JP:ROW.toList.take (i*5)=xs.take (i*5):=by
  rw[yD];simp only[NI,nQ];rw[FJ htl]
 obtain⟨W1,hW1⟩:∃W1,W1=(w.alloc (.cells ROW 27)).drew:=⟨_,rfl⟩;have yE:W1.heap=w.heap.push (.cells ROW 27):=by rw[hW1];rfl
 have TX:W1.heap.size=w.heap.size+1:=by rw[yE,Array.size_push]
 have hN:W1.heap[w.heap.size]?=some (.cells ROW 27 (0,0)):=by rw[yE];simp
 have hO:∀k,k<w.heap.size→W1.heap[k]?=w.heap[k]?:=fun k hk=>by
  rw[yE];simp[Array.getElem?_push,Nat.ne_of_lt hk]
 have TY:∀ty dc,(Builtin.copy_ #[24,24] ty #[.slice (some ⟨w.heap.size,i*5,none⟩) (n+1-i) dc,.slice (some ⟨vb,0,none⟩) 1 1]).run prog W1=.ok (goInt (1:Nat)) (W1.setCells w.heap.size (i*5) vs):=fun ty dc=>by
  have hmin:Nat.min 1 (n+1-i)=1:=by show min _ _=_;omega
  have h:=Ah (P:=prog) W1 24 24 ty 27 5 w.heap.size (i*5) (n+1-i) dc ⟨vb,0,none⟩ 1 1 vs tA hsz (by rw[hz,hmin])
   (fun j v hj=>by rw[add_lit,vD W1 vb _ _ Tv (0,0) ((hO vb TV).trans hv)];simpa using hj)
   (fun j hj=>(jM hN _ (by rw[pz];omega)).1) (fun j hj=>(jM hN _ (by rw[pz];omega)).2) jr
  rw[hmin] at h;exact h
 obtain⟨c1,CE,hs2,-⟩:=xH (o:=i*5) hN vs (by rw[pz];omega);have hg2:(W1.setCells w.heap.size (i*5) vs).heap[g]?=some (.cells cur 27 (0,0)):=by
  rw[(jF w.heap.size _ rfl _ W1 _).block g (by omega) (by intro h;injection h with h;omega),hO g jb];exact hg
 have CG:∀ty m1 m2 dc sc,m1=n-i→m2=n-i→(Builtin.copy_ #[24,24] ty #[.slice (some ⟨w.heap.size,(i+1)*5,none⟩) m1 dc,.slice (some ⟨g,i*5,none⟩) m2 sc]).run prog (W1.setCells w.heap.size (i*5) vs).drew=.ok (goInt (n-i:Nat)) ((W1.setCells w.heap.size (i*5) vs).drew.setCells w.heap.size ((i+1)*5) (xs.drop (i*5))):=fun ty m1 m2 dc sc bU hm2=>by
  have hmin:Nat.min m2 m1=n-i:=by show min _ _=_;omega
  have h:=Ah (P:=prog) (W1.setCells w.heap.size (i*5) vs).drew 24 24 ty 27 5 w.heap.size ((i+1)*5) m1 dc ⟨g,i*5,none⟩ m2 sc (xs.drop (i*5)) tA hsz (by rw[ej,hmin];omega)
   (fun j v hj=>by rw[add_lit];rw[wY] at hj;exact zr (w:=(W1.setCells w.heap.size (i*5) vs).drew) hg2 ht _ v hj)
   (fun j hj=>(jM (w:=(W1.setCells w.heap.size (i*5) vs).drew) CE _ (by rw[hs2,pz];omega)).1) (fun j hj=>(jM (w:=(W1.setCells w.heap.size (i*5) vs).drew) CE _ (by rw[hs2,pz];omega)).2) (fun v hv=>h1 v (rQ hv))
  rw[hmin] at h;exact h
 have vo:=aa (aa_ (base:=base) hN (by omega) pz JP hl hz hi TW yB);have aH:=aa (show w.grownBy ((W1.setCells w.heap.size (i*5) vs).drew.setCells w.heap.size ((i+1)*5) (xs.drop (i*5))) none by
  have hs1:(W1.setCells w.heap.size (i*5) vs).heap.size≥w.heap.size:=bn (by omega) (jF w.heap.size _ rfl _ W1 _).size;have e1:w.grownBy W1 (some w.heap.size):=⟨by rw[hW1];rfl,by rw[hW1];rfl,by rw[hW1];rfl,by omega,fun k hk _=>hO k hk⟩;have e2:W1.grownBy (W1.setCells w.heap.size (i*5) vs) (some w.heap.size):=jF w.heap.size _ rfl _ W1 _;have e3:(W1.setCells w.heap.size (i*5) vs).grownBy ((W1.setCells w.heap.size (i*5) vs).drew.setCells w.heap.size ((i+1)*5) (xs.drop (i*5))) (some w.heap.size):=Nu (jF w.heap.size _ rfl _ _ _);have e4:=(e1.trans e2).trans e3;exact⟨e4.os,e4.tape,e4.output,e4.size,fun k hk _=>e4.block k hk (by intro h;injection h with h;omega)⟩)
 have hGi:¬ (G=i):=by omega
 have aj5:¬ (G=i+1):=by omega
 have aj6:G≤9223372036854775807:=by unfold maxLen at yB;omega
 rw[hW1] at vo aH TY CG;have HB:=aa CG;have TZ:=aa yC;clear hown yE TX hg hg2 hN CE hs2 hO hW1 W1 ht hl ej htl hcs hcm h1 jr bU hv hsz hz pz JP yD hG hold yC hkk hik hi0 hz0 hzs hzb yB CG;have hz2:¬ ((i:Int)=(n:Int)):=by omega
 have hz3:(c:Int)<(n:Int)+1:=by omega
 have GL:¬ (c=i):=by omega
 have hw1:IntKind.i64.wrap ((i:Int)+1)=(i:Int)+1:=by rw[lJ];omega
 have hw2:IntKind.i64.wrap ((n:Int)+1)=(n:Int)+1:=by rw[lJ];omega
 have hw3:IntKind.i64.wrap ((n:Int)+1-(i:Int))=(n:Int)+1-(i:Int):=by rw[lJ];omega
 have hb1:(0:Int)≤(i:Int)+1:=by omega
 have htn:((i:Int)+1).toNat=i+1:=by omega
 have hin:i≤n:=by omega
 have S3:i≤c:=by omega
 have hb3:(i:Int)≤(n:Int):=by omega
 have iK:(i:Int)≤(n:Int)+1:=by omega
 have gM:(i:Int)+1≤(n:Int)+1:=by omega
 have TU:i≤n+1:=by omega
 have sV:i≤G:=by omega
 have mixed:prog.follows Departure.mixedOrders=true:=by kernel_rfl
 go_enter func121,ntmps121;go_wp2_with (at_builtin;refine Lib.wpList_append_run _ rfl _ _ _ _ rfl _ _ rfl rfl _ _ (TZ.o _) ?_);go_region_law_o (refine step_copy_runI rfl _ _ 24 24 rfl _ _ (by simp[Act.eval,Act.put]) (by simp[Act.eval,Act.put]) (HB.o _ (n-i) (n-i) (G-(i+1)) (c-i) rfl rfl) ?_);go_wp2_with fail;go_ret;exact⟨_,_,rfl,vo.o,aH.o,rfl⟩
theorem agQ(base n i c vb:Nat)(A:Option Addr)(xs vs:List Value)(w:World)(Tv:TypeId)(h1:∀u∈xs,u.oneCell'=true)(jr:∀u∈vs,u.oneCell'=true)(hown:w.ownsRow base 27 5 (.slice A n c) n xs)(hi:i≤n)(hn:n≤1000000000)(hz:vs.length=5)
 (hv:w.heap[vb]?=some (.cells vs.toArray Tv (0,0))) (hvb:Value.ownBlock (.slice A n c)≠some vb) (hbase:base≤w.heap.size) :
 Calls prog 121 #[.slice A n c,.int .i64 i,.slice (some ⟨vb,0,none⟩) 1 1] w fun e w'=>∃A' c',e=.returned (.slice A' (n+1:Nat) c')∧w'.ownsRow base 27 5 (.slice A' (n+1) c') (n+1) (xs.take (i*5)++vs++xs.drop (i*5))∧w.grownBy w' (Value.ownBlock (.slice A n c)) ∧
  (Value.ownBlock (.slice A' (n+1) c')=Value.ownBlock (.slice A n c)∨Value.ownBlock (.slice A' (n+1) c')=some w.heap.size):=by
 rcases fh i n with hlt | hge
 ·obtain⟨g,cur,rfl,hb,hg,hnc,hcm,hcs,ht,hl⟩:=kL hown (by omega);have E5:vb≠g:=fun h=>hvb (by rw[h];rfl)
  rcases fh c (n+1) with hr | hr
  ·refine(aj9 base n i c vb g xs vs w Tv h1 jr hown hlt hn hr hz hv E5 hbase).mono ?_;rintro e w' ⟨A',c',he,ho,hgr,hA⟩;exact⟨A',c',he,ho,⟨hgr.os,hgr.tape,hgr.output,hgr.size,fun k hk _=>hgr.block k hk (by intro h;cases h)⟩,.inr hA⟩
  refine(aj8 base n i c vb g xs vs w Tv h1 jr hown hlt hn hr hz hv E5).mono ?_;rintro e w' ⟨he,ho,hgr⟩;exact⟨_,_,he,ho,hgr,.inl rfl⟩
 obtain rfl:i=n:=by omega
 have hl:xs.length=i*5:=hown.1;rw[jD (by omega),J_ (by omega),ml];exact aj7 base i c vb A xs vs w Tv jr hown hn hz hv hbase
end
end Go.Proofs.YtndjopkdbdcmdaaGreatDoor
