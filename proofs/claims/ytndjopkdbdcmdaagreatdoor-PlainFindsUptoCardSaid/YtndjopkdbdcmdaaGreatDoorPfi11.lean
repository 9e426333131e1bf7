/- Part 11 of the proof of pfinds_card. -/
import Derived.Test.YtndjopkdbdcmdaaGreatDoorPfi8
import Derived.Test.YtndjopkdbdcmdaaGreatDoorPfi9
import Derived.Test.YtndjopkdbdcmdaaGreatDoorPfi10
import Derived.Maps.OwnOps
import Derived.ChangeMaps5
set_option linter.unusedVariables false
set_option linter.unusedSimpArgs false
set_option maxRecDepth 100000
set_option maxHeartbeats 12800000
open Go.Proofs.Tryz
namespace Go.Proofs.YtndjopkdbdcmdaaGreatDoor
section
open Go.RowKit Go.Shelf Go.ChangeMaps
section
variable {P:Program} {w:World}
theorem KY(kt:TypeId)(hk:P.underlying kt=some (.int .i64))(k:Int)(em:Bool):(Instr.checkKey em 10000 kt (.int .i64 k)).run P w=.ok () w:=by
 rw[show (10000:Nat)=9999+1 from rfl,Instr.checkKey];simp[wX hk]
theorem KZ(kt:TypeId)(hk:P.underlying kt=some (.int .i64))(k:Int)(es:List MapEntry)(r:Option (Nat×Value))(hf:Instr.findNow (.int .i64) (.int .i64 k) es 0=some r):(Instr.findKey kt (.int .i64 k) es).run P w=.ok r w:=by
 unfold Instr.findKey;simp[wX hk,hf]
theorem acW(t kt et:TypeId)(ht:P.underlying t=some (.map kt et))(hk:P.underlying kt=some (.int .i64))(g:Nat)(es:Array MapEntry)(clock:Nat)(h:w.heap[g]?=some (.map es clock))(k:Int)(v:Value)
 (hf:Instr.findNow (.int .i64) (.int .i64 k) es.toList 0=some none) :
 ∃w',(Instr.mapUpdate t (.map (some g)) (.int .i64 k) v).run P w=.ok () w'∧w'.heap[g]?=some (.map (es.push { key:=.int .i64 k,val:=v,born:=clock }) (clock+1))∧w.grownBy w' (some g):=by
 have hrun:(Instr.mapUpdate t (.map (some g)) (.int .i64 k) v).run P w=.ok () (setBlock w g (.map (es.push { key:=.int .i64 k,val:=v,born:=clock }) (clock+1))):=by
  unfold Instr.mapUpdate;simp only[Ar,wX ht,CN,Km h,KY kt hk,KZ kt hk k _ _ hf,MapKept.run_setObj_map _ h];rfl
 exact⟨_,hrun,heap_setBlock_same h _,⟨rfl,rfl,rfl,by simp[setBlock],fun i _ hi=>heap_setBlock_other h _ (fun e=>hi (by rw[e]))⟩⟩
theorem acX(t kt et:TypeId)(ht:P.underlying t=some (.map kt et))(hk:P.underlying kt=some (.int .i64))(g:Nat)(es:Array MapEntry)(clock:Nat)(h:w.heap[g]?=some (.map es clock))(k:Int)(i:Nat)(v:Value)
 (hf:Instr.findNow (.int .i64) (.int .i64 k) es.toList 0=some (some (i,v))) :
 (Instr.lookup t (.map (some g)) (.int .i64 k) false).run P w=.ok v w:=by
 unfold Instr.lookup;simp only[Ar,wX ht,CN,Km h,KY kt hk,KZ kt hk k _ _ hf,CM];rfl
end
section
variable {P:Program} {w:World} {ops:Array Oper} {rest:List Oper} {o:Oper} {a:Act} {Q:Exit→Act→World→Prop}
theorem mH(hg:o.guard=none)(m x v:Operand)(t kt et:TypeId)(hop:o.op=Op.insert t m x v)(ht:P.underlying t=some (.map kt et))(hk:P.underlying kt=some (.int .i64))(g:Nat)(es:Array MapEntry)(clock:Nat)
 (hm:a.eval m=.map (some g)) (k:Int) (hx:a.eval x=.int .i64 k) (h:w.heap[g]?=some (.map es clock)) (hf:Instr.findNow (.int .i64) (.int .i64 k) es.toList 0=some none)
 (hK:∀w',w'.heap[g]?=some (.map (es.push { key:=.int .i64 k,val:=a.eval v,born:=clock }) (clock+1))→w.grownBy w' (some g)→wpList P ops Q rest (a.put o.dst undef) w') :
 wpList P ops Q (o::rest) a w:=by
 refine wpList_plain hg fun K' hK'=>?_
 obtain⟨w',hrun,r1,r2⟩:=acW (P:=P) t kt et ht hk g es clock h k (a.eval v) hf;unfold Oper.wp;simp[execOp,hop,hm,hx,hrun,Result.andThen];exact hK' _ _ (hK w' r1 r2)
end
theorem xx:prog.underlying 194=some (.map 3 193):=by kernel_rfl
theorem xy:prog.underlying 3=some (.int .i64):=by kernel_rfl
theorem acY(w:World):(Instr.makeMap 194 none).run prog w=.ok (.map (some w.heap.size)) (w.alloc (.map #[] 0)):=by kernel_rfl
theorem acZ(w:World)(f:Fn)(xs ys:Array Value):(Instr.field 193 (.agg #[.func f xs ys]) 0).run prog w=.ok (.func f xs ys) w:=by kernel_rfl
def Dt(k:Int):Nat:=if k=1 then 144 else if k=2 then 145 else if k=3 then 146 else if k=4 then 146 else if k=5 then 147 else if k=6 then 148 else if k=7 then 149 else 150
def kinds(pb:Nat):Array MapEntry:=#[{ key:=.int .i64 1,val:=.agg #[.func (.func 144) #[.pointer (some ⟨pb,0,none⟩)] #[]],born:=0 },{ key:=.int .i64 2,val:=.agg #[.func (.func 145) #[.pointer (some ⟨pb,0,none⟩)] #[]],born:=1 },{ key:=.int .i64 3,val:=.agg #[.func (.func 146) #[.pointer (some ⟨pb,0,none⟩)] #[]],born:=2 },{ key:=.int .i64 4,val:=.agg #[.func (.func 146) #[.pointer (some ⟨pb,0,none⟩)] #[]],born:=3 },{ key:=.int .i64 5,val:=.agg #[.func (.func 147) #[.pointer (some ⟨pb,0,none⟩)] #[]],born:=4 },{ key:=.int .i64 6,val:=.agg #[.func (.func 148) #[.pointer (some ⟨pb,0,none⟩)] #[]],born:=5 },{ key:=.int .i64 7,val:=.agg #[.func (.func 149) #[.pointer (some ⟨pb,0,none⟩)] #[]],born:=6 },{ key:=.int .i64 8,val:=.agg #[.func (.func 150) #[.pointer (some ⟨pb,0,none⟩)] #[]],born:=7 }]
theorem ac0{w:World}(pb:Nat)(k:Int){g:Nat}(h:w.heap[g]?=some (.map (kinds pb) 8))(hk:1≤k∧k≤8):(Instr.lookup 194 (.map (some g)) (.int .i64 k) false).run prog w=.ok (.agg #[.func (.func (Dt k)) #[.pointer (some ⟨pb,0,none⟩)] #[]]) w:=by
 obtain⟨i,hi⟩:∃i,Instr.findNow (.int .i64) (.int .i64 k) (kinds pb).toList 0=some (some (i,.agg #[.func (.func (Dt k)) #[.pointer (some ⟨pb,0,none⟩)] #[]])):=by
  have h8:k=1∨k=2∨k=3∨k=4∨k=5∨k=6∨k=7∨k=8:=by omega
  rcases h8 with rfl | rfl | rfl | rfl | rfl | rfl | rfl | rfl<;>exact⟨_,rfl⟩
 exact acX (P:=prog) 194 3 193 xx xy g _ 8 h k i _ hi
theorem ac1(k:Int)(x y:Value)(w:World):Sem.run prog (callFunc (Dt k) #[x,y]) w=.ok (.enter (Dt k) #[x,y]) w:=by
 unfold Dt
 repeat' split
 all_goals kernel_rfl
theorem zg(k:Int)(hk:1≤k∧k≤8)(pb:Nat)(A:Option Addr)(c:Nat)(bs bs':List UInt8)(n:Int)(c3 c6 c9:Option Addr)(c4 c5 c7 c8 c10 c11:Nat)(w:World)(h:Wr w pb A c bs)
 (hf:∀w',Grow w w'→Calls prog (Dt k) #[.pointer (some ⟨pb,0,none⟩),(Cv.agg ⟨k,n,c3,c4,c5,c6,c7,c8,c9,c10,c11⟩)] w' (mE w' pb A bs.length c bs')) :
 Calls prog 98 #[.pointer (some ⟨pb,0,none⟩),(Cv.agg ⟨k,n,c3,c4,c5,c6,c7,c8,c9,c10,c11⟩)] w (mE w pb A bs.length c bs'):=by
 have hmm:=acY;have alY:=acZ;have HF:=aa hf;have hz1:(w.alloc (.cells (Cv.cells ⟨k,n,c3,c4,c5,c6,c7,c8,c9,c10,c11⟩) 27)).heap.size=w.heap.size+1:=by simp
 have bg:=aa ((aD w 27 (Cv.cells ⟨k,n,c3,c4,c5,c6,c7,c8,c9,c10,c11⟩)).alloc (.map #[] 0));have Du:=aa (show ((w.alloc (.cells (Cv.cells ⟨k,n,c3,c4,c5,c6,c7,c8,c9,c10,c11⟩) 27)).alloc (.map #[] 0)).heap[w.heap.size+1]?=some (.map #[] 0) from by rw[← hz1];exact J0 _ _);have aM:=aa (((ah w).alloc (.cells (Cv.cells ⟨k,n,c3,c4,c5,c6,c7,c8,c9,c10,c11⟩) 27)).alloc (.map #[] 0));have hpb:=h.1.lt;clear h hf hz1;go_enter func98,ntmps98;go_wp2_with (first
  | (refine mH rfl (.tmp 5) (.const (.int .i64 1)) (.tmp 8) 194 3 193 rfl xx xy (w.heap.size+1) _ 0 rfl 1 rfl Du.o (by rfl) ?_;intro w1 hi1 hg1;have Gz:=aa hi1;have aQ:=aa (bg.o.own hg1 (fun q hq=>by injection hq with hq;omega));have aO:=aa (aM.o.grown hg1 (fun q hq=>by injection hq with hq;omega));clear hi1 hg1)
  | (refine mH rfl (.tmp 5) (.const (.int .i64 2)) (.tmp 11) 194 3 193 rfl xx xy (w.heap.size+1) _ 1 rfl 2 rfl Gz.o (by rfl) ?_;intro w2 hi2 hg2;have GA:=aa hi2;have aG:=aa (aQ.o.own hg2 (fun q hq=>by injection hq with hq;omega));have HG2:=aa (aO.o.grown hg2 (fun q hq=>by injection hq with hq;omega));clear hi2 hg2)
  | (refine mH rfl (.tmp 5) (.const (.int .i64 3)) (.tmp 14) 194 3 193 rfl xx xy (w.heap.size+1) _ 2 rfl 3 rfl GA.o (by rfl) ?_;intro w3 zh hg3;have GC:=aa zh;have aV:=aa (aG.o.own hg3 (fun q hq=>by injection hq with hq;omega));have aP:=aa (HG2.o.grown hg3 (fun q hq=>by injection hq with hq;omega));clear zh hg3)
  | (refine mH rfl (.tmp 5) (.const (.int .i64 4)) (.tmp 17) 194 3 193 rfl xx xy (w.heap.size+1) _ 3 rfl 4 rfl GC.o (by rfl) ?_;intro w4 hi4 hg4;have GD:=aa hi4;have av:=aa (aV.o.own hg4 (fun q hq=>by injection hq with hq;omega));have cj:=aa (aP.o.grown hg4 (fun q hq=>by injection hq with hq;omega));clear hi4 hg4)
  | (refine mH rfl (.tmp 5) (.const (.int .i64 5)) (.tmp 20) 194 3 193 rfl xx xy (w.heap.size+1) _ 4 rfl 5 rfl GD.o (by rfl) ?_;intro w5 hi5 bP;have Dv:=aa hi5;have ar:=aa (av.o.own bP (fun q hq=>by injection hq with hq;omega));have bN:=aa (cj.o.grown bP (fun q hq=>by injection hq with hq;omega));clear hi5 bP)
  | (refine mH rfl (.tmp 5) (.const (.int .i64 6)) (.tmp 23) 194 3 193 rfl xx xy (w.heap.size+1) _ 5 rfl 6 rfl Dv.o (by rfl) ?_;intro w6 GF cH;have Pf:=aa GF;have dg:=aa (ar.o.own cH (fun q hq=>by injection hq with hq;omega));have bp:=aa (bN.o.grown cH (fun q hq=>by injection hq with hq;omega));clear GF cH)
  | (refine mH rfl (.tmp 5) (.const (.int .i64 7)) (.tmp 26) 194 3 193 rfl xx xy (w.heap.size+1) _ 6 rfl 7 rfl Pf.o (by rfl) ?_;intro w7 GG b_;have Pg:=aa GG;have ji:=aa (dg.o.own b_ (fun q hq=>by injection hq with hq;omega));have aX:=aa (bp.o.grown b_ (fun q hq=>by injection hq with hq;omega));clear GG b_)
  | (refine mH rfl (.tmp 5) (.const (.int .i64 8)) (.tmp 29) 194 3 193 rfl xx xy (w.heap.size+1) _ 7 rfl 8 rfl Pg.o (by rfl) ?_;intro w8 GH cY;have Ph:=aa GH;have j6:=aa (ji.o.own cY (fun q hq=>by injection hq with hq;omega));have cD:=aa (aX.o.grown cY (fun q hq=>by injection hq with hq;omega));clear GH cY;have alZ:=ac0 pb k Ph.o hk;have lO:=j6.o.cell;have Vs:=j6.o.lt))
 rw[ac1,Oper.upon_enter];refine(HF.o w8 cD.o).mono ?_;rintro e w9 ⟨A2,c2,rfl,h1,h2⟩;have HW:=aa h1;have jc:=aa ((acr pb _ cD.o).trans h2);clear h1 h2;go_wp2_with fail;go_end0;exact⟨A2,c2,rfl,HW.o,jc.o⟩
theorem ac2(v:V):v.fit→v.formed=true→OT v:=by
 induction v using V.ind with
 | h k n b l f hl hf =>
  intro hfit fF pb A c bs cv w hW hv hlen;rw[V.fit] at hfit;have hV:=aa hv;obtain⟨aB,aL,aF,cB,cL,cF,rfl,h1,h2,h3,h4,h5,h6,h7,h8,h9,hb0⟩:=hv.open;rcases rU fF with h | ⟨n',hn',h⟩ | ⟨n',h⟩ | ⟨n',h⟩ | ⟨b',hb',h⟩ | ⟨b',h⟩ | ⟨l',hl',h⟩ | ⟨f',hf',hnd,h⟩<;>cases h
  ·have e:(V.mk 1 0 [] [] []).key=[16]:=by rw[fG];simp
   rw[e] at hlen ⊢;simp only[aT,bz] at hlen;exact zg 1 (by decide) pb A c bs _ _ _ _ _ _ _ _ _ _ _ w hW (fun w' hg=>ab9 pb A c bs _ w' (hW.grow hg) (by omega))
  ·have e:(V.mk 2 n [] [] []).key=[32,UInt8.ofNat n]:=by rw[fG];simp
   rw[e] at hlen ⊢;simp only[aT,bz] at hlen;exact zg 2 (by decide) pb A c bs _ _ _ _ _ _ _ _ _ _ _ w hW (fun w' hg=>ab_ pb A c bs _ n hn' rfl w' (hW.grow hg) (by omega))
  ·have e:(V.mk 3 n [] [] []).key=48::mZ n:=by rw[fG];simp
   rw[e] at hlen ⊢;exact zg 3 (by decide) pb A c bs _ _ _ _ _ _ _ _ _ _ _ w hW (fun w' hg=>aca pb A c bs n hfit.1 _ _ _ _ _ _ _ _ _ w' (hW.grow hg) (by omega))
  ·have e:(V.mk 4 n [] [] []).key=48::kJ n:=by rw[fG];simp
   rw[e] at hlen ⊢;refine zg 4 (by decide) pb A c bs _ _ _ _ _ _ _ _ _ _ _ w hW (fun w' hg=>?_)
   cases hn:dt n with
   | true=>exact acd pb A c bs n hfit.1 hn _ _ _ _ _ _ _ _ _ w' (hW.grow hg) (by omega)
   | false=>exact acg pb A c bs n hfit.1 hn _ _ _ _ _ _ _ _ _ w' (hW.grow hg) (by omega)
  ·have e:(V.mk 5 0 b [] []).key=64::dC b:=by rw[fG];simp
   rw[e] at hlen ⊢;have:=(pP b).1;simp only[aT,dC,bG,bz] at hlen;exact zg 5 (by decide) pb A c bs _ _ _ _ _ _ _ _ _ _ _ w hW (fun w' hg=>ach pb A c bs b _ _ _ _ _ _ _ _ w' (hW.grow hg) (eX (fk (eJ hg.below (pI hW.1.lt)) (ay _) (ay _) (ay _)) hb0) (by omega))
  ·have e:(V.mk 6 0 b [] []).key=80::dC b:=by rw[fG];simp
   rw[e] at hlen ⊢;have:=(pP b).1;simp only[aT,dC,bG,bz] at hlen;exact zg 6 (by decide) pb A c bs _ _ _ _ _ _ _ _ _ _ _ w hW (fun w' hg=>aci pb A c bs b _ _ _ _ _ _ _ _ w' (hW.grow hg) (eX (fk (eJ hg.below (pI hW.1.lt)) (ay _) (ay _) (ay _)) hb0) (by omega))
  ·have e:(V.mk 7 0 [] l []).key=96::((l.map V.ek).flatten++[0]):=by rw[fG];simp
   rw[e] at hlen ⊢;simp only[aT,bG,bz] at hlen;exact zg 7 (by decide) pb A c bs _ _ _ _ _ _ _ _ _ _ _ w hW (fun w' hg=>acj pb A c bs l _ _ _ _ _ _ _ _ w' (hW.grow hg) (fun x hx=>hl x hx (hfit.2.1 x hx) (hl' x hx)) (hV.o.below (eJ hg.below (pI hW.1.lt)) (ay _) (ay _)) (by omega))
  have e:(V.mk 8 0 [] [] f).key=112::((f.map V.eo).flatten++[0]):=by rw[fG];simp
  rw[e] at hlen ⊢;simp only[aT,bG,bz] at hlen;exact zg 8 (by decide) pb A c bs _ _ _ _ _ _ _ _ _ _ _ w hW (fun w' hg=>acm pb A c bs f _ _ _ _ _ _ _ _ w' (hW.grow hg) (fun x hx=>hf x hx (hfit.2.2 x hx) (hf' x hx).2) (hV.o.below (eJ hg.below (pI hW.1.lt)) (ay _) (ay _)) (by omega) (fun x hx=>ac3 (hf' x hx).1))
end
section
open Go.RowKit Go.Shelf Go.WideShapes
theorem ac4(l:List V)(h:∀x∈l,x.key.length+1≤4*x.bytes.length):(l.map V.ek).flatten.length≤4*(l.map V.bytes).flatten.length:=by
 induction l with
 | nil=>simp
 | cons x l ih =>
  have h1:=h x vK;have h2:=ih (fun y hy=>h y (tK _ hy));simp only[fH,mo,bG,V.ek,aT];omega
theorem ac5(l:List (ByteArray×V))(h:∀x∈l,x.2.key.length+1≤4*x.2.bytes.length):(l.map V.eo).flatten.length≤4*(l.map fun x=>V.item x.1 x.2.bytes).flatten.length:=by
 induction l with
 | nil=>simp
 | cons x l ih =>
  have h1:=h x vK;have h2:=ih (fun y hy=>h y (tK _ hy));have h3:=(pP x.1.data.toList).2;have h4:x.1.data.toList.length=x.1.size:=by simp
  simp only[fH,mo,bG,V.eo,aT,C_,dC,bz];omega
theorem VT(v:V):v.formed=true→v.key.length+1≤4*v.bytes.length:=by
 induction v using V.ind with
 | h k n b l f hl hf =>
  intro fF;rcases rU fF with h | ⟨n',hn',h⟩ | ⟨n',h⟩ | ⟨n',h⟩ | ⟨b',hb',h⟩ | ⟨b',h⟩ | ⟨l',hl',h⟩ | ⟨f',hf',hnd,h⟩<;>cases h
  ·rw[fG,i7];simp
  ·rw[fG,i7];simp
  ·rw[fG,i7];simp[mZ,fX,jG]
  ·rw[fG,i7];simp only[kJ];simp;split<;>simp[fX,jG]
  ·have:=(pP b).2;rw[fG,i7];simp[dC,jG];omega
  ·have:=(pP b).2;rw[fG,i7];simp[dC,jG];omega
  ·have:=ac4 l (fun x hx=>hl x hx (hl' x hx));have e:(V.mk 7 0 [] l []).key=96::((l.map V.ek).flatten++[0]):=by rw[fG];simp
   rw[e,C9];simp only[aT,bG,bz];omega
  have:=ac5 f (fun x hx=>hf x hx (hf' x hx).2);have e:(V.mk 8 0 [] [] f).key=112::((f.map V.eo).flatten++[0]):=by rw[fG];simp
  rw[e,AK];simp only[aT,bG,bz];omega
def nj(w:World)(p:List UInt8×Int)(e:Ending)(w':World):Prop:=
 ∃base A c,e=.returned (.tuple #[.slice A p.1.length c,.int .i64 p.2])∧w.heap.size≤base∧Row w' base (.slice A p.1.length c) p.1.length p.1∧Grow w w'
theorem nj.bad{w w':World}{e:Int}(h:Grow w w'):nj w ([],e) (.returned (.tuple #[.slice none 0 0,.int .i64 e])) w':=
 ⟨w.heap.size,none,0,rfl,ay _,iY _ _ _ _,h⟩
theorem ac6(v:V)(c:Cv)(w:World)(hfit:v.fit)(hm:v.zb)(hT:eP w)(hv:In w v c):Calls prog 53 #[c.agg] w (nj w (cI v)):=by
 have aM:=aa ((ah w).alloc (.cells c.cells 27));have bg:=aa (aD w 27 c.cells);have hcell:=(aD w 27 c.cells).cell;have uh:=aa (K0 v _ c hm (hT.grow aM.o) (hv.grow aM.o));have HV:=aa hv;have Pj:=aa hfit;obtain⟨g,hg⟩:∃g,v.good=g:=⟨_,rfl⟩;rw[hg] at uh;have aC:=aa hg;clear hT hv hfit hg;go_enter func53,ntmps53;go_wp2_with fail;refine uh.o.mono ?_;rintro e w1 ⟨rfl,hg1⟩;have fB:=bg.o.grow hg1;have aO:=aa (aM.o.trans hg1);have aQ:=aa fB;have hc1:=fB.cell;have iO:=fB.lt;clear hg1 fB hcell;by_cases h0:g=0
 ·subst h0;have hf:=lR aC.o;have hkl:=VT v hf.1;have GI:v.key.length≤16384:=by have:=hf.2;omega
  have HF:=aa hf;have hrow:Row (w1.alloc (.cells #[.slice none 0 0] 150)) (w1.heap.size+1) (.slice none 0 0) 0 []:=iY _ _ _ _;have HC:=aa (ac2 v Pj.o hf.1 w1.heap.size none 0 [] c (w1.alloc (.cells #[.slice none 0 0] 150)) ⟨aD w1 _ _,hrow⟩ (((HV.o.grow aO.o).under).below (oH (jZ _ w1) (ay _) _) (ay _) (ay _)) (by simp only[bz];omega));rw[pE] at HC;clear hf hrow hkl;go_wp2_with fail;refine HC.o.mono ?_;rintro e w2 ⟨A2,c2,rfl,h1,h2⟩;obtain⟨KB,xz⟩:∃K,v.key=K:=⟨_,rfl⟩;rw[xz] at h1 h2 GI;have kZ:=aa xz;have hcw:w2.cell? ⟨w1.heap.size,0,none⟩=some (.slice A2 KB.length c2):=h1.1.cell 0;have Dw:=h1.1.lt;have HW:=aa h1
  have GJ:=aa (show Grow w1 w2 from cU ((ah w1).alloc (.cells #[.slice none 0 0] 150)) (h2.below (bs:=[]) ⟨aD w1 _ _,iY _ _ _ _⟩));clear h1 h2 HC xz;by_cases hlen:96<KB.length
  ·go_wp2_with fail;go_ret2;rw[show cI v=([],14) by unfold cI;rw[ai (by have:=aC.o;omega),aw (by rw[kZ.o];exact hlen)]];exact nj.bad (aO.o.trans GJ.o)
  obtain⟨cur,nk,hmk⟩:=VV KB.length (by omega);have kV:=aa (Row.made (w:=w2.drew) cur KB.length (by simp only[maxLen];omega) nk);have jk:=aa (show Src prog 1 23 (.slice A2 KB.length c2) KB.length (bT KB) (w2.drew.alloc (.cells cur 5)) from fe eH (HW.o.2.reads.1.grow ((ah w2).drew.alloc _)) (i6 _));have ac7:(w2.drew.alloc (.cells cur 5)).cell? ⟨w1.heap.size,0,none⟩=some (.slice A2 KB.length c2):=(((ah w2).drew.alloc (.cells cur 5)).below.cell (p:=⟨w1.heap.size,0,none⟩) Dw).trans hcw;go_wp2_with fail;refine dN ?_;refine dO (S:=fun w'=>w'.cell? ⟨w1.heap.size,0,none⟩=some (.slice A2 KB.length c2)) (by kernel_rfl) (hcw) (fun hHeld=>?_);refine aj 0 ?_;refine aj 1 ?_;refine aj 2 ?_;refine aj 3 ?_;refine aj 4 ?_;refine aj 6 ?_;refine aj 7 ?_;refine aj 8 ?_
  refine aj 9 ?_;refine aK 5 (fun K hK=>?_);go_simp;refine aU hK (ac7) (fun hHeld=>?_);clear hK K;refine aK 10 (fun K hK=>?_);refine oJ (ys:=KB) rfl (.tmp 27) (.tmp 31) _ rfl rfl kV.o _ rfl jk.o (by omega) (by simp) ?_;intro A3 c3 w3 hr3 hg3;rw[dY,pE] at hr3;have fT:=aa hr3;have aP:=aa (show Grow w2 w3 from cU ((ah w2).drew.alloc _) (eI hg3 kV.o (by simp)));clear hr3 hg3;refine aU hK ((aP.o.below.cell (p:=⟨w1.heap.size,0,none⟩) Dw).trans hcw) (fun hHeld=>?_);clear hK K;refine aj 11 ?_;refine aj 12 ?_;refine cz ?_;rw[dY];go_wp2_with fail;go_ret2;rw[show cI v=(KB,0) by unfold cI;rw[ai (by have:=aC.o;omega),ai (by rw[kZ.o];exact hlen),kZ.o]]
  exact⟨w2.drew.heap.size,A3,c3,rfl,by have:=aO.o.size;have:=GJ.o.size;simp;omega,fT.o,(aO.o.trans GJ.o).trans aP.o⟩
 have h0':(g==0)=false:=by simpa using h0
 have ac8:(g != 0)=true:=by simpa using h0
 clear h0;go_wp2_with fail;go_ret2;rw[show cI v=([],g) by unfold cI;rw[aC.o,aw (by simpa using ac8)]];exact nj.bad aO.o
theorem ac9(v:V)(c:Cv)(w:World)(hfit:v.fit)(gB:v.count≤20000)(hT:eP w)(hv:In w v c):Calls prog 53 #[c.agg] w (nj w (cI v)):=ac6 v c w hfit (zi gB hv) hT hv
end
section
open Go.RowKit Go.Shelf Go.WideShapes
theorem VW:∀(l:List V) (j:Nat) (h:j<l.length),(∀i (hi:i<l.length),i<j→(cI l[i]).2=0)→(cI l[j]).2≠0→qJ l=(cI l[j]).2
 | [],j,h,_,_=>by simp at h
 | x::l,0,h,_,hn=>by rw[qJ];simp only[CW] at hn ⊢;rw[aw hn]
 | x::l,j+1,h,h0,hn=>by
  have hx:(cI x).2=0:=h0 0 (by simp) (by omega);rw[qJ,ai (by simpa using hx)];simp only[Fq] at hn ⊢;exact VW l j (by simpa using h) (fun i hi hij=>h0 (i+1) (by simpa using hi) (by omega)) hn
theorem Pk:∀(l:List V),(∀i (hi:i<l.length),(cI l[i]).2=0)→qJ l=0
 | [],_=>rfl
 | x::l,h=>by
  have hx:(cI x).2=0:=h 0 (by simp);rw[qJ,ai (by simpa using hx)];exact Pk l (fun i hi=>h (i+1) (by simpa using hi))
theorem VX:∀(l:List V) (ts:List Bool) (j:Nat) (h1:j<l.length) (h2:j<ts.length),nY (l.take (j+1)) (ts.take (j+1))=nY (l.take j) (ts.take j)++flip ts[j] l[j].key
 | [],_,j,h,_=>by simp at h
 | _::_,[],j,_,h=>by simp at h
 | x::l,t::ts,0,_,_=>by simp[nY]
 | x::l,t::ts,j+1,h1,h2=>by
  simp only[NG,nY,Fq,nQ];rw[VX l ts j (by simpa using h1) (by simpa using h2)]
theorem ac_{v:V}(h:(cI v).2=0):cI v=(v.key,0):=by
 have hg:=K4 h;unfold cI;rw[ai (by omega),ai (by omega)]
theorem ada{l:List V}{ts:List Bool}(h:l.length≠ts.length):j_ l ts=([],1):=by unfold j_;rw[aw h]
theorem adb{l:List V}{ts:List Bool}(h:l.length=ts.length){e:Int}(he:e≠0)(j:Nat)(hj:j<l.length)(h0:∀i (hi:i<l.length),i<j→(cI l[i]).2=0)(hx:(cI l[j]).2=e):j_ l ts=([],e):=by
 have:=VW l j hj h0 (by rw[hx];exact he);unfold j_;rw[ai (by omega),this,hx,aw he]
theorem ade{l:List V}{ts:List Bool}(h:l.length=ts.length)(h0:∀i (hi:i<l.length),(cI l[i]).2=0)(hb:96<(nY l ts).length):j_ l ts=([],14):=by
 unfold j_;rw[ai (by omega),ai (by rw[Pk l h0];simp),aw hb]
theorem adf{l:List V}{ts:List Bool}(h:l.length=ts.length)(h0:∀i (hi:i<l.length),(cI l[i]).2=0)(hb:(nY l ts).length≤96):j_ l ts=(nY l ts,0):=by
 unfold j_;rw[ai (by omega),ai (by rw[Pk l h0];simp),ai (by omega)]
end
abbrev ui:=@nj.bad
section
open Go.RowKit
def bM(v:V):List UInt8×Int:=
 if v.good≠0 then ([],v.good) else if v.k≠8 then ([],4) else match gI v with | none=>([],14) | some i=>cI i
theorem VY{v i:V}(h:gI v=some i):∃s,(s,i)∈v.f:=by
 unfold gI at h;rw[CZ] at h;obtain⟨⟨s,x⟩,h1,rfl⟩:=h;exact⟨s,C0 h1⟩
theorem K5:∀{l:List Nat} {x:Nat},x∈l→x≤l.sum
 | y::l,x,h=>by
  rw[pG];rcases je.1 h with rfl | h
  ·exact Nat.le_add_right _ _
  exact bn (K5 h) (Nat.le_add_left _ _)
theorem GK{v i:V}(h:gI v=some i):i.count≤v.count:=by
 obtain⟨s,hs⟩:=VY h;obtain⟨k,n,b,l,f⟩:=v;rw[tP];have h1:i.count∈f.map fun x=>x.2.count:=j3.2 ⟨(s,i),hs,rfl⟩
 have h2:=K5 h1;show i.count≤_;omega
theorem VZ(v:V)(c:Cv)(w:World)(gB:v.count≤20000)(hT:eP w)(hv:In w v c):Calls prog 24 #[c.agg] w (nj w (bM v)):=by
 have aM:=aa ((ah w).alloc (.cells c.cells 27));have bg:=aa (aD w 27 c.cells);have hcell:=(aD w 27 c.cells).cell;have uh:=aa (zj v _ c gB (hT.grow aM.o) (hv.grow aM.o));have HV:=aa hv;have HT:=aa hT;obtain⟨g,hg⟩:∃g,v.good=g:=⟨_,rfl⟩;rw[hg] at uh;have aC:=aa hg;have HK:Hid (c.k=v.k):=aa (by obtain⟨k,n,b,l,f⟩:=v;obtain⟨aB,aL,aF,cB,cL,cF,rfl,_⟩:=In.open hv;rfl);clear hT hv hg;go_enter func24,ntmps24;go_wp2_with fail;refine uh.o.mono ?_;rintro e w1 ⟨rfl,hg1⟩;have fB:=bg.o.grow hg1;have aO:=aa (aM.o.trans hg1);have aQ:=aa fB;have hc1:=fB.cell;have iO:=fB.lt;clear hg1 fB hcell;by_cases h0:g=0
 ·subst h0;by_cases h8:c.k=8
  ·have uk:=aa (fun w2 (h:Grow w w2)=>Vl v c w w2 h HV.o);have H8:=aa h8;have Dx:(c.k==8)=true:=by rw[h8];rfl
   clear h8;go_wp2_with fail;refine(uk.o w1 aO.o).mono ?_;rintro e w2 ⟨hg2,ci,t,u,rfl,zk,hres⟩;have HG2:=aa (aO.o.trans hg2);have aP:=aa ((aO.o.trans hg2).alloc (.cells ci.cells 27));have Pm:=aa (aD w2 27 ci.cells);have GL:=Pm.o.cell;have Dy:=aa zk;clear zk hg2;rcases hres with ⟨hid,rfl⟩ | ⟨hid,rfl,rfl,rfl⟩
   ·have HP:=aa (show bM v=cI u by unfold bM;rw[ai (by have:=aC.o;omega),ai (by rw[← HK.o,H8.o];simp),hid]);have pR:=aa (ac9 u ci _ (IsV.fit u ci Dy.o) (bn (GK hid) gB) (HT.o.grow aP.o) (Dy.o.grow aP.o));clear hid;go_wp2_with fail;refine pR.o.mono ?_;rintro e w3 ⟨base,A3,c3,rfl,hb3,hr3,hg3⟩;have fT:=aa hr3;have cj:=aa (aP.o.trans hg3);have aV:=aa (bn aP.o.size hb3);clear hr3 hg3 hb3;go_wp2_with fail;go_ret2;rw[HP.o];exact⟨base,A3,c3,rfl,aV.o,fT.o,cj.o⟩
   go_wp2_with fail;go_ret2;rw[show bM v=([],14) by unfold bM;rw[ai (by have:=aC.o;omega),ai (by rw[← HK.o,H8.o];simp),hid]];exact ui aP.o
  go_wp2_with fail;go_ret2;rw[show bM v=([],4) by unfold bM;rw[ai (by have:=aC.o;omega),aw (by rw[← HK.o];exact h8)]];exact ui aO.o
 go_wp2_with fail;go_ret2;rw[show bM v=([],g) by unfold bM;rw[aw (by have:=aC.o;omega),aC.o]];exact ui aO.o
end
section
open Go.RowKit
theorem adg{v u:V}{s:ByteArray}(h:jl v s=some u):u.count≤v.count:=by
 obtain⟨k,n,b,l,f⟩:=v;rw[tP];by_cases h7:k=7
 ·subst h7;rw[zl] at h;split at h
  ·have hm:u.count∈l.map V.count:=j3.2 ⟨u,yO h,rfl⟩;have:=K5 hm;omega
  cases h
 rw[vY h7,CZ] at h;obtain⟨⟨t,x⟩,h1,rfl⟩:=h;have hm:x.count∈f.map fun x=>x.2.count:=j3.2 ⟨(t,x),C0 h1,rfl⟩
 have:=K5 hm;show x.count≤_;omega
theorem V4:∀{l:List ByteArray} {v u:V},lf v l=some u→u.count≤v.count
 | [],v,u,h=>by rw[lf] at h;injection h with h;rw[h];exact ay _
 | s::r,v,u,h=>by
  rw[lf,Kn] at h;obtain⟨x,h1,h2⟩:=h;exact bn (V4 h2) (adg h1)
theorem adh{v u:V}{s:ByteArray}(h:g_ v s=some u):u.count≤v.count:=by
 unfold g_ at h;split at h
 ·split at h
  ·injection h with h;rw[h];exact ay _
  exact V4 h
 cases h
def eu(path:ByteArray)(v:V):List UInt8×Bool×Int:=
 if (bM v).2≠0 then ([],false,(bM v).2) else match g_ v path with
  | none=>([],false,0)
  | some u=>if (j_ [u,(gI v).getD V.zero] [false,false]).2≠0 then ([],false,(j_ [u,(gI v).getD V.zero] [false,false]).2)
   else ((j_ [u,(gI v).getD V.zero] [false,false]).1,true,0)
def Dz(w:World)(p:List UInt8×Bool×Int)(e:Ending)(w':World):Prop:=
 ∃base A c,e=.returned (.tuple #[.slice A p.1.length c,.bool p.2.1,.int .i64 p.2.2])∧w.heap.size≤base∧Row w' base (.slice A p.1.length c) p.1.length p.1∧Grow w w'
theorem Dz.bad{w w':World}{e:Int}{t:Bool}(h:Grow w w'):Dz w ([],t,e) (.returned (.tuple #[.slice none 0 0,.bool t,.int .i64 e])) w':=
 ⟨w.heap.size,none,0,rfl,ay _,iY _ _ _ _,h⟩
theorem adi(w:World)(s t:Bool):V5 (w.alloc (.cells #[.bool s,.bool t] 4)) (some ⟨w.heap.size,0,none⟩) [s,t]:=by
 refine⟨rfl,fun _=>⟨w.heap.size,0,rfl,fun j u hu=>?_⟩⟩;have hn:=aD w 4 #[.bool s,.bool t];rcases j with _ | _ | j
 ·cases hu;exact⟨hn.cell 0,ba _,hn.lt⟩
 ·cases hu;exact⟨hn.cell 1,ba _,hn.lt⟩
 simp at hu
abbrev Ix.agg(x:Ix):Value:=.agg x.cells
end
section
open Go.RowKit
def um(path:ByteArray)(d:V):Option (List UInt8×Int×V):=
 if (eu path d).2.1 then some ((eu path d).1,((eu path d).1.length:Int)-((cI ((gI d).getD V.zero)).1.length:Int),d) else none
def jd(path:ByteArray):List V→Int
 | []=>0
 | d::r=>if (eu path d).2.2≠0 then (eu path d).2.2 else jd path r
def np(path:ByteArray)(ag:List V):List (List UInt8×Int×V):=ag.filterMap (um path)
theorem V6{path:ByteArray}:∀{ag:List V},(∀j (h:j<ag.length),(eu path ag[j]).2.2=0)→jd path ag=0
 | [],h=>rfl
 | d::r,h=>by
  rw[jd,ai (by have:=h 0 (by simp);simpa using this)];exact V6 fun j hj=>by have:=h (j+1) (by simpa using hj);simpa using this
theorem V7{path:ByteArray}:∀{ag:List V} {j:Nat} (hj:j<ag.length),(∀i (h:i<ag.length),i<j→(eu path ag[i]).2.2=0)→(eu path ag[j]).2.2≠0→jd path ag=(eu path ag[j]).2.2
 | d::r,0,hj,h,he=>by rw[jd,aw (by simpa using he)];rfl
 | d::r,j+1,hj,h,he=>by
  rw[jd,ai (by have:=h 0 (by simp) (by omega);simpa using this)];exact V7 (ag:=r) (j:=j) (by simpa using hj) (fun i hi hij=>by have:=h (i+1) (by simpa using hi) (by omega);simpa using this) (by simpa using he)
theorem adj{path:ByteArray}{ag:List V}{j:Nat}(hj:j<ag.length):np path (ag.take (j+1))=np path (ag.take j)++(um path ag[j]).toList:=by
 unfold np;rw[FC,cJ hj,List.filterMap_append]
 cases h:um path ag[j]<;>simp[h]
end
section
open Go.RowKit
theorem adk(c:Cc)(s:ByteArray)(w:World):Calls prog 163 #[.agg c.cells,.string s] w fun e w'=>e=.returned (.int .i64 (Lib.compareBytes c.nm.data.toList s.data.toList))∧Grow w w':=by
 have HS:=aa (fun w=>Pn c.nm s w);have HG:=aa ((ah w).alloc (.cells c.cells 48));go_enter func163,ntmps163;go_wp2_with (go_at_call 97;refine(HS.o _).mono ?_;rintro e w' ⟨rfl,rfl⟩);go_ret;exact⟨rfl,HG.o⟩
theorem adl(c:Ix)(s:ByteArray)(w:World):Calls prog 171 #[.agg c.cells,.string s] w fun e w'=>e=.returned (.int .i64 (Lib.compareBytes c.name.data.toList s.data.toList))∧Grow w w':=by
 have HS:=aa (fun w=>Pn c.name s w);have HG:=aa ((ah w).alloc (.cells c.cells 64));go_enter func171,ntmps171;go_wp2_with (go_at_call 97;refine(HS.o _).mono ?_;rintro e w' ⟨rfl,rfl⟩);go_ret;exact⟨rfl,HG.o⟩
theorem adm(v:V)(c:Cv)(k:List UInt8)(K:Option Addr)(kc:Nat)(w:World)(gB:v.count≤20000)(hT:eP w)(hv:In w v c)(hk:bA w K k):Calls prog 167 #[c.agg,.slice K k.length kc] w fun e w'=>e=.returned (.int .i64 (Lib.compareBytes (bM v).1 k))∧Grow w w':=by
 have aM:=aa ((ah w).alloc (.cells c.cells 27));have hcell:=(aD w 27 c.cells).cell;have HKEY:=aa (VZ v c _ gB (hT.grow aM.o) (hv.grow aM.o));have HK:=aa hk;obtain⟨⟨kb,ke⟩,iu⟩:∃r,bM v=r:=⟨_,rfl⟩;rw[iu] at HKEY ⊢;clear hT hv hk iu;go_enter func167,ntmps167;go_wp2_with fail;refine HKEY.o.mono ?_;rintro e w1 ⟨base,A1,c1,rfl,hb1,hr1,hg1⟩;dsimp only at hr1 ⊢;have aO:=aa (aM.o.trans hg1);have HC:=aa (Vg kb k A1 K c1 kc w1 hr1.reads.1 (HK.o.grow aO.o));clear hr1 hg1 hb1 hcell;go_wp2_with fail;refine HC.o.mono ?_;rintro e w2 ⟨rfl,rfl⟩;go_wp2_with fail;go_ret;exact⟨rfl,aO.o⟩
def mI(names:Nat→ByteArray)(s:ByteArray)(j:Nat):Int:=Lib.compareBytes (names j).data.toList s.data.toList
end
section
open Go.RowKit
def vZ(ag:List V)(k:List UInt8)(j:Nat):Int:=Lib.compareBytes (bM (ag.getD j V.zero)).1 k
theorem InL.rows{w:World}{A:Option Addr}{cap:Nat}{ag:List V}(h:InL w A cap ag):∃el:Nat→Cv,rX w A 5 ag.length (fun j=>(el j).cells)∧∀j (hj:j<ag.length),In w ag[j] (el j):=by
 have hx:∀j,∃x:Cv,∀hj:j<ag.length,∃bk o,A=some ⟨bk,o,none⟩∧bk<w.heap.size∧(∀i v,x.cells[i]?=some v→w.cell? ⟨bk,o+j*5+i,none⟩=some v)∧In w ag[j] x:=fun j=>by
  by_cases hj:j<ag.length
  ·obtain⟨bk,o,x,ha,hb,e0,e1,e2,e3,e4,hv⟩:=eN.fO h j hj;refine⟨x,fun _=>⟨bk,o,ha,hb,fun i v hi=>?_,hv⟩⟩;rcases i with _ | _ | _ | _ | _ | i
   ·cases hi;exact e0
   ·cases hi;exact e1
   ·cases hi;exact e2
   ·cases hi;exact e3
   ·cases hi;exact e4
   simp at hi
  exact⟨Cv.zero,fun h=>absurd h hj⟩
 refine⟨fun j=>Classical.choose (hx j),fun j hj=>?_,fun j hj=>?_⟩
 ·obtain⟨bk,o,ha,hb,hc,-⟩:=xd (hx j) hj;exact⟨bk,o,ha,hb,hc⟩
 obtain⟨bk,o,ha,hb,hc,hv⟩:=xd (hx j) hj;exact hv
theorem adn(ag:List V)(pb po cap:Nat)(A:Option Addr)(k:List UInt8)(K:Option Addr)(kc:Nat)(w:World)(gB:∀v∈ag,v.count≤20000)(hlen:ag.length≤140737488355328)(hT:eP w)(hc:w.cell? ⟨pb,po+1,none⟩=some (.slice A ag.length cap))(hpb:pb<w.heap.size)(hd:InL w A cap ag)(hk:bA w K k) :
 Calls prog 120 #[.pointer (some ⟨pb,po,none⟩),.slice K k.length kc] w fun e w'=>e=.returned (.tuple #[.int .i64 (ja (vZ ag k) ag.length:Nat),.bool (iq (vZ ag k) ag.length)])∧Grow w w':=by
 obtain⟨el,hrow,hin⟩:=hd.rows;have az:=aa (abZ ag.length (vZ ag k) el A cap (.slice K k.length kc) w hlen hrow (fun j hj w' hg=>by
  have h:=adm ag[j] (el j) k K kc w' (gB _ (aW hj)) (hT.grow hg) ((hin j hj).grow hg) (hk.grow hg);unfold vZ;rw[jf,cJ hj,rP];exact h))
 clear hrow hin hd hk hT gB;go_enter func120,ntmps120;go_wp2_with fail;refine az.o.mono ?_;rintro e w2 ⟨rfl,hg⟩;have HG:=aa hg;clear hg;go_wp2_with fail;go_ret2;exact⟨rfl,HG.o⟩
end
section
open Go.RowKit
structure Co where
 name:ByteArray
 ag:List V
 aq:List Ix
def bV(names:List ByteArray)(s:ByteArray):Nat:=ja (mI (fun j=>names.getD j ⟨#[]⟩) s) names.length
def cK(names:List ByteArray)(s:ByteArray):Bool:=iq (mI (fun j=>names.getD j ⟨#[]⟩) s) names.length
def iP(ag:List V)(k:List UInt8):Nat:=ja (vZ ag k) ag.length
def jm(ag:List V)(k:List UInt8):Bool:=iq (vZ ag k) ag.length
abbrev EN:=List UInt8×Int×V
def uo(x:EN):List EN→List EN
 | []=>[x]
 | y::r=>if cQ y.1 x.1 then y::uo x r else x::y::r
def zm(l:List EN):List EN:=l.foldl (fun a x=>uo x a) []
def pS(path:ByteArray)(ag:List V):List EN:=if jd path ag=0 then zm (np path ag) else []
def se:List EN→Bool
 | a::b::r=>decide (a.1.take a.2.1.toNat=b.1.take b.2.1.toNat)||se (b::r)
 | _=>false
def uq(d:V):List Ix→Int
 | []=>0
 | x::r=>if (eu x.path d).2.2≠0 then (eu x.path d).2.2 else uq d r
def zn(ag:List V):List Ix→Bool
 | []=>false
 | x::r=>(x.uniq&&se (pS x.path ag))||zn ag r
abbrev oM:=Except Int (List Co×Int×List V)
abbrev bh(st:List Co):List ByteArray:=st.map Co.name
abbrev gj(c:Co):List ByteArray:=c.aq.map Ix.name
def bD(st:List Co)(s:ByteArray):Co:=st.getD (bV (bh st) s) ⟨⟨#[]⟩,[],[]⟩
def cZ{α:Type}(l:List α)(i:Nat)(x:α):List α:=l.take i++x::l.drop i
def gD{α:Type}(l:List α)(i:Nat):List α:=l.take i++l.drop (i+1)
def nZ(st:List Co)(q:Rq):oM:=
 if V.name q.aA=false then .error 4 else if cK (bh st) q.aA=true then .error 6 else if 16≤st.length then .error 19 else
 .ok (cZ st (bV (bh st) q.aA) ⟨q.aA,[],[]⟩,0,[])
def GM(st:List Co)(q:Rq):oM:=
 if cK (bh st) q.aA=false then .error 5 else .ok (gD st (bV (bh st) q.aA),0,[])
def gm(ag:List V)(d:V):List V:=
 if jm ag (bM d).1=true then ag.set (iP ag (bM d).1) d else cZ ag (iP ag (bM d).1) d
def pT(st:List Co)(q:Rq):oM:=
 if cK (bh st) q.aA=false then .error 5 else if (bM q.doc).2≠0 then .error (bM q.doc).2 else
 if uq q.doc (bD st q.aA).aq≠0 then .error (uq q.doc (bD st q.aA).aq) else
 if jm (bD st q.aA).ag (bM q.doc).1=true∧q.bj≠3 then .error 6 else
 if zn (gm (bD st q.aA).ag q.doc) (bD st q.aA).aq=true then .error 13 else
 .ok (st.set (bV (bh st) q.aA) ⟨(bD st q.aA).name,gm (bD st q.aA).ag q.doc,(bD st q.aA).aq⟩,
  if jm (bD st q.aA).ag (bM q.doc).1=true then 1 else 0,[])
def GN(st:List Co)(q:Rq):oM:=
 if cK (bh st) q.aA=false then .error 5 else if (cI q.key).2≠0 then .error (cI q.key).2 else
 if jm (bD st q.aA).ag (cI q.key).1=false then .error 17 else
 .ok (st.set (bV (bh st) q.aA) ⟨(bD st q.aA).name,gD (bD st q.aA).ag (iP (bD st q.aA).ag (cI q.key).1),(bD st q.aA).aq⟩,
  0,[(bD st q.aA).ag.getD (iP (bD st q.aA).ag (cI q.key).1) V.zero])
def Po(st:List Co)(q:Rq):oM:=
 if cK (bh st) q.aA=false then .error 5 else if (cI q.key).2≠0 then .error (cI q.key).2 else
 if jm (bD st q.aA).ag (cI q.key).1=false then .error 17 else
 .ok (st,0,[(bD st q.aA).ag.getD (iP (bD st q.aA).ag (cI q.key).1) V.zero])
def GP(st:List Co)(q:Rq):oM:=
 if V.name q.index=false then .error 4 else if 200<q.path.size then .error 2 else if cK (bh st) q.aA=false then .error 5 else
 if cK (gj (bD st q.aA)) q.index=true then .error 6 else if 8≤(bD st q.aA).aq.length then .error 19 else
 if jd q.path (bD st q.aA).ag≠0 then .error (jd q.path (bD st q.aA).ag) else
 if q.unique=true∧se (pS q.path (bD st q.aA).ag)=true then .error 13 else
 .ok (st.set (bV (bh st) q.aA) ⟨(bD st q.aA).name,(bD st q.aA).ag,cZ (bD st q.aA).aq (bV (gj (bD st q.aA)) q.index) ⟨q.index,q.path,q.unique⟩⟩,0,[])
def GQ(st:List Co)(q:Rq):oM:=
 if cK (bh st) q.aA=false then .error 5 else if cK (gj (bD st q.aA)) q.index=false then .error 5 else
 .ok (st.set (bV (bh st) q.aA) ⟨(bD st q.aA).name,(bD st q.aA).ag,gD (bD st q.aA).aq (bV (gj (bD st q.aA)) q.index)⟩,0,[])
def countP(st:List Co)(q:Rq):oM:=
 if cK (bh st) q.aA=false then .error 5 else .ok (st,(bD st q.aA).ag.length,[])
def ei(v:V):Int:=if v.k=0 then 0 else v.good
def sj(q:Rq)(path:ByteArray)(d:V):V:=if q.index=⟨#[]⟩ then (gI d).getD V.zero else (g_ d path).getD V.zero
def sk(c:Co)(q:Rq):ByteArray:=(c.aq.getD (bV (gj c) q.index) ⟨⟨#[]⟩,⟨#[]⟩,false⟩).path
def zo(c:Co)(q:Rq):List V:=if q.index=⟨#[]⟩ then c.ag else (pS (sk c q) c.ag).map fun x=>x.2.2
noncomputable def v_(c:Co)(q:Rq):List V:=((zo c q).filter fun d=>fQ (sj q (sk c q) d) q.low q.high).take q.n.toNat
noncomputable def qK(st:List Co)(q:Rq):oM:=
 if cK (bh st) q.aA=false then .error 5 else if cK (gj (bD st q.aA)) q.index=false∧q.index≠⟨#[]⟩ then .error 5 else
 if q.n<1∨64<q.n then .error 1 else if ei q.low≠0 then .error (ei q.low) else if ei q.high≠0 then .error (ei q.high) else
 .ok (st,((v_ (bD st q.aA) q).length:Int),v_ (bD st q.aA) q)
noncomputable def kf(st:List Co)(q:Rq):oM:=
 if q.bj=1 then nZ st q else if q.bj=2 then GM st q else if q.bj=3 then pT st q else if q.bj=4 then pT st q else if q.bj=5 then GN st q else
 if q.bj=6 then Po st q else if q.bj=7 then GP st q else if q.bj=8 then GQ st q else if q.bj=9 then qK st q else if q.bj=10 then countP st q else .error 1
noncomputable def kg(st:List Co)(q:Rq):List Co×Rp:=
 match kf st q with
 | .error e=>(st,⟨e,0,[],0⟩)
 | .ok (st',n,ag)=>(st',⟨0,n,ag,0⟩)
end
section
open Go.RowKit
section
variable {α:Type} (f:α→List Value) (z:Nat) (hz:∀x,(f x).length=z)
include hz
theorem DA:∀(l:List α),((l.map f).flatten).length=l.length*z
 | []=>by simp
 | x::r=>by rw[fH,mo,bG,hz,DA r,aT,mn,rO,Fz]
theorem ur:∀(l:List α) (j:Nat),((l.map f).flatten).drop (j*z)=((l.drop j).map f).flatten
 | l,0=>by simp
 | [],j+1=>by simp
 | x::r,j+1=>by
  rw[fH,mo,List.drop_succ_cons,← ur r j,mn,rO,Fz,← Ka,List.drop_left' (hz x)]
theorem zq:∀(l:List α) (j:Nat),((l.map f).flatten).take (j*z)=((l.take j).map f).flatten
 | l,0=>by simp
 | [],j+1=>by simp
 | x::r,j+1=>by
  have e:(j+1)*z=(f x).length+j*z:=by rw[hz,mn,rO,Fz]
  rw[fH,mo,NG,fH,mo,← zq r j,e,List.take_length_add_append]
theorem qL(l:List α)(j i:Nat)(hi:i<z)(x:α)(hj:l[j]?=some x):((l.map f).flatten)[j*z+i]?=(f x)[i]?:=by
 have hjl:j<l.length:=(kC.1 hj).1;have he:l[j]=x:=(kC.1 hj).2;rw[← wY,ur f z hz,Aw hjl,fH,mo,Ke (by rw[hz];exact hi),he]
theorem V8(l:List α)(i:Nat)(x:α):((l.map f).flatten).take (i*z)++f x++((l.map f).flatten).drop (i*z)=((cZ l i x).map f).flatten:=by
 rw[zq f z hz,ur f z hz,cZ,nR,Av,fH,mo,nQ]
theorem V9(l:List α)(i:Nat)(x:α)(h:i<l.length):((l.map f).flatten).take (i*z)++f x++((l.map f).flatten).drop ((i+1)*z)=((l.set i x).map f).flatten:=by
 rw[zq f z hz,ur f z hz,NY,aw h,nR,Av,fH,mo,nQ]
end
def Two{α β:Type}(R:α→β→Prop)(l:List α)(m:List β):Prop:=l.length=m.length∧∀(j:Nat) a b,l[j]?=some a→m[j]?=some b→R a b
namespace Two
variable {α β:Type} {R:α→β→Prop} {l:List α} {m:List β}
theorem mono{R':α→β→Prop}(h:Two R l m)(hR:∀a b,R a b→R' a b):Two R' l m:=⟨h.1,fun j a b ha hb=>hR a b (h.2 j a b ha hb)⟩
theorem nil:Two R [] []:=⟨rfl,fun j a b ha=>by simp at ha⟩
theorem take(h:Two R l m)(i:Nat):Two R (l.take i) (m.take i):=⟨by rw[dS,dS,h.1],fun j a b ha hb=>by
 rw[FI] at ha hb;split at ha
 ·rw[aw ‹_›] at hb;exact h.2 j a b ha hb
 cases ha⟩
theorem drop(h:Two R l m)(i:Nat):Two R (l.drop i) (m.drop i):=⟨by rw[iM,iM,h.1],fun j a b ha hb=>by
 rw[wY] at ha hb;exact h.2 _ a b ha hb⟩
theorem append{l':List α}{m':List β}(h:Two R l m)(k:Two R l' m'):Two R (l++l') (m++m'):=⟨by rw[bG,bG,h.1,k.1],fun j a b ha hb=>by
 by_cases hj:j<l.length
 ·rw[Ke hj] at ha;rw[Ke (by rw[← h.1];exact hj)] at hb;exact h.2 j a b ha hb
 rw[NQ (by omega)] at ha;rw[NQ (by rw[← h.1];omega),← h.1] at hb;exact k.2 _ a b ha hb⟩
theorem cons{a:α}{b:β}(h:R a b)(k:Two R l m):Two R (a::l) (b::m):=⟨by rw[aT,aT,k.1],fun j x y ha hb=>by
 rcases j with _ | j
 ·simp at ha hb;rw[← ha,← hb];exact h
 exact k.2 j x y (by simpa using ha) (by simpa using hb)⟩
theorem one{a:α}{b:β}(h:R a b):Two R [a] [b]:=cons h nil
theorem del(h:Two R l m)(i:Nat):Two R (gD l i) (gD m i):=(h.take i).append (h.drop (i+1))
theorem ins(h:Two R l m)(i:Nat){a:α}{b:β}(k:R a b):Two R (cZ l i a) (cZ m i b):=(h.take i).append (cons k (h.drop i))
theorem set(h:Two R l m)(i:Nat){a:α}{b:β}(k:R a b):Two R (l.set i a) (m.set i b):=⟨by rw[kD,kD,h.1],fun j x y ha hb=>by
 rw[List.getElem?_set] at ha hb;split at ha
 ·rename_i hij;rw[aw hij] at hb;split at ha
  ·split at hb
   ·cases ha;cases hb;exact k
   cases hb
  cases ha
 rw[ai ‹_›] at hb;exact h.2 j x y ha hb⟩
theorem set'(hl:l.length=m.length)(i:Nat){a:α}{b:β}(h:∀(j:Nat) x y,j≠i→l[j]?=some x→m[j]?=some y→R x y)(k:R a b):Two R (l.set i a) (m.set i b):=⟨by rw[kD,kD,hl],fun j x y ha hb=>by
 rw[List.getElem?_set] at ha hb;split at ha
 ·rename_i hij;rw[aw hij] at hb;split at ha
  ·split at hb
   ·cases ha;cases hb;exact k
   cases hb
  cases ha
 rename_i hij;rw[ai hij] at hb;exact h j x y (fun e=>hij e.symm) ha hb⟩
theorem at_(h:Two R l m){j:Nat}(hj:j<l.length)(hj':j<m.length):R l[j] m[j]:=h.2 j _ _ (cJ hj) (cJ hj')
end Two
abbrev Cc.zero:Cc:=⟨⟨#[]⟩,none,0,0,none,0,0⟩
def dK(es:List Cc):List Value:=(es.map fun e=>e.cells.toList).flatten
def fU(xs:List Ix):List Value:=(xs.map fun x=>x.cells.toList).flatten
def dG(cs:List Cv):List Value:=(cs.map fun c=>c.cells.toList).flatten
theorem V_(es:List Cc):(dK es).length=es.length*3:=DA _ 3 (fun _=>rfl) es
theorem ado(es:List Ix):(fU es).length=es.length*3:=DA _ 3 (fun _=>rfl) es
theorem Pp(es:List Cv):(dG es).length=es.length*5:=DA _ 5 (fun _=>rfl) es
theorem DC(es:List Cc):∀v∈dK es,v.oneCell'=true:=by
 intro v hv;simp only[dK,FL,j3] at hv;obtain⟨_,⟨e,_,rfl⟩,h⟩:=hv;simp at h;rcases h with rfl | rfl | rfl<;>rfl
theorem DD(es:List Ix):∀v∈fU es,v.oneCell'=true:=by
 intro v hv;simp only[fU,FL,j3] at hv;obtain⟨_,⟨e,_,rfl⟩,h⟩:=hv;simp at h;rcases h with rfl | rfl | rfl<;>rfl
theorem DG(es:List Cv):∀v∈dG es,v.oneCell'=true:=by
 intro v hv;simp only[dG,FL,j3] at hv;obtain⟨_,⟨e,_,rfl⟩,h⟩:=hv;simp at h;rcases h with rfl | rfl | rfl | rfl | rfl<;>rfl
def eD(w:World)(S:Nat→Prop)(p:Addr)(u:Value):Prop:=w.cell? p=some u∧p.block<w.heap.size∧¬ S p.block
theorem eD.kept{S T:Nat→Prop}{w w':World}(hk:Kept T w w')(hs:∀q,T q→S q)(p:Addr)(u:Value)(h:eD w S p u):eD w' S p u:=
 ⟨(vG (hk.block p.block h.2.1 (fun ht=>h.2.2 (hs _ ht)))).trans h.1,df h.2.1 hk.size,h.2.2⟩
theorem eD.Be{S:Nat→Prop}{w:World}(p:Addr)(u:Value)(h:eD w S p u):bK w 0 w.heap.size p u:=⟨h.1,ba _,h.2.1⟩
theorem eD.sub{S T:Nat→Prop}{w:World}(hs:∀q,T q→S q)(p:Addr)(u:Value)(h:eD w S p u):eD w T p u:=⟨h.1,h.2.1,fun ht=>h.2.2 (hs _ ht)⟩
theorem eD.K6{S:Nat→Prop}{w:World}{lo hi:Nat}(hh:hi≤w.heap.size)(hs:∀q,S q→q<lo∨hi≤q)(p:Addr)(u:Value)(h:bK w lo hi p u):eD w S p u:=
 ⟨h.1,df h.2.2 hh,fun hq=>by have h1:=h.2.1;have h2:=h.2.2;rcases hs _ hq with e | e<;>omega⟩
def kK(w:World)(A:Option Addr)(xs:List Ix):Prop:=Reads (bK w 0 w.heap.size) 3 A xs.length (fU xs)
theorem kK.grow{w w':World}{A:Option Addr}{xs:List Ix}(h:kK w A xs)(hg:Grow w w'):kK w' A xs:=eX (fk hg.below (ay _) (ay _) hg.size) h
structure wh (C:Addr→Value→Prop) (e:Cc) (c:Co):Prop where
 nm:e.nm=c.name
 dn:e.dn=c.ag.length
 xn:e.xn=c.aq.length
 xc:c.aq.length≤e.xc
 ag:IsV C (.mk 7 0 [] c.ag []) (kH e.dA c.ag.length e.dc)
 aq:Reads C 3 e.xA c.aq.length (fU c.aq)
theorem wh.mono{C C':Addr→Value→Prop}(h:∀p u,C p u→C' p u){e:Cc}{c:Co}(k:wh C e c):wh C' e c:=⟨k.nm,k.dn,k.xn,k.xc,k.ag.mono h,k.aq.mono h⟩
abbrev su(w:World)(e:Cc)(c:Co):Prop:=wh (bK w 0 w.heap.size) e c
def dW(w:World)(A:Option Addr)(cap:Nat)(st:List Co):Prop:=
 st.length≤cap∧∃es,Two (su w) es st∧Reads (bK w 0 w.heap.size) 3 A st.length (dK es)
theorem dW.grow{w w':World}{A:Option Addr}{cap:Nat}{st:List Co}(h:dW w A cap st)(hg:Grow w w'):dW w' A cap st:=by
 obtain⟨hc,es,h1,h2⟩:=h;have hm:=fk hg.below (ay 0) (ay _) hg.size;exact⟨hc,es,h1.mono fun a b k=>k.mono hm,h2.mono hm⟩
theorem dW.nil(w:World):dW w none 0 []:=⟨ay _,[],Two.nil,⟨rfl,fun h=>by simp at h⟩⟩
abbrev bw(A:Option Addr):Option Nat:=A.map (·.block)
structure iQ (w:World) (B:Nat) (e:Cc) (c:Co):Prop where
 nm:e.nm=c.name
 dn:e.dn=c.ag.length
 xn:e.xn=c.aq.length
 ag:∃cs:List Cv,w.ownsRow B 27 5 (.slice e.dA c.ag.length e.dc) c.ag.length (dG cs)∧Two (fun v c=>eN w B v c) c.ag cs
 aq:w.ownsRow B 64 3 (.slice e.xA c.aq.length e.xc) c.aq.length (fU c.aq)
structure Own (w:World) (B:Nat) (A:Option Addr) (cap:Nat) (es:List Cc) (st:List Co):Prop where
 row:w.ownsRow B 48 3 (.slice A st.length cap) st.length (dK es)
 two:Two (iQ w B) es st
 GS:∀(i j:Nat) (a b:Cc),es[i]?=some a→es[j]?=some b→i≠j→∀g,bw a.dA=some g→bw b.dA≠some g
 GU:∀(i j:Nat) (a b:Cc),es[i]?=some a→es[j]?=some b→i≠j→∀g,bw a.xA=some g→bw b.xA≠some g
theorem bH(A:Option Addr)(n c:Nat):Value.ownBlock (.slice A n c)=bw A:=by cases A<;>rfl
theorem gF{S:Nat→Prop}{w w':World}{B:Nat}{T:TypeId}{z n c:Nat}{A:Option Addr}{xs:List Value}(h:w.ownsRow B T z (.slice A n c) n xs)(hk:Kept S w w')(hs:∀g,bw A=some g→¬ S g):w'.ownsRow B T z (.slice A n c) n xs:=by
 refine⟨h.1,?_⟩;rcases h.2 with hn | ⟨g,cap,cur,e,hb,hgg,rest⟩
 ·exact .inl hn
 refine .inr ⟨g,cap,cur,e,hb,?_,rest⟩;injection e with e1 e2 e3;rw[hk.block g (tM.1 hgg).1 (hs g (by rw[e1];rfl))];exact hgg
theorem ki{w w':World}{B:Nat}{T:TypeId}{z n c:Nat}{A:Option Addr}{xs:List Value}(h:w.ownsRow B T z (.slice A n c) n xs)(hg:Grow w w'):w'.ownsRow B T z (.slice A n c) n xs:=
 gF h (gJ (S:=fun _=>False) hg) (fun _ _ h=>h)
theorem lg{S:Nat→Prop}{w:World}{B:Nat}{T:TypeId}{z n c:Nat}{A:Option Addr}{xs:List Value}(h:w.ownsRow B T z (.slice A n c) n xs)(hs:∀g,bw A=some g→¬ S g):Reads (eD w S) z A n xs:=by
 refine⟨h.1,fun hn=>?_⟩;obtain⟨g,cur,e,hb,hg,-,-,-,ht,-⟩:=kL h hn;exact⟨g,0,e,fun j u hu=>by rw[dY];exact⟨zr hg ht j u hu,(tM.1 hg).1,hs g (by rw[e];rfl)⟩⟩
theorem nr{w:World}{B:Nat}{T:TypeId}{z n c:Nat}{A:Option Addr}{xs:List Value}(h:w.ownsRow B T z (.slice A n c) n xs):n≤c∧c≤maxLen:=by
 rcases h.2 with ⟨e,hn⟩ | ⟨g,cap,cur,e,hb,hgg,h1,h2,-⟩
 ·injection e with e1 e2 e3;subst hn;exact⟨ba _,by rw[e3];exact ba _⟩
 injection e with e1 e2 e3;rw[e3];exact⟨h1,h2⟩
theorem Pq{C:Addr→Value→Prop}{A:Option Addr}{ag:List V}{cs:List Cv}{cap:Nat}(h:Reads C 5 A ag.length (dG cs))(ht:Two (fun v c=>IsV C v c) ag cs)(hc:ag.length≤cap)(hl:ag.length≤140737488355328) :
 IsV C (.mk 7 0 [] ag []) (kH A ag.length cap):=by
 rw[IsV];refine⟨rfl,rfl,rfl,rfl,rfl,by decide,by decide,by decide,by simp,by simp,hc,hl,by simp,by simp,⟨rfl,fun h=>by simp at h⟩,fun i hi=>?_,fun i hi=>by simp at hi⟩;have hic:i<cs.length:=by rw[← ht.1];exact hi
 obtain⟨bk,o,ha,hcell⟩:=h.2 (by omega);have hg:∀k,k<5→(dG cs)[i*5+k]?=cs[i].cells.toList[k]?:=fun k hk=>qL _ 5 (fun _=>rfl) cs i k hk cs[i] (cJ hic)
 refine⟨bk,o,cs[i],ha,⟨?_,?_,?_,?_,?_⟩,ht.at_ hi hic⟩
 ·have:=hcell (i*5+0) _ (hg 0 (by omega));rwa [gf] at this
 ·have:=hcell (i*5+1) _ (hg 1 (by omega));rwa [← kU] at this
 ·have:=hcell (i*5+2) _ (hg 2 (by omega));rwa [← kU] at this
 ·have:=hcell (i*5+3) _ (hg 3 (by omega));rwa [← kU] at this
 have:=hcell (i*5+4) _ (hg 4 (by omega));rwa [← kU] at this
theorem eN.Wa{S:Nat→Prop}{w:World}{B:Nat}{v:V}{c:Cv}(h:eN w B v c)(hB:B≤w.heap.size)(hs:∀q,S q→B≤q):IsV (eD w S) v c:=fw (eD.K6 hB (fun q hq=>.inr (hs q hq))) v c h
theorem eN.keep{S:Nat→Prop}{w w':World}{B:Nat}{v:V}{c:Cv}(h:eN w B v c)(hk:Kept S w w')(hB:B≤w.heap.size)(hs:∀q,S q→B≤q):eN w' B v c:=h.below (hk.below hB hs) (ay _) (ay _)
theorem iQ.r{S:Nat→Prop}{w:World}{B:Nat}{e:Cc}{c:Co}(h:iQ w B e c)(hB:B≤w.heap.size)(hs:∀q,S q→B≤q)(hd:∀g,bw e.dA=some g→¬ S g)(hx:∀g,bw e.xA=some g→¬ S g)(hl:c.ag.length≤140737488355328):wh (eD w S) e c:=by
 obtain⟨cs,h1,h2⟩:=h.ag;exact⟨h.nm,h.dn,h.xn,(nr h.aq).1,Pq (lg h1 hd) (h2.mono fun v c hv=>hv.Wa hB hs) (nr h1).1 hl,lg h.aq hx⟩
theorem iQ.keep{S:Nat→Prop}{w w':World}{B:Nat}{e:Cc}{c:Co}(h:iQ w B e c)(hk:Kept S w w')(hB:B≤w.heap.size)(hs:∀q,S q→B≤q)(hd:∀g,bw e.dA=some g→¬ S g)(hx:∀g,bw e.xA=some g→¬ S g):iQ w' B e c:=by
 obtain⟨cs,h1,h2⟩:=h.ag;exact⟨h.nm,h.dn,h.xn,⟨cs,gF h1 hk hd,h2.mono fun v c hv=>hv.keep hk hB hs⟩,gF h.aq hk hx⟩
theorem Own.grow{w w':World}{B:Nat}{A:Option Addr}{cap:Nat}{es:List Cc}{st:List Co}(h:Own w B A cap es st)(hB:B≤w.heap.size)(hg:Grow w w'):Own w' B A cap es st:=
 ⟨ki h.row hg,h.two.mono fun a b k=>k.keep (gJ (S:=fun _=>False) hg) hB (fun _ h=>h.elim) (fun _ _ h=>h) (fun _ _ h=>h),h.GS,h.GU⟩
theorem K7{w:World}{B B':Nat}{T T':TypeId}{z z' n n' c c':Nat}{A A':Option Addr}{xs xs':List Value}(h:w.ownsRow B T z (.slice A n c) n xs)(k:w.ownsRow B' T' z' (.slice A' n' c') n' xs')(ht:T≠T'):∀g,bw A=some g→bw A'≠some g:=by
 intro g h1 h2;rcases h.2 with ⟨e,-⟩ | ⟨g1,_,cur,e,-,hg,-⟩
 ·injection e with e1;rw[e1] at h1;cases h1
 rcases k.2 with ⟨e',-⟩ | ⟨g2,_,cur',e',-,hg',-⟩
 ·injection e' with e1;rw[e1] at h2;cases h2
 injection e with e1;injection e' with e2;rw[e1] at h1;rw[e2] at h2
 cases h1;cases h2
 rw[hg] at hg';injection hg' with hg';injection hg' with _ hT _;exact ht hT
theorem ez{w:World}{B:Nat}{T T':TypeId}{z n c mb:Nat}{A:Option Addr}{xs:List Value}{cs:Array Value}(h:w.ownsRow B T z (.slice A n c) n xs)(k:Blk w mb T' cs)(ht:T≠T'):bw A≠some mb:=by
 intro h1;rcases h.2 with ⟨e,-⟩ | ⟨g1,_,cur,e,-,hg,-⟩
 ·injection e with e1;rw[e1] at h1;cases h1
 injection e with e1;rw[e1] at h1
 cases h1
 rw[show w.heap[_]?=_ from k] at hg;injection hg with hg;injection hg with _ hT _;exact ht hT.symm
theorem Pr{w:World}{B n c gb i k:Nat}{es:List Cc}{e':Cc}{v:Value}(h:w.ownsRow B 48 3 (.slice (some ⟨gb,0,none⟩) n c) n (dK es))(hi:i<es.length)(hn:es.length=n)(hk:k<3)(he:e'.cells.toList=es[i].cells.toList.set k v) :
 (w.setCell ⟨gb,i*3+k,none⟩ v).ownsRow B 48 3 (.slice (some ⟨gb,0,none⟩) n c) n (dK (es.set i e')):=by
 obtain⟨g,cur,e,hb,hg,h1,h2,h3,h4,h5⟩:=kL h (by omega)
 cases e
 have hsz:(w.setCell ⟨gb,i*3+k,none⟩ v).heap[gb]?=some (.cells (cur.setIfInBounds (i*3+k) v) 48 (0,0)):=Blk.bf hg _ v;have hlen:(dK (es.set i e')).length=n*3:=by rw[V_,kD,hn]
 refine K8 hb hsz h1 h2 (by rw[Array.size_setIfInBounds,h3]) ?_ hlen;rw[Array.toList_setIfInBounds,List.take_set,h4,dK,dK,← V9 _ 3 (fun _=>rfl) es i e' hi,he];have hes:(es.map fun e=>e.cells.toList).flatten=((es.map fun e=>e.cells.toList).flatten).take (i*3)++(es[i].cells.toList++((es.map fun e=>e.cells.toList).flatten).drop ((i+1)*3)):=by
  conv=>lhs;rw[← qq (i*3) ((es.map fun e=>e.cells.toList).flatten)]
  congr 1;have d1:=ur (fun e:Cc=>e.cells.toList) 3 (fun _=>rfl) es i;have d2:=ur (fun e:Cc=>e.cells.toList) 3 (fun _=>rfl) es (i+1);rw[Aw hi,fH,mo] at d1;rw[d1,d2]
 have hlt:(((es.map fun e=>e.cells.toList).flatten).take (i*3)).length=i*3:=by
  rw[dS,DA _ 3 (fun _=>rfl)];omega
 conv=>lhs;rw[hes]
 rw[List.set_append_right _ _ (by rw[hlt];omega),hlt,show i*3+k-i*3=k by omega,List.set_append_left _ _ (by simp;omega),nQ]
end
abbrev km:=@eD.Be
abbrev lh:=@eD.kept
section
open Go.RowKit Go.Shelf
theorem adp:∀(a b:List UInt8),Lib.compareBytes a b=-1∨Lib.compareBytes a b=0∨Lib.compareBytes a b=1:=fun a b=>by
 fun_induction Lib.compareBytes a b<;>simp_all
theorem Wb:∀(a b c:List UInt8),Lib.compareBytes a b≤0→Lib.compareBytes b c≤0→Lib.compareBytes a c≤0∧(Lib.compareBytes a b<0→Lib.compareBytes a c<0)
 | [],[],c,_,h=>⟨h,fun h=>by simp[Lib.compareBytes] at h⟩
 | [],_::_,[],_,h=>by simp[Lib.compareBytes] at h
 | [],_::_,_::_,_,_=>by simp[Lib.compareBytes]
 | _::_,[],_,h,_=>by simp[Lib.compareBytes] at h
 | _::_,_::_,[],_,h=>by simp[Lib.compareBytes] at h
 | x::a,y::b,z::c,h,k=>by
  rw[Lib.compareBytes] at h k ⊢;simp only[AJ] at h k ⊢;rw[Lib.compareBytes];simp only[AJ];by_cases h1:x.toNat<y.toNat
  ·by_cases k1:y.toNat<z.toNat
   ·rw[aw (show x.toNat<z.toNat by omega)];exact⟨by decide,fun _=>by decide⟩
   rw[ai k1] at k;by_cases k2:z.toNat<y.toNat
   ·rw[aw k2] at k;exact absurd k (by decide)
   rw[aw (show x.toNat<z.toNat by omega)];exact⟨by decide,fun _=>by decide⟩
  rw[ai h1] at h ⊢;by_cases h2:y.toNat<x.toNat
  ·rw[aw h2] at h;exact absurd h (by decide)
  rw[ai h2] at h ⊢;by_cases k1:y.toNat<z.toNat
  ·rw[aw (show x.toNat<z.toNat by omega)];exact⟨by decide,fun _=>by decide⟩
  rw[ai k1] at k;by_cases k2:z.toNat<y.toNat
  ·rw[aw k2] at k;exact absurd k (by decide)
  rw[ai k2] at k;rw[ai (show ¬ x.toNat<z.toNat by omega),ai (show ¬ z.toNat<x.toNat by omega)];exact Wb a b c h k
structure Fine (u:V):Prop where
 formed:u.formed=true
 fit:u.fit
namespace V
theorem adq{u v:V}(hu:Fine u)(hv:Fine v):cmp u v=Lib.compareBytes u.key v.key:=by
 rcases GV u v hu.formed hu.fit hv.formed hv.fit with ⟨rfl,h⟩ | h
 ·rw[h,GW]
 exact h.cmp.symm
theorem Wc{u v:V}(hu:Fine u)(hv:Fine v):cmp u v=0↔u=v:=by
 rcases GV u v hu.formed hu.fit hv.formed hv.fit with ⟨rfl,h⟩ | h
 ·exact⟨fun _=>rfl,fun _=>h⟩
 exact⟨fun e=>absurd e h.xB,fun e=>by subst e;exact h.irrefl.elim⟩
theorem Wd{u v:V}(hu:Fine u)(hv:Fine v):cmp v u=-(cmp u v):=by
 rcases GV u v hu.formed hu.fit hv.formed hv.fit with ⟨rfl,h⟩ | h
 ·rw[h];rfl
 rcases GV v u hv.formed hv.fit hu.formed hu.fit with ⟨rfl,h'⟩ | h'
 ·exact h.irrefl.elim
 exact h'.uniq h.swap
end V
namespace V
structure Keyed (v:V):Prop extends Fine v where
 good:v.good=0
 short:v.key.length≤96
theorem Keyed.of{v:V}(h:(cI v).2=0)(hf:v.fit):Keyed v:=by
 obtain⟨h1,h2⟩:=K4 h;exact⟨⟨(adr h1).1,hf⟩,h1,h2⟩
theorem Keyed.cI{v:V}(h:Keyed v):cI v=(v.key,0):=by
 have:=h.short;unfold Proofs.YtndjopkdbdcmdaaGreatDoor.cI;rw[ai (by rw[h.good];simp),ai (by omega)]
def DI(t:Bool)(c:Int):Int:=if t=true then -c else c
theorem We(t:Bool){u v:V}(hu:Fine u)(hv:Fine v):(u=v∧cmp u v=0)∨Diff (DI t (cmp u v)) (flip t u.key) (flip t v.key):=by
 rcases GV u v hu.formed hu.fit hv.formed hv.fit with h | h
 ·exact .inl h
 right;unfold flip DI
 cases t
 ·exact h
 exact h.flip
theorem ads(s t:Bool){a b c d:V}(ha:Fine a)(hb:Fine b)(hc:Fine c)(hd:Fine d) :
 Lib.compareBytes (flip s a.key++flip t b.key) (flip s c.key++flip t d.key)=dM (DI s (cmp a c)) (DI t (cmp b d)):=by
 have h0:∀s,DI s 0=0:=by intro s;cases s<;>rfl
 rcases We s ha hc with ⟨rfl,h⟩ | h
 ·rw[h,h0,iR,DJ];rcases We t hb hd with ⟨rfl,h⟩ | h
  ·rw[h,h0,GW]
  exact h.cmp
 rw[nu _ h.xB];exact(h.right _ _).cmp
end V
end
section
open Go.RowKit Go.Shelf
theorem Wf(s:ByteArray):Lib.indexB s wj=Lib.indexByte s.data.toList 46:=Lib.index_one _ _
theorem indexByte_none{l:List UInt8}(h:∀j (hj:j<l.length),l[j]≠46):Lib.indexByte l 46=-1:=by
 induction l with
 | nil=>rfl
 | cons b l ih =>
  have h0:(b==46)=false:=tJ.2 (h 0 (by simp));rw[Lib.indexByte,h0,ih (fun j hj=>h (j+1) (by simpa using hj))];rfl
theorem indexByte_some{l:List UInt8}{k:Nat}(hk:k<l.length)(h:∀j (hj:j<l.length),j<k→l[j]≠46)(he:l[k]=46):Lib.indexByte l 46=k:=by
 induction l generalizing k with
 | nil=>simp at hk
 | cons b l ih =>
  cases k with
  | zero =>
   have h0:(b==46)=true:=by simpa using he
   rw[Lib.indexByte,h0];rfl
  | succ k =>
   have h0:(b==46)=false:=tJ.2 (h 0 (by simp) (by omega));have hi:=ih (k:=k) (by simpa using hk) (fun j hj hjk=>h (j+1) (by simpa using hj) (by omega)) he;rw[Lib.indexByte,h0,hi];have hb:((k:Int)==-1)=false:=by rw[tJ];omega
   rw[hb];simp
theorem Ps{s:ByteArray}(h:∀j (hj:j<s.data.toList.length),s.data.toList[j]≠46):n_ s=[s]:=
 Lib.splitB_miss _ _ _ _ ((Wf s).trans (indexByte_none h))
theorem adt{s:ByteArray}{k:Nat}(hk:k<s.data.toList.length)(h:∀j (hj:j<s.data.toList.length),j<k→s.data.toList[j]≠46)(he:s.data.toList[k]=46) :
 n_ s=s.extract 0 k::n_ (s.extract (k+1) s.size):=by
 have hi:Lib.indexB s wj=k:=(Wf s).trans (indexByte_some hk h he);unfold n_;rw[Lib.countB_hit s wj k (by decide) hi,Fz 1,Lib.splitB_hit _ _ _ _ _ hi];rfl
theorem adu{f:List (ByteArray×V)}{s:ByteArray}(hd:(f.map Prod.fst).Nodup){j:Nat}(h:j<f.length)(he:f[j].1=s):(f.find? fun x=>decide (x.1=s))=some f[j]:=by
 refine OE h (fun i hi hij hs=>?_) he;have h1:i<(f.map Prod.fst).length:=by simpa using hi
 have h2:j<(f.map Prod.fst).length:=by simpa using h
 have h3:i≠j:=by omega
 exact h3 ((List.getElem_inj (h₀:=h1) (h₁:=h2) hd).1 (by simpa using hs.trans he.symm))
theorem adv{v:V}(h:v.formed=true){s:ByteArray}(hs:s.size=0):jl v s=none:=by
 obtain⟨k,n,b,l,f⟩:=v;have hl:s.data.toList=[]:=Ay.1 (by simpa using hs);by_cases hk:k=7
 ·subst hk;rw[zl,hl,ai (by decide)]
 rw[vY hk];rw[rT] at h;simp only[il,nS] at h;rw[KI]
 ·rfl
 intro i hi he;have hn:=(h.1.2 _ (aW hi)).1;rw[he] at hn;unfold V.name at hn;simp[hs,hl] at hn
theorem K9{v u:V}{s:ByteArray}(h:jl v s=some u)(hv:v.formed=true):u.formed=true:=by
 obtain⟨k,n,b,l,f⟩:=v;rw[rT] at hv;simp only[il,nS] at hv;by_cases hk:k=7
 ·subst hk;rw[zl] at h;split at h
  ·exact hv.1.1.2 _ (yO h)
  cases h
 rw[vY hk] at h;obtain⟨x,hx,rfl⟩:=CZ.1 h;exact(hv.1.2 _ (C0 hx)).2
end
section
open Go.RowKit Go.Shelf Go.WideShapes
def f_(w:World)(b:List UInt8)(e:Ending)(w':World):Prop:=∃A c,e=.returned (.slice A b.length c)∧Row w' w.heap.size (.slice A b.length c) b.length b∧Grow w w'
theorem f_.of{w w':World}{b xs:List UInt8}{n c:Nat}{A:Option Addr}(h:xs=b)(hn:n=b.length)(hr:Row w' w.heap.size (.slice A n c) n xs)(hg:Grow w w'):f_ w b (.returned (.slice A n c)) w':=by
 subst h hn;exact⟨A,c,rfl,hr,hg⟩
theorem Pt(n:Nat)(w:World)(hn:n<18446744073709551616):Calls prog 155 #[.int .u64 n] w fun e w'=>e=.returned (.int .u64 (fq n:Nat))∧w=w':=by
 have h2:=Vp n hn;have h3:n<9223372036854775808→bits .or .u64 (n:Int) 9223372036854775808=((n+9223372036854775808:Nat):Int):=fun hlt=>by
  have:=u64_or_nat n 9223372036854775808 hn (by decide);rw[show n ||| 9223372036854775808=n+9223372036854775808 by
   have h4:=nat_join 63 9223372036854775808 n (by decide) (by rw[Gd];exact hlt);rw[Nat.or_comm,h4];omega] at this
  exact this
 by_cases hlt:n<9223372036854775808
 ·have h4:=h3 hlt;have hd:(((n:Int) / 9223372036854775808)==0)=true:=by simp;omega
  have ht:fq n=n+9223372036854775808:=by rw[fq,aw hlt]
  clear h2 h3;go_enter func155,ntmps155;go_wp2;go_ret;exact⟨by rw[ht];rfl,rfl⟩
 have hd:(((n:Int) / 9223372036854775808)==0)=false:=by simp;omega
 have ht:fq n=18446744073709551615-n:=by rw[fq,ai hlt]
 clear h3;go_enter func155,ntmps155;go_wp2;go_ret;exact⟨rfl,rfl⟩
theorem DK(n size:Nat)(w:World)(hs:size≤8)(hn:n<18446744073709551616):Calls prog 154 #[.int .u64 n,.int .i64 size] w (f_ w (be size n)):=by
 go_enter func154,ntmps154;go_wp2_with fail;go_loopg [5,6] (size+1) (fun gk o i wr=>∃(r:Nat) (z:Int) (A':Option Addr) (c':Nat),r≤size∧gk=r+1∧z+1=(r:Int)∧i=.int .i64 z∧o=.slice A' (size-r) c'∧Row wr w.heap.size (.slice A' (size-r) c') (size-r) ((be size n).take (size-r))∧Grow w wr);exact⟨size,(size:Int)-1,none,0,ay _,rfl,by omega,rfl,by rw[AE],by rw[AE,Fy];exact iY _ _ _ _,ah w⟩;obtain⟨r,z,A',c',hr,rfl,hz,rfl,rfl,hrow,hg⟩:=hrel;have HR:=aa hrow;have HG:=aa hg;clear hrow hg;by_cases h0:r=0
 ·subst h0;have hz0:z=-1:=by omega
  subst hz0;clear hz;go_wp2_with fail;go_ret;exact f_.of (jD (by rw[fX];omega)) (by rw[fX];omega) HR.o HG.o
 obtain⟨j,rfl⟩:∃j,r=j+1:=⟨r-1,by omega⟩;obtain rfl:z=(j:Int):=by omega
 clear hz h0;have hB:(((UInt8.ofNat (n / 256 ^ j)).toNat:Nat):Int)=(n:Int) / 2 ^ (8*j) % 256:=by
  rw[Ob,← Oa];rfl
 have HB:=aa hB;have HT:=aa (Vn n size j (by omega));clear hB;go_wp2_with (at_builtin;refine gy (ys:=[UInt8.ofNat (n / 256 ^ j)]) rfl (.tmp 13) (.tmp 20) _ rfl rfl (HR.o.alloc _) _ rfl (kG _ HB.o (aD wr _ _)) (by simp only[aT,bz];omega) (by simp;have:=HG.o.size;omega) ?_;intro A4 c4 w4 hr4 hg4;have dP:=aa hr4;have cj:=aa (show Grow w w4 from cU (HG.o.alloc _) (eI hg4 (HR.o.alloc _) (by simp;have:=HG.o.size;omega)));clear hr4 hg4);go_roundg (j+1);have e:size-(j+1)+[UInt8.ofNat (n / 256 ^ j)].length=size-j:=by simp only[aT,bz];omega
 have iw:=dP.o;rw[e,← HT.o] at iw;exact⟨j,(j:Int)-1,A4,c4,by omega,rfl,by omega,rfl,by rw[← e];rfl,iw,cj.o⟩;omega
theorem Pv(b:List UInt8)(B:Option Addr)(bc:Nat)(w:World)(hb:bA w B b)(hl:b.length≤70000000000000):Calls prog 156 #[.slice B b.length bc] w (f_ w (dC b)):=by
 have HB:=aa hb;clear hb;go_enter func156,ntmps156;go_wp2_with fail;go_loopg [3,4] (b.length+1) (fun gk o i wr=>∃(k:Nat) (xs:List UInt8) (A':Option Addr) (c':Nat),k≤b.length∧gk+k=b.length+1∧i=.int .i64 k∧xs=fY (b.take k)∧o=.slice A' xs.length c'∧Row wr w.heap.size (.slice A' xs.length c') xs.length xs∧Grow w wr);exact⟨0,[],none,0,ba _,rfl,rfl,rfl,rfl,iY _ _ _ _,ah w⟩;obtain⟨k,xs,A',c',hk,hg,rfl,hxs,rfl,hr,hgr⟩:=hrel;have HR:=aa hr;have HG:=aa hgr;have hel:xs.length≤2*b.length:=by
  have:=(pP (b.take k)).2;rw[dS] at this;rw[hxs];omega
 have hzz:=hgr.size;clear hr hgr;by_cases hlt:k<b.length
 ·obtain⟨gk',rfl⟩:=bS gk (by omega);obtain⟨bk,o,rfl,hcell⟩:=HB.o.2 (by omega);have hcw:=hcell k _ (xf b k hlt);have hc:=(HG.o.below.cell hcw.2.2).trans hcw.1;have hbl:bk<wr.heap.size:=df hcw.2.2 HG.o.size;have hstep:fY (b.take (k+1))=xs++(if b[k]=0 then [0,255] else [b[k]]):=by rw[hxs,mv b k hlt,Vo]
  have HST:=aa hstep;have aZ:=aa (fun(W:World) (h:Grow wr W)=>(h.below.cell (p:=⟨bk,o+k,none⟩) hbl).trans hc);have qM:∀q,Value.ownBlock (.slice A' xs.length c')=some q→bk≠q:=fun q hq e=>by
   have:=(bO HR.o q hq).1;have:=hcw.2.2;dsimp only at this;omega
  have gp:=aa (fun(W:World) (h:∀k,k<wr.heap.size→(∀q,Value.ownBlock (.slice A' xs.length c')=some q→k≠q)→W.heap[k]?=wr.heap[k]?)=>(vG (a:=⟨bk,o+k,none⟩) (h bk hbl qM)).trans hc);clear hstep hcell hcw hxs aZ qM;by_cases hx:b[k]=0
  ·rw[aw hx] at HST;rw[hx] at hc gp;have hc':wr.cell? ⟨bk,o+k,none⟩=some (.int .u8 0):=hc;have Wh:=aa (show ∀(W:World),(∀k,k<wr.heap.size→(∀q,Value.ownBlock (.slice A' xs.length c')=some q→k≠q)→W.heap[k]?=wr.heap[k]?)→W.cell? ⟨bk,o+k,none⟩=some (.int .u8 0) from gp.o);clear hc hx gp;have gp:=Wh;clear Wh;go_wp2_with (first
    | (at_builtin;refine gy (ys:=[0]) rfl (.tmp 11) (.tmp 16) _ rfl rfl (HR.o.alloc _) _ rfl (kG 0 rfl (aD wr _ _)) (by simp only[aT,bz];omega) (by simp;omega) ?_;intro A4 c4 w4 hr4 hg4;have dP:=aa hr4;have GX:=aa (show Below w.heap.size wr w4 from cU (oH (jZ _ wr) hzz _) (eI hg4 (HR.o.alloc _) (by simp;omega)));have xC:wr.heap.size≤w4.heap.size:=GX.o.size;have lS:=aa (show ∀k,k<wr.heap.size→(∀q,Value.ownBlock (.slice A' xs.length c')=some q→k≠q)→w4.heap[k]?=wr.heap[k]? from fun k hk hne=>(hg4.grow.block k (by simp;omega) (fun e=>hne k e.symm rfl)).trans (((ah wr).alloc _).below.block k hk));have gz:=gp.o w4 lS.o;have hb4:bk<w4.heap.size:=df hbl (by have:=hg4.grow.size;simp at this;omega);clear hr4 hg4)
    | (at_builtin;refine gy (ys:=[255]) rfl (.tmp 23) (.tmp 24) _ rfl rfl (dP.o.alloc _) _ rfl (kG 255 rfl (aD w4 _ _)) (by simp only[aT,bz];omega) (by simp;omega) ?_;intro A5 c5 w5 iw bP;have h_:=aa iw;have bN:=aa (show Grow w w5 from cU (cU HG.o GX.o) (cU (oH (jZ _ w4) (by omega) _) (eI bP (dP.o.alloc _) (by simp;omega))));clear iw bP))
   go_roundg gk';have hn:(xs++[(0:UInt8),255]).length=xs.length+[(0:UInt8)].length+[(255:UInt8)].length:=by simp
   have e:xs++[(0:UInt8)]++[255]=xs++[0,255]:=by simp
   have iw:=h_.o;rw[e] at iw;exact⟨k+1,xs++[0,255],A5,c5,by omega,by omega,by go_num,HST.o.symm,by rw[hn];rfl,by rw[hn];exact iw,bN.o⟩;omega
  rw[ai hx] at HST;obtain⟨x,t_⟩:∃x,b[k]=x:=⟨_,rfl⟩;have hne:((x.toNat:Int)==0)=false:=by
   have:x.toNat≠0:=fun e=>hx (by rw[t_];exact tF.1 e)
   simp;omega
  rw[t_] at HST hc gp;have hxl:=x.toNat_lt;clear hx t_
  go_wp2_with (at_builtin;refine gy (ys:=[x]) rfl (.tmp 11) (.tmp 16) _ rfl rfl (HR.o.alloc _) _ rfl (kG x rfl (aD wr _ _)) (by simp only[aT,bz];omega) (by simp;omega) ?_;intro A4 c4 w4 hr4 hg4;have dP:=aa hr4;have GX:=aa (show Below w.heap.size wr w4 from cU (oH (jZ _ wr) hzz _) (eI hg4 (HR.o.alloc _) (by simp;omega)));have xC:wr.heap.size≤w4.heap.size:=GX.o.size;have lS:=aa (show ∀k,k<wr.heap.size→(∀q,Value.ownBlock (.slice A' xs.length c')=some q→k≠q)→w4.heap[k]?=wr.heap[k]? from fun k hk hne=>(hg4.grow.block k (by simp;omega) (fun e=>hne k e.symm rfl)).trans (((ah wr).alloc _).below.block k hk));have gz:=gp.o w4 lS.o;have hb4:bk<w4.heap.size:=df hbl (by have:=hg4.grow.size;simp at this;omega);clear hr4 hg4)
  go_roundg gk';have hn:(xs++[x]).length=xs.length+[x].length:=bG;exact⟨k+1,xs++[x],A4,c4,by omega,by omega,by go_num,HST.o.symm,by rw[hn];rfl,by rw[hn];exact dP.o,cU HG.o GX.o⟩;omega
 obtain rfl:k=b.length:=by omega
 rw[fS] at hxs;have K_:=aa hxs;clear hxs hg;go_wp2_with (at_builtin;refine gy (ys:=[0,0]) rfl (.tmp 26) (.tmp 27) _ rfl rfl (HR.o.alloc _) _ rfl (Vm (n:=2) [0,0] #[.int .u8 0,.int .u8 0] rfl (aD wr _ _) rfl) (by simp only[aT,bz];omega) (by simp;omega) ?_;intro A4 c4 w4 hr4 hg4;have dP:=aa hr4;have cj:=aa (show Grow w w4 from cU (HG.o.alloc _) (eI hg4 (HR.o.alloc _) (by simp;omega)));clear hr4 hg4);go_ret;exact f_.of (by rw[K_.o];rfl) (by rw[K_.o];simp[dC]) dP.o cj.o
end
section
open Go.RowKit Go.Shelf Go.WideShapes
theorem Wi(m j:Nat)(hm:m<18446744073709551616):9007199254740992≤m / 2 ^ j↔j<sh m:=by
 rw[NU (js (by omega)),← tX,← jE];unfold sh;by_cases h0:m=0
 ·subst h0;have:0<2 ^ (53+j):=js (by omega);simp
 rw[← Nat.le_log2 h0];omega
theorem Wj(m:Nat)(hm:m<18446744073709551616):sh m≤11:=by
 unfold sh;by_cases h0:m=0
 ·subst h0;decide
 have:m.log2<64:=by rw[Nat.log2_lt h0,OL];exact hm
 omega
theorem adw(aN:Nat):Op.negFloat .f64 (Ieee.double.nearest false aN 0)=Ieee.double.nearest true aN 0:=by
 have key:∀r,r≤9218868437227405312→Op.negFloat .f64 (Ieee.double.word false r)=Ieee.double.word true r:=by
  intro r hr;have e1:Ieee.double.word false r=r:=by unfold Ieee.Format.word;simp
  have e2:Ieee.double.word true r=r+9223372036854775808:=by unfold Ieee.Format.word;rw[tW];simp;omega
  rw[e1,e2];show r ^^^ 2 ^ 63=_;rw[Gd];exact OM r (by omega)
 unfold Ieee.Format.nearest;split
 ·exact key 0 (by omega)
 simp only[AU];exact key _ (Nat.min_le_right _ _)
theorem adx(b:Nat)(w:World):(Op.unary .neg (.float .f64 b)).run prog w=.ok (.float .f64 (Op.negFloat .f64 b)) w:=rfl
theorem ady(m:Nat)(hm:m≤9223372036854775807)(w:World):Calls prog 153 #[.int .i64 (m:Int)] w fun e w'=>e=.returned (.tuple #[.int .u64 ((fl (m:Int)).1:Nat),.int .u64 ((fl (m:Int)).2:Nat)])∧w=w':=by
 have hb:=Gf;obtain⟨s,hs⟩:∃s,sh m=s:=⟨_,rfl⟩;have adz:s≤11:=by rw[← hs];exact Wj m (by omega)
 have hfl:fl (m:Int)=(Ieee.double.nearest false (m / 2 ^ s*2 ^ s) 0,m % 2 ^ s):=by
  unfold fl;rw[aw (by omega),yL,hs]
 have oa:=aa hfl;have HST:=aa (fun j=>Wi m j (by omega));rw[hs] at HST;clear hfl hs;go_enter func153,ntmps153;go_wp2_with fail;go_loopg [5] (s+1) (fun gk k wr=>∃j:Nat,j≤s∧gk+j=s+1∧k=.int .u64 (j:Int)∧wr=w);exact⟨0,ba _,rfl,rfl,rfl⟩;obtain⟨j,hj,hg,rfl,rfl⟩:=hrel;obtain⟨gk',rfl⟩:=bS gk (by omega);by_cases hlt:j<s
 ·have h1:=(HST.o j).2 hlt;have hd:decide ((9007199254740992:Int)≤(m:Int) / 2 ^ j)=true:=by
   apply bW;have:((m / 2 ^ j:Nat):Int)=(m:Int) / 2 ^ j:=by push_cast;rfl
   omega
  clear h1;go_wp2_with fail;go_roundg gk';exact⟨j+1,by omega,by omega,by go_num,rfl⟩;omega
 obtain rfl:j=s:=by omega
 have h1:¬ 9007199254740992≤m / 2 ^ j:=fun h=>by have:=(HST.o j).1 h;omega
 have hd:decide ((9007199254740992:Int)≤(m:Int) / 2 ^ j)=false:=by
  apply bX;have:((m / 2 ^ j:Nat):Int)=(m:Int) / 2 ^ j:=by push_cast;rfl
  omega
 clear h1;go_wp2_with fail;have mX:=xb m (2 ^ j);rw[qs] at mX;have hc:((m / 2 ^ j*2 ^ j:Nat):Int)=(m:Int) / 2 ^ j*2 ^ j:=by push_cast;rfl
 have e1:IntKind.u64.wrap ((m:Int) / 2 ^ j*2 ^ j)=((m / 2 ^ j*2 ^ j:Nat):Int):=by rw[← hc,IntKind.wrap_u64];omega
 have e2:IntKind.u64.wrap ((m:Int)-((m / 2 ^ j*2 ^ j:Nat):Int))=((m % 2 ^ j:Nat):Int):=by rw[IntKind.wrap_u64];omega
 go_ret2;refine⟨?_,rfl⟩;show Ending.returned (.tuple #[.int .u64 ((floatOfInt .f64 (IntKind.u64.wrap ((m:Int) / 2 ^ j*2 ^ j)):Nat):Int),.int .u64 (IntKind.u64.wrap ((m:Int)-IntKind.u64.wrap ((m:Int) / 2 ^ j*2 ^ j)))])=_;rw[e1,e2,oa.o];have e3:floatOfInt .f64 ((m / 2 ^ j*2 ^ j:Nat):Int)=Ieee.double.nearest false (m / 2 ^ j*2 ^ j) 0:=by
  show Ieee.double.nearest (decide (((m / 2 ^ j*2 ^ j:Nat):Int)<0)) (((m / 2 ^ j*2 ^ j:Nat):Int)).natAbs 0=_;rw[bX (by omega),Int.natAbs_natCast]
 rw[e3]
theorem adA(m:Nat)(hm0:1≤m)(hm:m≤9223372036854775808)(w:World):Calls prog 153 #[.int .i64 (-(m:Int))] w fun e w'=>e=.returned (.tuple #[.int .u64 ((fl (-(m:Int))).1:Nat),.int .u64 ((fl (-(m:Int))).2:Nat)])∧w=w':=by
 have hb:=Gf;have KH:=adx
 obtain⟨i,hi⟩:∃i:Int,-(m:Int)=i:=⟨_,rfl⟩;obtain⟨s,hs⟩:∃s,sh m=s:=⟨_,rfl⟩;have adz:s≤11:=by rw[← hs];exact Wj m (by omega)
 have hfl:fl i=(Ieee.double.nearest true ((m+(2 ^ s-1)) / 2 ^ s*2 ^ s) 0,(m+(2 ^ s-1)) / 2 ^ s*2 ^ s-m):=by
  have e:i.natAbs=m:=by omega
  unfold fl;rw[ai (by omega),e,hs]
 rw[hi];have oa:=aa hfl;have HST:=aa (fun j=>Wi m j (by omega));rw[hs] at HST;have hi1:i<0:=by omega
 have hi2:-9223372036854775808≤i:=by omega
 have bU:IntKind.u64.wrap (IntKind.u64.wrap (-(i+1))+1)=(m:Int):=by rw[IntKind.wrap_u64,IntKind.wrap_u64];omega
 clear hfl hs;have HI:=aa hi;clear hi;go_enter func153,ntmps153;go_wp2_with fail;rw[show -(i+1)+1=(m:Int) by have:=HI.o;omega];go_loopg [8] (s+1) (fun gk k wr=>∃j:Nat,j≤s∧gk+j=s+1∧k=.int .u64 (j:Int)∧wr=w);exact⟨0,ba _,rfl,rfl,rfl⟩;obtain⟨j,hj,hg,rfl,rfl⟩:=hrel;obtain⟨gk',rfl⟩:=bS gk (by omega);by_cases hlt:j<s
 ·have h1:=(HST.o j).2 hlt;have hd:decide ((9007199254740992:Int)≤(m:Int) / 2 ^ j)=true:=by
   apply bW;have:((m / 2 ^ j:Nat):Int)=(m:Int) / 2 ^ j:=by push_cast;rfl
   omega
  clear h1;go_wp2_with fail;go_roundg gk';exact⟨j+1,by omega,by omega,by go_num,rfl⟩;omega
 obtain rfl:j=s:=by omega
 have h1:¬ 9007199254740992≤m / 2 ^ j:=fun h=>by have:=(HST.o j).1 h;omega
 have hd:decide ((9007199254740992:Int)≤(m:Int) / 2 ^ j)=false:=by
  apply bX;have:((m / 2 ^ j:Nat):Int)=(m:Int) / 2 ^ j:=by push_cast;rfl
  omega
 clear h1;have hp:0<2 ^ j:=js (by omega);have Oz:2 ^ j≤2 ^ 11:=mq (by omega) (by omega);have e11:(2:Nat) ^ 11=2048:=by decide
 obtain⟨P,hP⟩:∃P,2 ^ j=P:=⟨_,rfl⟩;have Pw:(2:Int) ^ j=(P:Int):=by rw[← hP];push_cast;rfl
 rw[hP] at hp Oz;have a1:IntKind.u64.wrap ((2:Int) ^ j)=(P:Int):=by rw[Pw,IntKind.wrap_u64];omega
 have a2:IntKind.u64.wrap ((P:Int)-1)=((P-1:Nat):Int):=by rw[IntKind.wrap_u64];omega
 have a3:IntKind.u64.wrap ((m:Int)+((P-1:Nat):Int))=(m:Int)+((P-1:Nat):Int):=by rw[IntKind.wrap_u64];omega
 obtain⟨U,hU⟩:∃U,(m+(P-1)) / P*P=U:=⟨_,rfl⟩;have mX:=xb (m+(P-1)) P;have jn:=yN (m+(P-1)) hp;rw[qs,hU] at mX;have a4:IntKind.u64.wrap (((m:Int)+((P-1:Nat):Int)) / 2 ^ j*2 ^ j)=(U:Int):=by
  have:((m:Int)+((P-1:Nat):Int)) / 2 ^ j*2 ^ j=(U:Int):=by rw[Pw,← hU,mV,Int.natCast_ediv,Int.natCast_add]
  rw[this,IntKind.wrap_u64];omega
 have a5:IntKind.u64.wrap ((U:Int)-(m:Int))=((U-m:Nat):Int):=by rw[IntKind.wrap_u64];omega
 have a6:floatOfInt .f64 (U:Int)=Ieee.double.nearest false U 0:=by
  show Ieee.double.nearest (decide ((U:Int)<0)) ((U:Int)).natAbs 0=_;rw[bX (by omega),Int.natAbs_natCast]
 rw[hP,hU] at oa;have DM:=aa a5;have xD:=aa a6;clear hP Pw hU mX jn hp Oz e11 a5 a6;go_wp2_with fail;go_ret2;refine⟨?_,rfl⟩;show Ending.returned (.tuple #[.int .u64 ((Op.negFloat .f64 (floatOfInt .f64 (U:Int)):Nat):Int),.int .u64 (IntKind.u64.wrap ((U:Int)-(m:Int)))])=_;rw[DM.o,xD.o,oa.o,adw]
theorem adB(i:Int)(h1:-9223372036854775808≤i)(h2:i≤9223372036854775807)(w:World):Calls prog 153 #[.int .i64 i] w fun e w'=>e=.returned (.tuple #[.int .u64 ((fl i).1:Nat),.int .u64 ((fl i).2:Nat)])∧w=w':=by
 by_cases h:0≤i
 ·obtain⟨m,rfl⟩:=Int.eq_ofNat_of_zero_le h;exact ady m (by omega) w
 obtain⟨m,hm⟩:∃m:Nat,i=-(m:Int):=⟨i.natAbs,by omega⟩;subst hm;exact adA m (by omega) (by omega) w
end


section
open Go.RowKit Go.Shelf Go.WideShapes
theorem adC(b:List UInt8)(B:Option Addr)(bc:Nat)(w:World)(hb:bA w B b)(hl:b.length≤70000000000000):Calls prog 106 #[.slice B b.length bc] w (f_ w (b.map jw)):=by
 have HB:=aa hb;clear hb;go_enter func106,ntmps106;go_wp2_with fail;go_loopg [3,4] (b.length+1) (fun gk o i wr=>∃(k:Nat) (A':Option Addr) (c':Nat),k≤b.length∧gk+k=b.length+1∧i=.int .i64 k∧o=.slice A' k c'∧Row wr w.heap.size (.slice A' k c') k ((b.take k).map jw)∧Grow w wr);exact⟨0,none,0,ba _,rfl,rfl,rfl,iY _ _ _ _,ah w⟩;obtain⟨k,A',c',hk,hg,rfl,rfl,hr,hgr⟩:=hrel;have HR:=aa hr;have HG:=aa hgr;have hzz:=hgr.size;clear hr hgr;by_cases hlt:k<b.length
 ·obtain⟨gk',rfl⟩:=bS gk (by omega);obtain⟨bk,o,rfl,hcell⟩:=HB.o.2 (by omega);have hcw:=hcell k _ (xf b k hlt);have hc:=(HG.o.below.cell hcw.2.2).trans hcw.1;have hbl:bk<wr.heap.size:=df hcw.2.2 HG.o.size;have HST:=aa (show (b.take (k+1)).map jw=(b.take k).map jw++[jw b[k]] by rw[mv b k hlt,nR];rfl);obtain⟨x,t_⟩:∃x,b[k]=x:=⟨_,rfl⟩;rw[t_] at HST hc;have hc':wr.cell? ⟨bk,o+k,none⟩=some (.int .u8 (x.toNat:Int)):=hc;have hxl:=x.toNat_lt;have HF:=aa (show (((jw x).toNat:Nat):Int)=255-(x.toNat:Int) by unfold jw;rw[Au];omega);clear t_ hcell hcw hc
  go_wp2_with (at_builtin;refine gy (ys:=[jw x]) rfl (.tmp 11) (.tmp 17) _ rfl rfl (HR.o.alloc _) _ rfl (kG _ HF.o (aD wr _ _)) (by simp only[aT,bz];omega) (by simp;omega) ?_;intro A4 c4 w4 hr4 hg4;have dP:=aa hr4;have cj:=aa (show Grow w w4 from cU (HG.o.alloc _) (eI hg4 (HR.o.alloc _) (by simp;omega)));clear hr4 hg4);go_roundg gk';have e:k+[jw x].length=k+1:=rfl;have iw:=dP.o;rw[e,← HST.o] at iw;exact⟨k+1,A4,c4,by omega,by omega,by go_num,rfl,iw,cj.o⟩;omega
 have hkb:k=b.length:=by omega
 go_wp2_with fail;go_ret;exact f_.of (by rw[hkb,fS]) (by simp[hkb]) HR.o HG.o
end




section
open Go.RowKit Go.Shelf Go.WideShapes
theorem nj.Wk{w w1 w':World}{b:List UInt8}{A:Option Addr}{n c:Nat}(h1:w.heap.size≤w1.heap.size)(hn:n=b.length)(hr:Row w' w1.heap.size (.slice A n c) n b)(hg:Grow w w'):nj w (b,0) (.returned (.tuple #[.slice A n c,.int .i64 0])) w':=by
 subst hn;exact⟨w1.heap.size,A,c,rfl,h1,hr,hg⟩
theorem adD(v:V)(c:Cv)(w:World)(hd:v.depth≤1099511627776)(hsz:v.formed=true→v.bytes.length≤140737488355328)(hof:v.good=0→∀W,In W v c→Calls prog 105 #[c.agg] W (f_ W v.key))(hv:In w v c):Calls prog 57 #[c.agg] w (nj w (cI v)):=by
 have aM:=aa ((ah w).alloc (.cells c.cells 27));have bg:=aa (aD w 27 c.cells);have hcell:=(aD w 27 c.cells).cell;have uh:=aa (Wl v _ c hd hsz (hv.grow aM.o));have HV:=aa hv;have pR:=aa hof;have hge:v.good=0∨v.good≠0:=by omega
 obtain⟨g,hg⟩:∃g,v.good=g:=⟨_,rfl⟩;rw[hg] at uh hge;have aC:=aa hg;clear hv hof hg hsz;go_enter func57,ntmps57;go_wp2_with fail;refine uh.o.mono ?_;rintro e w1 ⟨rfl,hg1⟩;have fB:=bg.o.grow hg1;have aO:=aa (aM.o.trans hg1);have aQ:=aa fB;have hc1:=fB.cell;have iO:=fB.lt;have hs1:=aO.o.size;clear hg1 fB hcell;by_cases h0:g=0
 ·subst h0;have HC:=aa (pR.o aC.o w1 (HV.o.grow aO.o));go_wp2_with fail;refine HC.o.mono ?_;rintro e w2 ⟨A2,c2,rfl,hr2,hg2⟩;have cE:=aa hr2;have HG2:=aa (aO.o.trans hg2);obtain⟨KB,xz⟩:∃K,v.key=K:=⟨_,rfl⟩;rw[xz] at cE;clear hr2 hg2;have lj:=aa xz;rw[xz];by_cases hlen:96<KB.length
  ·have hof:cI v=([],14):=by unfold cI;rw[ai (by rw[aC.o];simp),lj.o,aw hlen]
   have HO:=aa hof;clear hof xz;go_wp2_with fail;go_ret2;rw[HO.o];exact ui HG2.o
  have hof:cI v=(KB,0):=by unfold cI;rw[ai (by rw[aC.o];simp),lj.o,ai hlen]
  have HO:=aa hof;clear hof xz;go_wp2_with fail;go_ret2;rw[HO.o];exact nj.Wk hs1 rfl cE.o HG2.o
 have hgb:(g==0)=false:=by simpa using h0
 have hof:cI v=([],g):=by unfold cI;rw[aw (by rw[aC.o];exact h0),aC.o]
 have HO:=aa hof;clear hof;go_wp2_with fail;go_ret2;rw[HO.o];exact ui aO.o
end
section
open Go.RowKit Go.Shelf Go.WideShapes
theorem Row.inB{w:World}{base c:Nat}{A:Option Addr}{b:List UInt8}(h:Row w base (.slice A b.length c) b.length b):bA w A b:=
 eX (fun p u hp=>⟨hp.1,ba _,hp.2.2⟩) h.reads.1
theorem adE(l:List V)(ts:List Bool)(A F:Option Addr)(cap fc:Nat)(w:World)(La:∀v∈l,∀W c,In W v c→Calls prog 57 #[c.agg] W (nj W (cI v)))(hv:InL w A cap l)(hf:V5 w F ts)(hts:ts.length≤140737488355328)(hsm:96*l.length≤140737488355328) :
 Calls prog 59 #[.slice A l.length cap,.slice F ts.length fc] w (nj w (j_ l ts)):=by
 have hll:l.length≤140737488355328:=by omega
 have HV:=aa hv;have HF:=aa hf;have adF:=aa La;clear hv hf La;by_cases hlen:l.length=ts.length
 ·have heq:((l.length:Int) != (ts.length:Int))=false:=by simp[hlen]
  have HLEN:=aa hlen;clear hlen;go_enter func59,ntmps59;go_wp2_with fail;go_loopg [6,7] (l.length+1) (fun gk o i wr=>∃(j:Nat) (xs:List UInt8) (A':Option Addr) (c':Nat),j≤l.length∧gk+j=l.length+1∧i=.int .i64 j∧o=.slice A' xs.length c'∧Row wr w.heap.size (.slice A' xs.length c') xs.length xs ∧
   xs=nY (l.take j) (ts.take j)∧xs.length≤96*j∧(∀i (hi:i<l.length),i<j→(cI l[i]).2=0)∧Grow w wr)
  exact⟨0,[],none,0,ba _,rfl,rfl,rfl,iY _ _ _ _,by simp[nY],by simp,fun _ _ h=>absurd h (by omega),ah w⟩;obtain⟨j,xs,A',c',hj,hg,rfl,rfl,hr,hacc,hxl,hz,hgr⟩:=hrel;obtain⟨gk',rfl⟩:=bS gk (by omega);have HR:=aa hr;have Px:=aa hacc;have HZ:=aa hz;have HG:=aa hgr;have fE:=oK HV.o hgr;clear hr hacc hz hgr;by_cases hlt:j<l.length
  ·obtain⟨bk,o,x,ha,hbk,e0,e1,e2,e3,e4,hx⟩:=fE.fO j hlt;dsimp only[kH] at ha;subst ha;have HX:=aa hx;have eO:j<ts.length:=by have:=HLEN.o;omega
   have pR:=aa (adF.o l[j] (aW hlt) wr x hx);obtain⟨KB,ke,iu⟩:∃kb ke,cI l[j]=(kb,ke):=⟨_,_,rfl⟩;rw[iu] at pR;have kZ:=aa iu;clear hx fE iu;go_wp2_with fail;refine pR.o.mono ?_;rintro e w2 ⟨adG,B,bc,rfl,hb2,hr2,hg2⟩;dsimp only at hr2 ⊢;have al0:=hb2;have cE:=aa hr2;have HG2:=aa (HG.o.trans hg2);have GJ:=aa hg2;clear hr2 hg2 hb2 e0 e1 e2 e3 e4;by_cases zt:ke=0
   ·subst zt;have hof:=ac_ (show (cI l[j]).2=0 by rw[kZ.o]);have hkb:l[j].key=KB:=by have:=kZ.o;rw[hof] at this;exact(CY.1 this).1
    have al1:KB.length≤96:=by rw[← hkb];exact(K4 (show (cI l[j]).2=0 by rw[kZ.o])).2
    have lj:=aa hkb;have pU:=aa (VX l ts j hlt eO);have Wm:=aa (show ∀i (hi:i<l.length),i<j+1→(cI l[i]).2=0 from fun i hi hij=>by
     rcases Nat.lt_succ_iff_lt_or_eq.1 hij with h | rfl
     ·exact HZ.o i hi h
     rw[kZ.o])
    obtain⟨fb,fo,rfl,hfc⟩:=HF.o.2 (by omega);have zu:=((HG2.o.below.cell (hfc j (.bool ts[j]) (by simp[eO])).2.2).trans (hfc j (.bool ts[j]) (by simp[eO])).1);have O6:fb<w2.heap.size:=df (hfc j (.bool ts[j]) (by simp[eO])).2.2 HG2.o.size;have Py:=aa (HR.o.grow GJ.o);clear hof hkb hfc
    cases Lb:ts[j] with
    | false =>
     rw[Lb] at zu pU;rw[show flip false l[j].key=KB by rw[lj.o];rfl] at pU;clear Lb;go_wp2_with (at_builtin;refine gy (ys:=KB) rfl (.tmp 38) (.tmp 39) _ rfl rfl Py.o _ rfl (fe eH cE.o.reads.1 (i6 _)) (by omega) HG2.o.size ?_;intro A3 c3 w3 hr3 hg3;have fT:=aa hr3;have aP:=aa (eI hg3 Py.o HG2.o.size);clear hr3 hg3);go_roundg gk';have hn:(xs++KB).length=xs.length+KB.length:=bG;exact⟨j+1,xs++KB,A3,c3,by omega,by omega,by go_num,by rw[hn],by rw[hn];exact fT.o,by rw[pU.o,← Px.o],by omega,Wm.o,cU HG2.o aP.o⟩;omega
    | true =>
     rw[Lb] at zu pU;rw[show flip true l[j].key=KB.map jw by rw[lj.o];rfl] at pU;clear Lb;have HFA:=aa (adC KB B bc w2 cE.o.inB (by omega));go_wp2_with fail;refine HFA.o.mono ?_;rintro e w4 ⟨A5,c5,rfl,iw,bP⟩;have hm:(KB.map jw).length=KB.length:=dZ ..;have h_:=aa iw;have bN:=aa (HG2.o.trans bP);have Wn:=aa (Py.o.grow bP);have uv:=bN.o.size;clear iw bP;obtain⟨FB,DN⟩:∃z,KB.map jw=z:=⟨_,rfl⟩;rw[DN] at h_ pU hm;rw[DN];have al2:FB.length≤96:=by omega
     clear DN hm;go_wp2_with (at_builtin;refine gy (ys:=FB) rfl (.tmp 38) (.tmp 39) _ rfl rfl Wn.o _ rfl (fe eH h_.o.reads.1 (i6 _)) (by omega) uv ?_;intro A3 c3 w3 hr3 hg3;have fT:=aa hr3;have aP:=aa (eI hg3 Wn.o uv);clear hr3 hg3);go_roundg gk';have hn:(xs++FB).length=xs.length+FB.length:=bG;exact⟨j+1,xs++FB,A3,c3,by omega,by omega,by go_num,by rw[hn],by rw[hn];exact fT.o,by rw[pU.o,← Px.o],by omega,Wm.o,cU bN.o aP.o⟩;omega
   have hkb:(ke==0)=false:=by simpa using zt
   have HA:=aa (adb HLEN.o zt j hlt HZ.o (by rw[kZ.o]));go_wp2_with fail;go_ret2;rw[HA.o];exact ui HG2.o
  have hjl:j=l.length:=by omega
  have hz':∀i (hi:i<l.length),(cI l[i]).2=0:=fun i hi=>HZ.o i hi (by omega)
  have hxs:xs=nY l ts:=by rw[Px.o,hjl,fS,HLEN.o,fS]
  by_cases h96:96<xs.length
  ·have HA:=aa (ade HLEN.o hz' (by rw[← hxs];exact h96));clear hxs hz';go_wp2_with fail;go_ret2;rw[HA.o];exact ui HG.o
  have HA:=aa (adf HLEN.o hz' (by rw[← hxs];omega));have K_:=aa hxs;clear hxs hz';go_wp2_with fail;go_ret2;rw[HA.o,← K_.o];exact nj.Wk (ay _) rfl HR.o HG.o
 have heq:((l.length:Int) != (ts.length:Int))=true:=by simp[bne_iff_ne];omega
 have HA:=aa (ada hlen);clear hlen;go_enter func59,ntmps59;go_wp2_with fail;go_ret2;rw[HA.o];exact ui (ah w)
end
section
open Go.RowKit
theorem Wo(n cap mb:Nat)(A:Option Addr)(el:Nat→Cc)(s:ByteArray)(w:World)(hn:n≤140737488355328)(hrow:rX w A 3 n (fun j=>(el j).cells))(h0:w.cell? ⟨mb,0,none⟩=some (.slice A n cap))(h2:w.cell? ⟨mb,2,none⟩=some (.string s))(hmb:mb<w.heap.size) :
 Calls prog 115 #[.pointer (some ⟨mb,0,none⟩)] w fun e w'=>e=.returned (.tuple #[.int .i64 (ja (mI (fun j=>(el j).nm) s) n:Nat),.bool (iq (mI (fun j=>(el j).nm) s) n)])∧Grow w w':=by
 have az:=aa (fun w1 (h:Grow w w1)=>abX n (mI (fun j=>(el j).nm) s) el A cap (.string s) w1 hn (hrow.grow h) (fun j hj w' hg=>adk (el j) s w'));have nv:=aa hmb;obtain⟨RN,zw⟩:∃R,ja (mI (fun j=>(el j).nm) s) n=R:=⟨_,rfl⟩;obtain⟨RF,GY⟩:∃R,iq (mI (fun j=>(el j).nm) s) n=R:=⟨_,rfl⟩;rw[zw,GY] at az ⊢;clear hrow zw GY;go_enter func115,ntmps115;go_wp2_with fail;refine dN ?_;refine dO (S:=fun w'=>Grow w w'∧w'.cell? ⟨mb,0,none⟩=some (.slice A n cap)∧w'.cell? ⟨mb,2,none⟩=some (.string s)) (by kernel_rfl) (⟨(ah w).drew,h0,h2⟩) (fun hHeld=>?_);refine eB 0 ?_;refine eB 1 ?_;refine eB 2 ?_;refine eB 3 ?_;refine eB 4 ?_;refine eB 5 ?_;refine eB 6 ?_;refine eB 7 ?_;refine eB 8 ?_;refine eB 9 ?_;refine aK 10 (fun K hK=>?_);go_simp;go_at_call 162
 refine(az.o _ hHeld.1).mono ?_;rintro ee w3 ⟨rfl,hg3⟩;refine aU hK (⟨hHeld.1.trans hg3,(hg3.below.cell (p:=⟨mb,0,none⟩) (df nv.o hHeld.1.size)).trans hHeld.2.1,(hg3.below.cell (p:=⟨mb,2,none⟩) (df nv.o hHeld.1.size)).trans hHeld.2.2⟩) (fun hHeld=>?_);clear hK K;refine aj 11 ?_;refine aj 12 ?_;refine aj 13 ?_;refine aj 14 ?_;refine cz ?_;go_wp2_with fail;go_ret2;exact⟨rfl,hHeld.1⟩
theorem adH(n cap mb pb po:Nat)(A:Option Addr)(el:Nat→Ix)(s:ByteArray)(w:World)(hn:n≤140737488355328)(hrow:rX w A 3 n (fun j=>(el j).cells))(h0:w.cell? ⟨pb,po+2,none⟩=some (.slice A n cap))(h2:w.cell? ⟨mb,3,none⟩=some (.string s))(hmb:mb<w.heap.size)(hpb:pb<w.heap.size) :
 Calls prog 125 #[.pointer (some ⟨mb,0,none⟩),.pointer (some ⟨pb,po,none⟩)] w fun e w'=>e=.returned (.tuple #[.int .i64 (ja (mI (fun j=>(el j).name) s) n:Nat),.bool (iq (mI (fun j=>(el j).name) s) n)])∧Grow w w':=by
 have az:=aa (fun w1 (h:Grow w w1)=>abY n (mI (fun j=>(el j).name) s) el A cap (.string s) w1 hn (hrow.grow h) (fun j hj w' hg=>adl (el j) s w'));have nv:=aa hmb;have HPB:=aa hpb;obtain⟨RN,zw⟩:∃R,ja (mI (fun j=>(el j).name) s) n=R:=⟨_,rfl⟩;obtain⟨RF,GY⟩:∃R,iq (mI (fun j=>(el j).name) s) n=R:=⟨_,rfl⟩;rw[zw,GY] at az ⊢;clear hrow zw GY;go_enter func125,ntmps125;go_wp2_with fail;refine dN ?_;refine dO (S:=fun w'=>Grow w w'∧w'.cell? ⟨pb,po+2,none⟩=some (.slice A n cap)∧w'.cell? ⟨mb,3,none⟩=some (.string s)) (by kernel_rfl) (⟨(ah w).drew,h0,h2⟩) (fun hHeld=>?_);refine eB 0 ?_;refine eB 1 ?_;refine eB 2 ?_;refine eB 3 ?_;refine eB 4 ?_;refine eB 5 ?_;refine eB 6 ?_;refine eB 7 ?_;refine eB 8 ?_;refine aK 9 (fun K hK=>?_);go_simp
 go_at_call 170;refine(az.o _ hHeld.1).mono ?_;rintro ee w3 ⟨rfl,hg3⟩;refine aU hK (⟨hHeld.1.trans hg3,(hg3.below.cell (p:=⟨pb,po+2,none⟩) (df HPB.o hHeld.1.size)).trans hHeld.2.1,(hg3.below.cell (p:=⟨mb,3,none⟩) (df nv.o hHeld.1.size)).trans hHeld.2.2⟩) (fun hHeld=>?_);clear hK K;refine aj 10 ?_;refine aj 11 ?_;refine aj 12 ?_;refine aj 13 ?_;refine cz ?_;go_wp2_with fail;go_ret2;exact⟨rfl,hHeld.1⟩
end
section
open Go.RowKit
theorem adI(n cap mb gb o:Nat)(el:Nat→Cc)(s:ByteArray)(w:World)(hn:n≤140737488355328)(hrow:rX w (some ⟨gb,o,none⟩) 3 n (fun j=>(el j).cells))(h0:w.cell? ⟨mb,0,none⟩=some (.slice (some ⟨gb,o,none⟩) n cap))(h2:w.cell? ⟨mb,2,none⟩=some (.string s))(hmb:mb<w.heap.size)(hf:iq (mI (fun j=>(el j).nm) s) n=true) :
 Calls prog 117 #[.pointer (some ⟨mb,0,none⟩)] w fun e w'=>e=.returned (.pointer (some ⟨gb,o+ja (mI (fun j=>(el j).nm) s) n*3,none⟩))∧Grow w w':=by
 have ny:=aa (Wo n cap mb (some ⟨gb,o,none⟩) el s w hn hrow h0 h2 hmb);have hlt:ja (mI (fun j=>(el j).nm) s) n<n:=by
  unfold iq at hf;simp only[il,iC] at hf;exact hf.1
 rw[hf] at ny;obtain⟨RN,zw⟩:∃R,ja (mI (fun j=>(el j).nm) s) n=R:=⟨_,rfl⟩;rw[zw] at ny hlt ⊢;have HM:=aa (fun w=>tY 5 w);have H0:=aa (fun(w1:World) (h:Grow w w1)=>(h.below.cell (p:=⟨mb,0,none⟩) hmb).trans h0);clear hrow zw hf h0 h2;go_enter func117,ntmps117;go_wp2_with fail;refine ny.o.mono ?_;rintro e w1 ⟨rfl,hg⟩;have HG:=aa hg;have hm0:=H0.o w1 hg;clear hg;go_wp2_with fail;refine(HM.o w1).mono ?_;rintro e w2 ⟨rfl,rfl⟩;have hi0:(0:Int)≤(RN:Int):=by omega
 have hi1:(RN:Int)<(n:Int):=by omega
 go_wp2_with fail;go_ret;exact⟨rfl,HG.o⟩
end

section
open Go.RowKit
theorem Kept.Wp{w w':World}{row:Option Nat}(h:w.grownBy w' row):Kept (fun q=>row=some q) w w':=
 ⟨h.os,h.tape,h.output,h.size,fun k hk hs=>h.block k hk fun e=>hs e.symm⟩
theorem Kept.none_{w w':World}(h:Grow w w'):Kept (fun _=>False) w w':=gJ h
section
variable {α β:Type}
structure GR (f:α→List Value) (z:Nat) (T:TypeId) (R:(Addr→Value→Prop)→α→β→Prop) (S:Nat→Prop) (w:World) (lo:Nat) (A:Option Addr) (c:Nat) (xs:List α) (ys:List β):Prop where
 row:w.ownsRow lo T z (.slice A xs.length c) xs.length ((xs.map f).flatten)
 two:Two (R (eD w (fun q=>bw A=some q∨S q))) xs ys
variable {f:α→List Value} {z:Nat} {T:TypeId} {R:(Addr→Value→Prop)→α→β→Prop} {S:Nat→Prop} {w w':World} {lo c c':Nat} {A A':Option Addr} {xs:List α} {ys:List β}
theorem GR.kept{K:Nat→Prop}(hm:∀(C C':Addr→Value→Prop),(∀p u,C p u→C' p u)→∀a b,R C a b→R C' a b)(h:GR f z T R S w lo A c xs ys)(hk:Kept K w w')(hs:∀q,K q→S q)(hA:∀g,bw A=some g→¬ K g):GR f z T R S w' lo A c xs ys:=
 ⟨gF h.row hk hA,h.two.mono fun a b k=>hm _ _ (lh hk fun q hq=>.inr (hs q hq)) a b k⟩
theorem GR.grow(hm:∀(C C':Addr→Value→Prop),(∀p u,C p u→C' p u)→∀a b,R C a b→R C' a b)(h:GR f z T R S w lo A c xs ys)(hg:Grow w w'):GR f z T R S w' lo A c xs ys:=
 h.kept hm (Kept.none_ hg) (fun _ h=>h.elim) (fun _ _ h=>h)
theorem GR.nil(w:World):GR f z T R S w lo none 0 [] []:=⟨by rw[pF,J6];exact iY _ _ _ _,Two.nil⟩
theorem GR.made{g cap:Nat}(h:w.ownsRow lo T z (.slice (some ⟨g,0,none⟩) 0 cap) 0 []):GR f z T R S w lo (some ⟨g,0,none⟩) cap [] ([]:List β):=⟨by rw[pF,J6];exact h,Two.nil⟩
theorem GR.add(hm:∀(C C':Addr→Value→Prop),(∀p u,C p u→C' p u)→∀a b,R C a b→R C' a b)(h:GR f z T R S w lo A c xs ys){a:α}{b:β}(hv:R (eD w (fun q=>bw A=some q∨S q)) a b)
 (hr:w'.ownsRow lo T z (.slice A' (xs.length+1) c') (xs.length+1) ((xs.map f).flatten++f a)) (hg:w.grownBy w' (Value.ownBlock (.slice A xs.length c))) (hA:Value.ownBlock (.slice A' (xs.length+1) c')=Value.ownBlock (.slice A xs.length c)∨Value.ownBlock (.slice A' (xs.length+1) c')=some w.heap.size) :
 GR f z T R S w' lo A' c' (xs++[a]) (ys++[b]):=by
 rw[bH,bH] at hA;rw[bH] at hg;have hC:∀p u,eD w (fun q=>bw A=some q∨S q) p u→eD w' (fun q=>bw A'=some q∨S q) p u:=fun p u hp=>by
  have hp2:=lh (Kept.Wp hg) (fun q hq=>.inl hq) p u hp;refine⟨hp2.1,hp2.2.1,fun hq=>?_⟩;rcases hq with hq | hq
  ·rcases hA with hA | hA
   ·rw[hA] at hq;exact hp.2.2 (.inl hq)
   rw[hA] at hq;injection hq with hq;have:=hp.2.1;omega
  exact hp.2.2 (.inr hq)
 refine⟨?_,(h.two.mono fun x y k=>hm _ _ hC x y k).append (Two.one (hm _ _ hC _ _ hv))⟩;rw[bG,Fl,nR,Av];simpa using hr
end
abbrev vF:Cv→List Value:=fun c=>c.cells.toList
abbrev vR:(Addr→Value→Prop)→Cv→V→Prop:=fun C c v=>IsV C v c
theorem jI(C C':Addr→Value→Prop)(h:∀p u,C p u→C' p u)(a:Cv)(b:V)(k:vR C a b):vR C' a b:=fw h _ _ k
abbrev VR(S:Nat→Prop)(w:World)(lo:Nat)(A:Option Addr)(c:Nat)(cs:List Cv)(ag:List V):Prop:=GR vF 5 27 vR S w lo A c cs ag
abbrev cF:Cc→List Value:=fun c=>c.cells.toList
abbrev cR:(Addr→Value→Prop)→Cc→Co→Prop:=fun C e c=>wh C e c
theorem lT(C C':Addr→Value→Prop)(h:∀p u,C p u→C' p u)(a:Cc)(b:Co)(k:cR C a b):cR C' a b:=k.mono h
abbrev CR(S:Nat→Prop)(w:World)(lo:Nat)(A:Option Addr)(c:Nat)(es:List Cc)(st:List Co):Prop:=GR cF 3 48 cR S w lo A c es st
theorem VR.list{S:Nat→Prop}{w:World}{lo c:Nat}{A:Option Addr}{cs:List Cv}{ag:List V}(h:VR S w lo A c cs ag)(hS:∀g,bw A=some g→¬ S g)(hl:ag.length≤140737488355328):IsV (eD w S) (.mk 7 0 [] ag []) (kH A ag.length c):=by
 have hlen:=h.two.1;have hr:=h.row;rw[hlen] at hr;refine Pq (lg hr hS) ⟨hlen.symm,fun j v d hv hd=>?_⟩ (nr hr).1 hl;exact fw (eD.sub fun q hq=>.inr hq) _ _ (h.two.2 j d v hd hv)
theorem VR.Lc{S:Nat→Prop}{w:World}{lo c:Nat}{A:Option Addr}{cs:List Cv}{ag:List V}(h:VR S w lo A c cs ag)(hS:∀g,bw A=some g→¬ S g)(hl:ag.length≤140737488355328):InL w A c ag:=fw km _ _ (h.list hS hl)
theorem CR.Wq{S:Nat→Prop}{w:World}{lo c:Nat}{A:Option Addr}{es:List Cc}{st:List Co}(h:CR S w lo A c es st):dW w A c st:=by
 have hlen:=h.two.1;have hr:=h.row;rw[hlen] at hr;refine⟨(nr hr).1,es,h.two.mono fun a b k=>k.mono km,?_⟩;exact(lg (S:=fun _=>False) hr (fun _ _ h=>h)).mono km
end
abbrev Bf:=@Kept.Wp
abbrev Ld:=@Kept.none_
section
open Go.RowKit Go.ChangeShapes Go.ChangeAt Go.Shelf Go.WideShapes
theorem adJ(W:World)(h:W.ShapedOpen prog):mJ W:=by
 obtain⟨m,hm⟩:=Pz.s1_3 W h;exact⟨m,hm,N9 _ _ hm⟩
end
end Go.Proofs.YtndjopkdbdcmdaaGreatDoor
