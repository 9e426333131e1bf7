/- Part 12 of the proof of pgets_card. -/
import Derived.Test.YtndjopkdbdcmdaaGreatDoorPge8
import Derived.Test.YtndjopkdbdcmdaaGreatDoorPge9
import Derived.Maps.OwnOps
import Derived.ChangeMaps5
set_option linter.unusedVariables false
set_option linter.unusedSimpArgs false
set_option maxRecDepth 100000
set_option maxHeartbeats 12800000
open Go.Proofs.Tryz
open Go.RowKit
namespace Go.Proofs.YtndjopkdbdcmdaaGreatDoor
variable {A:Option Addr}{base c g:Nat}{e:Int}{w w':World}{ys zs:List UInt8}
section
open Go.RowKit Go.Shelf Go.ChangeMaps
section
variable {P:Program} {w:World}
theorem KS(kt:TypeId)(hk:P.underlying kt=some (.int .i64))(k:Int)(em:Bool):(Instr.checkKey em 10000 kt (.int .i64 k)).run P w=.ok () w:=by
 rw[show (10000:Nat)=9999+1 from rfl,Instr.checkKey];simp[wj hk]
theorem KT(kt:TypeId)(hk:P.underlying kt=some (.int .i64))(k:Int)(es:List MapEntry)(r:Option (Nat×Value))(hf:Instr.findNow (.int .i64) (.int .i64 k) es 0=some r):(Instr.findKey kt (.int .i64 k) es).run P w=.ok r w:=by
 unfold Instr.findKey;simp[wj hk,hf]
theorem ads(t kt et:TypeId)(ht:P.underlying t=some (.map kt et))(hk:P.underlying kt=some (.int .i64))(g:Nat)(es:Array MapEntry)(clock:Nat)(h:w.heap[g]?=some (.map es clock))(k:Int)(v:Value)
 (hf:Instr.findNow (.int .i64) (.int .i64 k) es.toList 0=some none) :
 ∃w',(Instr.mapUpdate t (.map (some g)) (.int .i64 k) v).run P w=.ok () w'∧w'.heap[g]?=some (.map (es.push { key:=.int .i64 k,val:=v,born:=clock }) (clock+1))∧w.grownBy w' (some g):=by
 have hrun:(Instr.mapUpdate t (.map (some g)) (.int .i64 k) v).run P w=.ok () (setBlock w g (.map (es.push { key:=.int .i64 k,val:=v,born:=clock }) (clock+1))):=by
  unfold Instr.mapUpdate;simp only[AV,wj ht,Db,Kl h,KS kt hk,KT kt hk k _ _ hf,MapKept.run_setObj_map _ h];rfl
 exact⟨_,hrun,heap_setBlock_same h _,⟨rfl,rfl,rfl,by simp[setBlock],fun i _ hi=>heap_setBlock_other h _ (fun e=>hi (by rw[e]))⟩⟩
theorem adt(t kt et:TypeId)(ht:P.underlying t=some (.map kt et))(hk:P.underlying kt=some (.int .i64))(g:Nat)(es:Array MapEntry)(clock:Nat)(h:w.heap[g]?=some (.map es clock))(k:Int)(i:Nat)(v:Value)
 (hf:Instr.findNow (.int .i64) (.int .i64 k) es.toList 0=some (some (i,v))) :
 (Instr.lookup t (.map (some g)) (.int .i64 k) false).run P w=.ok v w:=by
 unfold Instr.lookup;simp only[AV,wj ht,Db,Kl h,KS kt hk,KT kt hk k _ _ hf,Da];rfl
end
section
variable {P:Program} {w:World} {ops:Array Oper} {rest:List Oper} {o:Oper} {a:Act} {Q:Exit→Act→World→Prop}
theorem mQ(hg:o.guard=none)(m x v:Operand)(t kt et:TypeId)(hop:o.op=Op.insert t m x v)(ht:P.underlying t=some (.map kt et))(hk:P.underlying kt=some (.int .i64))(g:Nat)(es:Array MapEntry)(clock:Nat)
 (hm:a.eval m=.map (some g)) (k:Int) (hx:a.eval x=.int .i64 k) (h:w.heap[g]?=some (.map es clock)) (hf:Instr.findNow (.int .i64) (.int .i64 k) es.toList 0=some none)
 (hK:∀w',w'.heap[g]?=some (.map (es.push { key:=.int .i64 k,val:=a.eval v,born:=clock }) (clock+1))→w.grownBy w' (some g)→wpList P ops Q rest (a.put o.dst undef) w') :
 wpList P ops Q (o::rest) a w:=by
 refine wpList_plain hg fun K' hK'=>?_
 obtain⟨w',hrun,r1,r2⟩:=ads (P:=P) t kt et ht hk g es clock h k (a.eval v) hf;unfold Oper.wp;simp[execOp,hop,hm,hx,hrun,Result.andThen];exact hK' _ _ (hK w' r1 r2)
end
theorem yc:prog.underlying 194=some (.map 3 193):=by kernel_rfl
theorem ye:prog.underlying 3=some (.int .i64):=by kernel_rfl
theorem adu(w:World):(Instr.makeMap 194 none).run prog w=.ok (.map (some w.heap.size)) (w.alloc (.map #[] 0)):=by kernel_rfl
theorem adv(w:World)(f:Fn)(xs ys:Array Value):(Instr.field 193 (.agg #[.func f xs ys]) 0).run prog w=.ok (.func f xs ys) w:=by kernel_rfl
def D5(k:Int):Nat:=if k=1 then 144 else if k=2 then 145 else if k=3 then 146 else if k=4 then 146 else if k=5 then 147 else if k=6 then 148 else if k=7 then 149 else 150
def kinds(pb:Nat):Array MapEntry:=#[{ key:=.int .i64 1,val:=.agg #[.func (.func 144) #[.pointer (some ⟨pb,0,none⟩)] #[]],born:=0 },{ key:=.int .i64 2,val:=.agg #[.func (.func 145) #[.pointer (some ⟨pb,0,none⟩)] #[]],born:=1 },{ key:=.int .i64 3,val:=.agg #[.func (.func 146) #[.pointer (some ⟨pb,0,none⟩)] #[]],born:=2 },{ key:=.int .i64 4,val:=.agg #[.func (.func 146) #[.pointer (some ⟨pb,0,none⟩)] #[]],born:=3 },{ key:=.int .i64 5,val:=.agg #[.func (.func 147) #[.pointer (some ⟨pb,0,none⟩)] #[]],born:=4 },{ key:=.int .i64 6,val:=.agg #[.func (.func 148) #[.pointer (some ⟨pb,0,none⟩)] #[]],born:=5 },{ key:=.int .i64 7,val:=.agg #[.func (.func 149) #[.pointer (some ⟨pb,0,none⟩)] #[]],born:=6 },{ key:=.int .i64 8,val:=.agg #[.func (.func 150) #[.pointer (some ⟨pb,0,none⟩)] #[]],born:=7 }]
theorem adw(pb:Nat)(k:Int)(h:w.heap[g]?=some (.map (kinds pb) 8))(hk:1≤k∧k≤8):(Instr.lookup 194 (.map (some g)) (.int .i64 k) false).run prog w=.ok (.agg #[.func (.func (D5 k)) #[.pointer (some ⟨pb,0,none⟩)] #[]]) w:=by
 obtain⟨i,hi⟩:∃i,Instr.findNow (.int .i64) (.int .i64 k) (kinds pb).toList 0=some (some (i,.agg #[.func (.func (D5 k)) #[.pointer (some ⟨pb,0,none⟩)] #[]])):=by
  have h8:k=1∨k=2∨k=3∨k=4∨k=5∨k=6∨k=7∨k=8:=by omega
  rcases h8 with rfl | rfl | rfl | rfl | rfl | rfl | rfl | rfl<;>exact⟨_,rfl⟩
 exact adt (P:=prog) 194 3 193 yc ye g _ 8 h k i _ hi
theorem adx(k:Int)(x y:Value)(w:World):Sem.run prog (callFunc (D5 k) #[x,y]) w=.ok (.enter (D5 k) #[x,y]) w:=by
 unfold D5
 repeat' split
 all_goals kernel_rfl
theorem zz(k:Int)(hk:1≤k∧k≤8)(pb:Nat)(A:Option Addr)(c:Nat)(bs bs':List UInt8)(n:Int)(c3 c6 c9:Option Addr)(c4 c5 c7 c8 c10 c11:Nat)(w:World)(h:Wr w pb A c bs)
 (hf:∀w',Grow w w'→Calls prog (D5 k) #[.pointer (some ⟨pb,0,none⟩),(Cv.agg ⟨k,n,c3,c4,c5,c6,c7,c8,c9,c10,c11⟩)] w' (mR w' pb A bs.length c bs')) :
 Calls prog 98 #[.pointer (some ⟨pb,0,none⟩),(Cv.agg ⟨k,n,c3,c4,c5,c6,c7,c8,c9,c10,c11⟩)] w (mR w pb A bs.length c bs'):=by
 have hmm:=adu;have ana:=adv;have HF:=aa hf;have hz1:(w.alloc (.cells (Cv.cells ⟨k,n,c3,c4,c5,c6,c7,c8,c9,c10,c11⟩) 27)).heap.size=w.heap.size+1:=by simp
 have bO:=aa ((az w 27 (Cv.cells ⟨k,n,c3,c4,c5,c6,c7,c8,c9,c10,c11⟩)).alloc (.map #[] 0));have Pn:=aa (show ((w.alloc (.cells (Cv.cells ⟨k,n,c3,c4,c5,c6,c7,c8,c9,c10,c11⟩) 27)).alloc (.map #[] 0)).heap[w.heap.size+1]?=some (.map #[] 0) from by rw[← hz1];exact J0 _ _);have aN:=aa (((ah w).alloc (.cells (Cv.cells ⟨k,n,c3,c4,c5,c6,c7,c8,c9,c10,c11⟩) 27)).alloc (.map #[] 0));have hpb:=h.1.lt;clear h hf hz1;go_enter func98,ntmps98;go_wp2_with (first
  | (refine mQ rfl (.tmp 5) (.const (.int .i64 1)) (.tmp 8) 194 3 193 rfl yc ye (w.heap.size+1) _ 0 rfl 1 rfl Pn.o (by rfl) ?_;intro w1 hi1 hg1;have D6:=aa hi1;have cP:=aa (bO.o.own hg1 (fun q hq=>by injection hq with hq;omega));have aO:=aa (aN.o.grown hg1 (fun q hq=>by injection hq with hq;omega));clear hi1 hg1)
  | (refine mQ rfl (.tmp 5) (.const (.int .i64 2)) (.tmp 11) 194 3 193 rfl yc ye (w.heap.size+1) _ 1 rfl 2 rfl D6.o (by rfl) ?_;intro w2 hi2 hg2;have Gm:=aa hi2;have bf:=aa (cP.o.own hg2 (fun q hq=>by injection hq with hq;omega));have HG2:=aa (aO.o.grown hg2 (fun q hq=>by injection hq with hq;omega));clear hi2 hg2)
  | (refine mQ rfl (.tmp 5) (.const (.int .i64 3)) (.tmp 14) 194 3 193 rfl yc ye (w.heap.size+1) _ 2 rfl 3 rfl Gm.o (by rfl) ?_;intro w3 uU hg3;have zA:=aa uU;have bn:=aa (bf.o.own hg3 (fun q hq=>by injection hq with hq;omega));have aG:=aa (HG2.o.grown hg3 (fun q hq=>by injection hq with hq;omega));clear uU hg3)
  | (refine mQ rfl (.tmp 5) (.const (.int .i64 4)) (.tmp 17) 194 3 193 rfl yc ye (w.heap.size+1) _ 3 rfl 4 rfl zA.o (by rfl) ?_;intro w4 hi4 hg4;have zB:=aa hi4;have ar:=aa (bn.o.own hg4 (fun q hq=>by injection hq with hq;omega));have bP:=aa (aG.o.grown hg4 (fun q hq=>by injection hq with hq;omega));clear hi4 hg4)
  | (refine mQ rfl (.tmp 5) (.const (.int .i64 5)) (.tmp 20) 194 3 193 rfl yc ye (w.heap.size+1) _ 4 rfl 5 rfl zB.o (by rfl) ?_;intro w5 hi5 bK;have D7:=aa hi5;have av:=aa (ar.o.own bK (fun q hq=>by injection hq with hq;omega));have a_:=aa (bP.o.grown bK (fun q hq=>by injection hq with hq;omega));clear hi5 bK)
  | (refine mQ rfl (.tmp 5) (.const (.int .i64 6)) (.tmp 23) 194 3 193 rfl yc ye (w.heap.size+1) _ 5 rfl 6 rfl D7.o (by rfl) ?_;intro w6 Gn bE;have Po:=aa Gn;have dh:=aa (av.o.own bE (fun q hq=>by injection hq with hq;omega));have aW:=aa (a_.o.grown bE (fun q hq=>by injection hq with hq;omega));clear Gn bE)
  | (refine mQ rfl (.tmp 5) (.const (.int .i64 7)) (.tmp 26) 194 3 193 rfl yc ye (w.heap.size+1) _ 6 rfl 7 rfl Po.o (by rfl) ?_;intro w7 Gp bw;have Pp:=aa Gp;have eu:=aa (dh.o.own bw (fun q hq=>by injection hq with hq;omega));have aX:=aa (aW.o.grown bw (fun q hq=>by injection hq with hq;omega));clear Gp bw)
  | (refine mQ rfl (.tmp 5) (.const (.int .i64 8)) (.tmp 29) 194 3 193 rfl yc ye (w.heap.size+1) _ 7 rfl 8 rfl Pp.o (by rfl) ?_;intro w8 Gq bW;have Pq:=aa Gq;have jk:=aa (eu.o.own bW (fun q hq=>by injection hq with hq;omega));have bR:=aa (aX.o.grown bW (fun q hq=>by injection hq with hq;omega));clear Gq bW;have anb:=adw pb k Pq.o hk;have kA:=jk.o.cell;have Wh:=jk.o.lt))
 rw[adx,Oper.upon_enter];refine(HF.o w8 bR.o).mono ?_;rintro e w9 ⟨A2,c2,rfl,h1,h2⟩;have HW:=aa h1;have iU:=aa ((ady pb _ bR.o).trans h2);clear h1 h2;go_wp2_with fail;go_end0;exact⟨A2,c2,rfl,HW.o,iU.o⟩
theorem adz(v:V):v.fit→v.formed=true→Pr v:=by
 induction v using V.ind with
 | h k n b l f hl hf =>
  intro hfit fV pb A c bs cv w hW hv hlen;rw[V.fit] at hfit;have hV:=aa hv;obtain⟨aB,aL,aF,cB,cL,cF,rfl,h1,h2,h3,h4,h5,h6,h7,h8,h9,hb0⟩:=hv.open;rcases tq fV with h | ⟨n',hn',h⟩ | ⟨n',h⟩ | ⟨n',h⟩ | ⟨b',hb',h⟩ | ⟨b',h⟩ | ⟨l',hl',h⟩ | ⟨f',hf',hnd,h⟩<;>cases h
  ·have e:(V.mk 1 0 [] [] []).key=[16]:=by rw[fP];simp
   rw[e] at hlen ⊢;simp only[aU,bT] at hlen;exact zz 1 (by decide) pb A c bs _ _ _ _ _ _ _ _ _ _ _ w hW (fun w' hg=>adA pb A c bs _ w' (hW.grow hg) (by omega))
  ·have e:(V.mk 2 n [] [] []).key=[32,UInt8.ofNat n]:=by rw[fP];simp
   rw[e] at hlen ⊢;simp only[aU,bT] at hlen;exact zz 2 (by decide) pb A c bs _ _ _ _ _ _ _ _ _ _ _ w hW (fun w' hg=>adB pb A c bs _ n hn' rfl w' (hW.grow hg) (by omega))
  ·have e:(V.mk 3 n [] [] []).key=48::uV n:=by rw[fP];simp
   rw[e] at hlen ⊢;exact zz 3 (by decide) pb A c bs _ _ _ _ _ _ _ _ _ _ _ w hW (fun w' hg=>adC pb A c bs n hfit.1 _ _ _ _ _ _ _ _ _ w' (hW.grow hg) (by omega))
  ·have e:(V.mk 4 n [] [] []).key=48::oC n:=by rw[fP];simp
   rw[e] at hlen ⊢;refine zz 4 (by decide) pb A c bs _ _ _ _ _ _ _ _ _ _ _ w hW (fun w' hg=>?_)
   cases hn:gZ n with
   | true=>exact adD pb A c bs n hfit.1 hn _ _ _ _ _ _ _ _ _ w' (hW.grow hg) (by omega)
   | false=>exact adE pb A c bs n hfit.1 hn _ _ _ _ _ _ _ _ _ w' (hW.grow hg) (by omega)
  ·have e:(V.mk 5 0 b [] []).key=64::eH b:=by rw[fP];simp
   rw[e] at hlen ⊢;have:=(qF b).1;simp only[aU,eH,bp,bT] at hlen;exact zz 5 (by decide) pb A c bs _ _ _ _ _ _ _ _ _ _ _ w hW (fun w' hg=>adF pb A c bs b _ _ _ _ _ _ _ _ w' (hW.grow hg) (eV (eU (eO hg.below (qp hW.1.lt)) (au _) (au _) (au _)) hb0) (by omega))
  ·have e:(V.mk 6 0 b [] []).key=80::eH b:=by rw[fP];simp
   rw[e] at hlen ⊢;have:=(qF b).1;simp only[aU,eH,bp,bT] at hlen;exact zz 6 (by decide) pb A c bs _ _ _ _ _ _ _ _ _ _ _ w hW (fun w' hg=>adG pb A c bs b _ _ _ _ _ _ _ _ w' (hW.grow hg) (eV (eU (eO hg.below (qp hW.1.lt)) (au _) (au _) (au _)) hb0) (by omega))
  ·have e:(V.mk 7 0 [] l []).key=96::((l.map V.fE).flatten++[0]):=by rw[fP];simp
   rw[e] at hlen ⊢;simp only[aU,bp,bT] at hlen;exact zz 7 (by decide) pb A c bs _ _ _ _ _ _ _ _ _ _ _ w hW (fun w' hg=>adH pb A c bs l _ _ _ _ _ _ _ _ w' (hW.grow hg) (fun x hx=>hl x hx (hfit.2.1 x hx) (hl' x hx)) (hV.o.below (eO hg.below (qp hW.1.lt)) (au _) (au _)) (by omega))
  have e:(V.mk 8 0 [] [] f).key=112::((f.map V.fF).flatten++[0]):=by rw[fP];simp
  rw[e] at hlen ⊢;simp only[aU,bp,bT] at hlen;exact zz 8 (by decide) pb A c bs _ _ _ _ _ _ _ _ _ _ _ w hW (fun w' hg=>adI pb A c bs f _ _ _ _ _ _ _ _ w' (hW.grow hg) (fun x hx=>hf x hx (hfit.2.2 x hx) (hf' x hx).2) (hV.o.below (eO hg.below (qp hW.1.lt)) (au _) (au _)) (by omega) (fun x hx=>adJ (hf' x hx).1))
end
section
open Go.RowKit Go.Shelf Go.WideShapes
theorem adK(l:List V)(h:∀x∈l,x.key.length+1≤4*x.bytes.length):(l.map V.fE).flatten.length≤4*(l.map V.bytes).flatten.length:=by
 induction l with
 | nil=>simp
 | cons x l ih =>
  have h1:=h x Km;have h2:=ih (fun y hy=>h y (N0 _ hy));simp only[fN,l8,bp,V.fE,aU];omega
theorem adL(l:List (ByteArray×V))(h:∀x∈l,x.2.key.length+1≤4*x.2.bytes.length):(l.map V.fF).flatten.length≤4*(l.map fun x=>V.item x.1 x.2.bytes).flatten.length:=by
 induction l with
 | nil=>simp
 | cons x l ih =>
  have h1:=h x Km;have h2:=ih (fun y hy=>h y (N0 _ hy));have h3:=(qF x.1.data.toList).2;have h4:x.1.data.toList.length=x.1.size:=by simp
  simp only[fN,l8,bp,V.fF,aU,Dy,eH,bT];omega
theorem Wi(v:V):v.formed=true→v.key.length+1≤4*v.bytes.length:=by
 induction v using V.ind with
 | h k n b l f hl hf =>
  intro fV;rcases tq fV with h | ⟨n',hn',h⟩ | ⟨n',h⟩ | ⟨n',h⟩ | ⟨b',hb',h⟩ | ⟨b',h⟩ | ⟨l',hl',h⟩ | ⟨f',hf',hnd,h⟩<;>cases h
  ·rw[fP,iP];simp
  ·rw[fP,iP];simp
  ·rw[fP,iP];simp[uV,g_,jJ]
  ·rw[fP,iP];simp only[oC];simp;split<;>simp[g_,jJ]
  ·have:=(qF b).2;rw[fP,iP];simp[eH,jJ];omega
  ·have:=(qF b).2;rw[fP,iP];simp[eH,jJ];omega
  ·have:=adK l (fun x hx=>hl x hx (hl' x hx));have e:(V.mk 7 0 [] l []).key=96::((l.map V.fE).flatten++[0]):=by rw[fP];simp
   rw[e,Dx];simp only[aU,bp,bT];omega
  have:=adL f (fun x hx=>hf x hx (hf' x hx).2);have e:(V.mk 8 0 [] [] f).key=112::((f.map V.fF).flatten++[0]):=by rw[fP];simp
  rw[e,Bk];simp only[aU,bp,bT];omega
def kY(w:World)(p:List UInt8×Int)(e:Ending)(w':World):Prop:=
 ∃base A c,e=.returned (.tuple #[.slice A p.1.length c,.int .i64 p.2])∧w.heap.size≤base∧Row w' base (.slice A p.1.length c) p.1.length p.1∧Grow w w'
theorem kY.bad(h:Grow w w'):kY w ([],e) (.returned (.tuple #[.slice none 0 0,.int .i64 e])) w':=
 ⟨w.heap.size,none,0,rfl,au _,jb _ _ _ _,h⟩
theorem Wj(v:V)(c:Cv)(w:World)(hfit:v.fit)(hm:v.yb)(hT:dz w)(hv:In w v c):Calls prog 53 #[c.agg] w (kY w (bl v)):=by
 have aN:=aa ((ah w).alloc (.cells c.cells 27));have bO:=aa (az w 27 c.cells);have hcell:=(az w 27 c.cells).cell;have oD:=aa (KQ v _ c hm (hT.grow aN.o) (hv.grow aN.o));have HV:=aa hv;have Gr:=aa hfit;obtain⟨g,hg⟩:∃g,v.good=g:=⟨_,rfl⟩;rw[hg] at oD;have aC:=aa hg;clear hT hv hfit hg;go_enter func53,ntmps53;go_wp2_with fail;refine oD.o.mono ?_;rintro e w1 ⟨rfl,hg1⟩;have fp:=bO.o.grow hg1;have aO:=aa (aN.o.trans hg1);have cP:=aa fp;have hc1:=fp.cell;have ku:=fp.lt;clear hg1 fp hcell;by_cases h0:g=0
 ·subst h0;have hf:=mP aC.o;have hkl:=Wi v hf.1;have Gs:v.key.length≤16384:=by have:=hf.2;omega
  have HF:=aa hf;have hrow:Row (w1.alloc (.cells #[.slice none 0 0] 150)) (w1.heap.size+1) (.slice none 0 0) 0 []:=jb _ _ _ _;have HC:=aa (adz v Gr.o hf.1 w1.heap.size none 0 [] c (w1.alloc (.cells #[.slice none 0 0] 150)) ⟨az w1 _ _,hrow⟩ (((HV.o.grow aO.o).under).below (oY (jH _ w1) (au _) _) (au _) (au _)) (by simp only[bT];omega));rw[ql] at HC;clear hf hrow hkl;go_wp2_with fail;refine HC.o.mono ?_;rintro e w2 ⟨A2,c2,rfl,h1,h2⟩;obtain⟨KB,yf⟩:∃K,v.key=K:=⟨_,rfl⟩;rw[yf] at h1 h2 Gs;have fq:=aa yf;have hcw:w2.cell? ⟨w1.heap.size,0,none⟩=some (.slice A2 KB.length c2):=h1.1.cell 0;have Wk:=h1.1.lt;have HW:=aa h1
  have uW:=aa (show Grow w1 w2 from cJ ((ah w1).alloc (.cells #[.slice none 0 0] 150)) (h2.below (bs:=[]) ⟨az w1 _ _,jb _ _ _ _⟩));clear h1 h2 HC yf;by_cases hlen:96<KB.length
  ·go_wp2_with fail;go_ret2;rw[show bl v=([],14) by unfold bl;rw[ak (by have:=aC.o;omega),aD (by rw[fq.o];exact hlen)]];exact kY.bad (aO.o.trans uW.o)
  obtain⟨cur,tB,hmk⟩:=OM KB.length (by omega);have fK:=aa (Row.made (w:=w2.drew) cur KB.length (by simp only[maxLen];omega) tB);have kp:=aa (show Src prog 1 23 (.slice A2 KB.length c2) KB.length (b_ KB) (w2.drew.alloc (.cells cur 5)) from eW fk (HW.o.2.reads.1.grow ((ah w2).drew.alloc _)) (iI _));have adM:(w2.drew.alloc (.cells cur 5)).cell? ⟨w1.heap.size,0,none⟩=some (.slice A2 KB.length c2):=(((ah w2).drew.alloc (.cells cur 5)).below.cell (p:=⟨w1.heap.size,0,none⟩) Wk).trans hcw;go_wp2_with fail;refine dg ?_;refine cW (S:=fun w'=>w'.cell? ⟨w1.heap.size,0,none⟩=some (.slice A2 KB.length c2)) (by kernel_rfl) (hcw) (fun hHeld=>?_);refine ai 0 ?_;refine ai 1 ?_;refine ai 2 ?_;refine ai 3 ?_;refine ai 4 ?_;refine ai 6 ?_;refine ai 7 ?_;refine ai 8 ?_
  refine ai 9 ?_;refine aK 5 (fun K hK=>?_);go_simp;refine aT hK (adM) (fun hHeld=>?_);refine aK 10 (fun K hK=>?_);refine pB (ys:=KB) rfl (.tmp 27) (.tmp 31) _ rfl rfl fK.o _ rfl kp.o (by omega) (by simp) ?_;intro A3 c3 w3 hr3 hg3;rw[eo,ql] at hr3;have cE:=aa hr3;have aG:=aa (show Grow w2 w3 from cJ ((ah w2).drew.alloc _) (ej hg3 fK.o (by simp)));clear hr3 hg3;refine aT hK ((aG.o.below.cell (p:=⟨w1.heap.size,0,none⟩) Wk).trans hcw) (fun hHeld=>?_);refine ai 11 ?_;refine ai 12 ?_;refine cG ?_;rw[eo];go_wp2_with fail;go_ret2;rw[show bl v=(KB,0) by unfold bl;rw[ak (by have:=aC.o;omega),ak (by rw[fq.o];exact hlen),fq.o]]
  exact⟨w2.drew.heap.size,A3,c3,rfl,by have:=aO.o.size;have:=uW.o.size;simp;omega,cE.o,(aO.o.trans uW.o).trans aG.o⟩
 have h0':(g==0)=false:=by simpa using h0
 have adN:(g != 0)=true:=by simpa using h0
 clear h0;go_wp2_with fail;go_ret2;rw[show bl v=([],g) by unfold bl;rw[aC.o,aD (by simpa using adN)]];exact kY.bad aO.o
theorem Ps(v:V)(c:Cv)(w:World)(hfit:v.fit)(dY:v.count≤20000)(hT:dz w)(hv:In w v c):Calls prog 53 #[c.agg] w (kY w (bl v)):=Wj v c w hfit (D8 dY hv) hT hv
end
section
open Go.RowKit Go.Shelf Go.WideShapes
theorem InL.adO{cap:Nat}{vs:List V}(h:InL w A cap vs):∀v∈vs,v.fit:=fun v hv=>by
 have:=IsV.fit _ _ h;rw[V.fit] at this;exact this.2.1 v hv
theorem Wl:∀(l:List V) (j:Nat) (h:j<l.length),(∀i (hi:i<l.length),i<j→(bl l[i]).2=0)→(bl l[j]).2≠0→rV l=(bl l[j]).2
 | [],j,h,_,_=>by simp at h
 | x::l,0,h,_,hn=>by rw[rV];simp only[FN] at hn ⊢;rw[aD hn]
 | x::l,j+1,h,h0,hn=>by
  have hx:(bl x).2=0:=h0 0 (by simp) (by omega);rw[rV,ak (by simpa using hx)];simp only[Kc] at hn ⊢;exact Wl l j (by simpa using h) (fun i hi hij=>h0 (i+1) (by simpa using hi) (by omega)) hn
theorem Pt:∀(l:List V),(∀i (hi:i<l.length),(bl l[i]).2=0)→rV l=0
 | [],_=>rfl
 | x::l,h=>by
  have hx:(bl x).2=0:=h 0 (by simp);rw[rV,ak (by simpa using hx)];exact Pt l (fun i hi=>h (i+1) (by simpa using hi))
theorem Pv:∀(l:List V) (ts:List Bool) (j:Nat) (h1:j<l.length) (h2:j<ts.length),jN (l.take (j+1)) (ts.take (j+1))=jN (l.take j) (ts.take j)++flip ts[j] l[j].key
 | [],_,j,h,_=>by simp at h
 | _::_,[],j,_,h=>by simp at h
 | x::l,t::ts,0,_,_=>by simp[jN]
 | x::l,t::ts,j+1,h1,h2=>by
  simp only[NP,jN,Kc,nv];rw[Pv l ts j (by simpa using h1) (by simpa using h2)]
theorem adP:∀(l:List V) (ts:List Bool),l.length=ts.length→jN (l.take l.length) (ts.take l.length)=jN l ts:=fun l ts h=>by
 rw[fT,h,fT]
theorem Wm{v:V}(h:(bl v).2=0):bl v=(v.key,0):=by
 have hg:=Gt h;unfold bl;rw[ak (by omega),ak (by omega)]
theorem adQ(n:Nat)(h:n<256):255 ^^^ n=255-n:=by
 apply Kg;intro i;have e1:(255:Nat)=2 ^ 8-1:=by decide
 have e2:255-n=2 ^ 8-(n+1):=by rw[e1];omega
 rw[Nat.testBit_xor,e2,Nat.testBit_two_pow_sub_succ (by exact h),e1,Nat.testBit_two_pow_sub_one];by_cases hi:i<8
 ·simp[hi]
 have:n.testBit i=false:=Kj (bG h (show 2 ^ 8≤2 ^ i from ny (by omega) (by omega)));simp[hi,this]
theorem adR(x:UInt8):bits .xor .u8 IntKind.u8.max (x.toNat:Int)=((iq x).toNat:Int):=by
 have hx:=x.toNat_lt;have h2:=u8_xor_nat 255 x.toNat (by omega) hx;rw[adQ x.toNat hx] at h2;unfold iq;rw[Dc,Nat.mod_eq_of_lt (by omega)];exact h2
theorem Row.setAt{n:Nat}{xs:List UInt8}(h:Row w base (.slice (some ⟨g,0,none⟩) n c) n xs)(j:Nat)(hj:j<n)(y:UInt8)(u:Value)(hu:u=.int .u8 (y.toNat:Int)) :
 Row (w.setCell ⟨g,j,none⟩ u) base (.slice (some ⟨g,0,none⟩) n c) n (xs.set j y):=by
 subst hu;have e:b_ (xs.set j y)=(b_ xs).set j (.int .u8 (y.toNat:Int)):=by simp[b_,List.map_set]
 unfold Row;rw[e];exact(World.ownsRow.stored h j _).1
theorem adS(b:List UInt8)(j:Nat)(h:j<b.length):((b.take j).map iq++b.drop j).set j (iq b[j])=(b.take (j+1)).map iq++b.drop (j+1):=by
 rw[N1 _ _ (by simp;omega),dE,dU,pj (by omega),y_,yX h,N2,py b j h];simp only[l7,fN,nW,nv,AR,ql]
theorem adT(b:List UInt8)(j:Nat)(h:j<b.length):((b.take j).map iq++b.drop j)[j]'(by simp;omega)=b[j]:=by
 rw[NU (by simp;omega)];simp only[N3,dE,dU];congr 1;omega
theorem Wn{l:List V}{ts:List Bool}(h:l.length≠ts.length):jt l ts=([],1):=by unfold jt;rw[aD h]
theorem Wo{l:List V}{ts:List Bool}(h:l.length=ts.length)(he:e≠0)(j:Nat)(hj:j<l.length)(h0:∀i (hi:i<l.length),i<j→(bl l[i]).2=0)(hx:(bl l[j]).2=e):jt l ts=([],e):=by
 have:=Wl l j hj h0 (by rw[hx];exact he);unfold jt;rw[ak (by omega),this,hx,aD he]
theorem Wp{l:List V}{ts:List Bool}(h:l.length=ts.length)(h0:∀i (hi:i<l.length),(bl l[i]).2=0)(hb:96<(jN l ts).length):jt l ts=([],14):=by
 unfold jt;rw[ak (by omega),ak (by rw[Pt l h0];simp),aD hb]
theorem Wq{l:List V}{ts:List Bool}(h:l.length=ts.length)(h0:∀i (hi:i<l.length),(bl l[i]).2=0)(hb:(jN l ts).length≤96):jt l ts=(jN l ts,0):=by
 unfold jt;rw[ak (by omega),ak (by rw[Pt l h0];simp),ak (by omega)]
def Acc(xs ys:List UInt8):Prop:=(xs=ys∧ys.length≤192)∨(96<xs.length∧xs.length≤192∧96<ys.length)
theorem Acc.le{xs:List UInt8}(h:Acc xs ys):xs.length≤192:=by rcases h with ⟨rfl,h⟩ | h<;>omega
theorem Acc.add{xs:List UInt8}(h:Acc xs ys)(hx:xs.length≤96)(hz:zs.length≤96):Acc (xs++zs) (ys++zs):=by
 rcases h with ⟨rfl,h⟩ | h
 ·exact .inl ⟨rfl,by rw[bp];omega⟩
 omega
theorem Acc.skip{xs:List UInt8}(h:Acc xs ys)(hx:96<xs.length):Acc xs (ys++zs):=by
 refine .inr ⟨hx,h.le,?_⟩;rw[bp];rcases h with ⟨rfl,h⟩ | h<;>omega
theorem adU(l:List V)(ts:List Bool)(A F:Option Addr)(cap fc:Nat)(w:World)(dY:∀v∈l,v.yb)(hT:dz w)(hv:InL w A cap l)(hf:Pw w F ts)(hts:ts.length≤140737488355328) :
 Calls prog 58 #[.slice A l.length cap,.slice F ts.length fc] w (kY w (jt l ts)):=by
 have hll:l.length≤140737488355328:=by
  obtain⟨_,_,_,_,_,_,_,_,_,_,_,_,_,hlen,_,_,_⟩:=mg hv;exact hlen
 have Gr:=aa hv.adO;have HV:=aa hv;have HF:=aa hf;have HT:=aa hT;have adV:=aa dY;clear hv hf hT dY;by_cases hlen:l.length=ts.length
 ·have heq:((l.length:Int) != (ts.length:Int))=false:=by simp[hlen]
  have HLEN:=aa hlen;have HU:=aa (fun x:UInt8=>adR x);clear hlen;go_enter func58,ntmps58;go_wp2_with fail;go_loopg [6,7,8,9,10,11,19] (l.length+1) (fun gk o _ _ _ _ _ i wr=>∃(j:Nat) (xs:List UInt8) (A':Option Addr) (c':Nat),j≤l.length∧gk+j=l.length+1∧i=.int .i64 j∧o=.slice A' xs.length c'∧Row wr w.heap.size (.slice A' xs.length c') xs.length xs ∧
   Acc xs (jN (l.take j) (ts.take j))∧(∀i (hi:i<l.length),i<j→(bl l[i]).2=0)∧Grow w wr)
  exact⟨0,[],none,0,aR _,rfl,rfl,rfl,jb _ _ _ _,.inl ⟨by simp[jN],by simp[jN]⟩,fun _ _ h=>absurd h (by omega),ah w⟩;obtain⟨j,xs,A',c',hj,hg,rfl,rfl,hr,hacc,hz,hgr⟩:=hrel;obtain⟨gk',rfl⟩:=bz gk (by omega);have hxl:=hacc.le;have HR:=aa hr;have uX:=aa hacc;have HZ:=aa hz;have HG:=aa hgr;have eF:=oc HV.o hgr;clear hr hacc hz hgr;by_cases hlt:j<l.length
  ·obtain⟨bk,o,x,ha,hbk,e0,e1,e2,e3,e4,hx⟩:=eF.fh j hlt;dsimp only[js] at ha;subst ha;have HX:=aa hx;have dO:j<ts.length:=by have:=HLEN.o;omega
   have kB:=aa (Wj l[j] x (wr.alloc (.cells x.cells 27)) (Gr.o _ (aS hlt)) (adV.o _ (aS hlt)) (HT.o.grow (HG.o.alloc _)) (HX.o.grow ((ah wr).alloc _)));obtain⟨KB,ke,eQ⟩:∃kb ke,bl l[j]=(kb,ke):=⟨_,_,rfl⟩;rw[eQ] at kB;have fq:=aa eQ;clear hx eF eQ;go_wp2_with fail;refine kB.o.mono ?_;rintro e w2 ⟨BG,B,bc,rfl,hb2,hr2,hg2⟩;dsimp only at hr2 ⊢;have Ws:=hb2;have bM:=aa hr2;have HG2:=aa ((HG.o.alloc (.cells x.cells 27)).trans hg2);have uW:=aa (((ah wr).alloc (.cells x.cells 27)).trans hg2);clear hr2 hg2 hb2 e0 e1 e2 e3 e4;by_cases tJ:ke=0
   ·subst tJ;have hof:=Wm (show (bl l[j]).2=0 by rw[fq.o]);have hkb:l[j].key=KB:=by have:=fq.o;rw[hof] at this;exact(Bc.1 this).1
    have Px:KB.length≤96:=by rw[← hkb];exact(Gt (show (bl l[j]).2=0 by rw[fq.o])).2
    have jO:=aa hkb;have jP:=aa (Pv l ts j hlt dO);have BH:=aa (show ∀i (hi:i<l.length),i<j+1→(bl l[i]).2=0 from fun i hi hij=>by
     rcases N4.1 hij with h | rfl
     ·exact HZ.o i hi h
     rw[fq.o])
    obtain⟨fb,fo,rfl,hfc⟩:=HF.o.2 (by omega);have rW:=((HG2.o.below.cell (hfc j (.bool ts[j]) (by simp[dO])).2.2).trans (hfc j (.bool ts[j]) (by simp[dO])).1);have KJ:fb<w2.heap.size:=bG (hfc j (.bool ts[j]) (by simp[dO])).2.2 HG2.o.size;have BI:=aa (HR.o.grow uW.o);clear hof hkb hfc
    cases yg:ts[j] with
    | false =>
     rw[yg] at rW jP;rw[show flip false l[j].key=KB by rw[jO.o];rfl] at jP;clear yg;by_cases Gu:xs.length≤96
     ·go_wp2_with (at_builtin;refine gA (ys:=KB) rfl (.tmp 53) (.tmp 54) _ rfl rfl BI.o _ rfl (eW fk bM.o.reads.1 (iI _)) (by omega) HG2.o.size ?_;intro A3 c3 w3 hr3 hg3;have cE:=aa hr3;have aG:=aa (ej hg3 BI.o HG2.o.size);clear hr3 hg3);go_roundg gk';have hn:(xs++KB).length=xs.length+KB.length:=bp;exact⟨j+1,xs++KB,A3,c3,by omega,by omega,by go_num,by rw[hn],by rw[hn];exact cE.o,by rw[jP.o];exact uX.o.add Gu Px,BH.o,cJ HG2.o aG.o⟩;omega
     go_wp2_with fail;go_roundg gk';exact⟨j+1,xs,A',c',by omega,by omega,by go_num,rfl,BI.o,by rw[jP.o];exact uX.o.skip (by omega),BH.o,HG2.o⟩;omega
    | true =>
     rw[yg] at rW jP;rw[show flip true l[j].key=KB.map iq by rw[jO.o];rfl] at jP;clear yg;go_wp2_with fail;obtain⟨wo,hwo⟩:∃wo:World,wo=wr:=⟨_,rfl⟩;subst hwo;go_loopg [11,38] (KB.length+1) (fun gk _ i w3=>∃k:Nat,k≤KB.length∧gk+k=KB.length+1∧i=.int .i64 k∧Row w3 BG (.slice B KB.length bc) KB.length ((KB.take k).map iq++KB.drop k)∧w2.grownBy w3 (Value.ownBlock (.slice B KB.length bc)));exact⟨0,aR _,rfl,rfl,bM.o,World.grownBy.refl _ _⟩;obtain⟨k,hk,ji,rfl,hr3,hg3⟩:=hrel;have cE:=aa hr3;have aG:=aa hg3;clear hr3 hg3;by_cases hlk:k<KB.length
     ·obtain⟨wK,rfl⟩:∃g,gk=g+1:=⟨gk-1,by omega⟩;obtain⟨gb,anc,hgv,hgb,ane⟩:=World.ownsRow.form cE.o (by omega);have hB:B=some ⟨gb,0,none⟩:=by injection hgv
      subst hB;have Wt:=FE cE.o (g:=gb) rfl k _ (wE _ k (by simp;omega));rw[adT KB k hlk] at Wt;have hfz:=FL cE.o k;have hun:=HU.o KB[k];rw[add_lit,eo] at Wt;have hst:=(World.ownsRow.stored cE.o k (.int .u8 ((iq KB[k]).toNat:Int))).2;have HST:=aa hst;have hbl:=KB[k].toNat_lt;clear hst;go_wp2_with fail;go_roundg wK;exact⟨k+1,by omega,by omega,by go_num,by rw[← adS KB k hlk];exact cE.o.setAt k hlk _ _ rfl,(show GB w2 wr gb from aG.o).trans HST.o⟩;omega
     obtain rfl:k=KB.length:=by omega
     rw[fT,List.drop_length,oZ] at cE;have hown:∀q,Value.ownBlock (.slice B KB.length bc)=some q→wo.heap.size≤q:=fun q hq=>by
      have:=(bJ bM.o q hq).1;simp at Ws;omega
     have HGa:=aa (uW.o.grown aG.o hown);have qG:=aa (HG2.o.grown aG.o (fun q hq=>aV HG.o.size (hown q hq)));have D9:=aa (HR.o.grow HGa.o);have ir:(KB.map iq).length=KB.length:=dE _;have kp:=aa (show Src prog 1 23 (.slice B KB.length bc) (KB.map iq).length (b_ (KB.map iq)) wr from by
      have h:=cE.o.reads.1;unfold bh at h;rw[ir] at h ⊢;exact eW fk h (iI _))
     have BJ:=aa ir;clear hown ji ir;by_cases Gu:xs.length≤96
     ·go_wp2_with (at_builtin;refine gA (ys:=KB.map iq) rfl (.tmp 53) (.tmp 54) _ rfl rfl D9.o _ rfl kp.o (by rw[BJ.o];omega) qG.o.size ?_;intro A3 c3 w4 hr4 hg4;have bY:=aa hr4;have bP:=aa (ej hg4 D9.o qG.o.size);clear hr4 hg4);go_roundg gk';have hn:(xs++KB.map iq).length=xs.length+(KB.map iq).length:=bp;exact⟨j+1,xs++KB.map iq,A3,c3,by omega,by omega,by go_num,by rw[hn,BJ.o],by rw[hn];exact bY.o,by rw[jP.o];exact uX.o.add Gu (by rw[BJ.o];exact Px),BH.o,cJ qG.o bP.o⟩;omega
     go_wp2_with fail;go_roundg gk';exact⟨j+1,xs,A',c',by omega,by omega,by go_num,rfl,D9.o,by rw[jP.o];exact uX.o.skip (by omega),BH.o,qG.o⟩;omega
   have hk1:(ke==0)=false:=by simpa using tJ
   have hk2:(ke != 0)=true:=by simpa using tJ
   have HK0:=aa tJ;clear tJ;go_wp2_with fail;go_ret2;rw[Wo HLEN.o HK0.o j hlt HZ.o (by rw[fq.o])];exact kY.bad HG2.o
  obtain rfl:j=l.length:=by omega
  have hb:=adP l ts HLEN.o;rw[hb] at uX;have D_:=aa (fun i (hi:i<l.length)=>HZ.o i hi hi);clear hb eF;by_cases Gu:96<xs.length
  ·go_wp2_with fail;go_ret2;have Py:96<(jN l ts).length:=by
    rcases uX.o with ⟨h,_⟩ | h
    ·rw[← h];exact Gu
    exact h.2.2
   rw[Wp HLEN.o D_.o Py];exact kY.bad HG.o
  obtain⟨cur,tB,hmk⟩:=OM xs.length (by omega);have fK:=aa (Row.made (w:=wr) cur xs.length (by simp only[maxLen];omega) tB);have kp:=aa (show Src prog 1 23 (.slice A' xs.length c') xs.length (b_ xs) (wr.alloc (.cells cur 5)) from eW fk (HR.o.reads.1.grow ((ah wr).alloc _)) (iI _));go_wp2_with (at_builtin;refine gA (ys:=xs) rfl (.tmp 62) (.tmp 63) _ rfl rfl fK.o _ rfl kp.o (by omega) (by simp) ?_;intro A3 c3 w3 hr3 hg3;rw[eo,ql] at hr3;have cE:=aa hr3;have aG:=aa (show Grow wr w3 from cJ ((ah wr).alloc _) (ej hg3 fK.o (by simp)));clear hr3 hg3);go_ret2;have hxs:xs=jN l ts:=by
   rcases uX.o with ⟨h,_⟩ | h
   ·exact h
   omega
  rw[Wq HLEN.o D_.o (by rw[← hxs];omega),← hxs];exact⟨wr.heap.size,A3,c3,rfl,HG.o.size,cE.o,HG.o.trans aG.o⟩
 have hne:((l.length:Int) != (ts.length:Int))=true:=by simp;omega
 have HLEN:=aa hlen;clear hlen;go_enter func58,ntmps58;go_wp2_with fail;go_ret2;rw[Wn HLEN.o];exact kY.bad (ah w)
end
abbrev uY:=@kY.bad
def bV(v:V):List UInt8×Int:=
 if v.good≠0 then ([],v.good) else if v.k≠8 then ([],4) else match kC v with | none=>([],14) | some i=>bl i
theorem Wu{v i:V}(h:kC v=some i):∃s,(s,i)∈v.f:=by
 unfold kC at h;rw[FV] at h;obtain⟨⟨s,x⟩,h1,rfl⟩:=h;exact⟨s,FW h1⟩
theorem KU:∀{l:List Nat} {x:Nat},x∈l→x≤l.sum
 | y::l,x,h=>by
  rw[qm];rcases jI.1 h with rfl | h
  ·exact Nat.le_add_right _ _
  exact aV (KU h) (Nat.le_add_left _ _)
theorem BK{v i:V}(h:kC v=some i):i.count≤v.count:=by
 obtain⟨s,hs⟩:=Wu h;obtain⟨k,n,b,l,f⟩:=v;rw[sZ];have h1:i.count∈f.map fun x=>x.2.count:=mI.2 ⟨(s,i),hs,rfl⟩
 have h2:=KU h1;show i.count≤_;omega
theorem Pz(v:V)(c:Cv)(w:World)(dY:v.count≤20000)(hT:dz w)(hv:In w v c):Calls prog 24 #[c.agg] w (kY w (bV v)):=by
 have aN:=aa ((ah w).alloc (.cells c.cells 27));have bO:=aa (az w 27 c.cells);have hcell:=(az w 27 c.cells).cell;have oD:=aa (Ea v _ c dY (hT.grow aN.o) (hv.grow aN.o));have HV:=aa hv;have HT:=aa hT;obtain⟨g,hg⟩:∃g,v.good=g:=⟨_,rfl⟩;rw[hg] at oD;have aC:=aa hg;have HK:Hid (c.k=v.k):=aa (by obtain⟨k,n,b,l,f⟩:=v;obtain⟨aB,aL,aF,cB,cL,cF,rfl,_⟩:=In.open hv;rfl);clear hT hv hg;go_enter func24,ntmps24;go_wp2_with fail;refine oD.o.mono ?_;rintro e w1 ⟨rfl,hg1⟩;have fp:=bO.o.grow hg1;have aO:=aa (aN.o.trans hg1);have cP:=aa fp;have hc1:=fp.cell;have ku:=fp.lt;clear hg1 fp hcell;by_cases h0:g=0
 ·subst h0;by_cases h8:c.k=8
  ·have oF:=aa (fun w2 (h:Grow w w2)=>KV v c w w2 h HV.o);have H8:=aa h8;have DY:(c.k==8)=true:=by rw[h8];rfl
   clear h8;go_wp2_with fail;refine(oF.o w1 aO.o).mono ?_;rintro e w2 ⟨hg2,ci,t,u,rfl,uZ,hres⟩;have HG2:=aa (aO.o.trans hg2);have aG:=aa ((aO.o.trans hg2).alloc (.cells ci.cells 27));have PA:=aa (az w2 27 ci.cells);have Eb:=PA.o.cell;have zC:=aa uZ;clear uZ hg2;rcases hres with ⟨hid,rfl⟩ | ⟨hid,rfl,rfl,rfl⟩
   ·have HP:=aa (show bV v=bl u by unfold bV;rw[ak (by have:=aC.o;omega),ak (by rw[← HK.o,H8.o];simp),hid]);have kB:=aa (Ps u ci _ (IsV.fit u ci zC.o) (aV (BK hid) dY) (HT.o.grow aG.o) (zC.o.grow aG.o));clear hid;go_wp2_with fail;refine kB.o.mono ?_;rintro e w3 ⟨base,A3,c3,rfl,hb3,hr3,hg3⟩;have cE:=aa hr3;have bP:=aa (aG.o.trans hg3);have bn:=aa (aV aG.o.size hb3);clear hr3 hg3 hb3;go_wp2_with fail;go_ret2;rw[HP.o];exact⟨base,A3,c3,rfl,bn.o,cE.o,bP.o⟩
   go_wp2_with fail;go_ret2;rw[show bV v=([],14) by unfold bV;rw[ak (by have:=aC.o;omega),ak (by rw[← HK.o,H8.o];simp),hid]];exact uY aG.o
  go_wp2_with fail;go_ret2;rw[show bV v=([],4) by unfold bV;rw[ak (by have:=aC.o;omega),aD (by rw[← HK.o];exact h8)]];exact uY aO.o
 go_wp2_with fail;go_ret2;rw[show bV v=([],g) by unfold bV;rw[aD (by have:=aC.o;omega),aC.o]];exact uY aO.o
end Go.Proofs.YtndjopkdbdcmdaaGreatDoor
