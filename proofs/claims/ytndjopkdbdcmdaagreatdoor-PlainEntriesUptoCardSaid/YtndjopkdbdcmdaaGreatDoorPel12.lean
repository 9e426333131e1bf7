/- Part 12 of the proof of pentries_card. -/
import Derived.Test.YtndjopkdbdcmdaaGreatDoorPel9
import Derived.Maps.OwnOps
import Derived.ChangeMaps5
import Derived.Deep.Slices
import Derived.ProofKit
import Derived.OpenShut
import Derived.SizedLaws
import Derived.Lib.LaidIn
import Derived.Lib.LaidU8T
import Derived.Test.YtndjopkdbdcmdaaGreatDoorCards
import Derived.Test.YtndjopkdbdcmdaaGreatDoorTie
import Derived.Deep.DeepHandedRow
import Derived.Deep.DeepWitnessRowRef
import Derived.SevenTiedAt
set_option linter.unusedVariables false
set_option linter.unusedSimpArgs false
set_option maxRecDepth 100000
set_option maxHeartbeats 12800000
open Go.Proofs.Tryz
namespace Go.Proofs.YtndjopkdbdcmdaaGreatDoor
section
open Go.RowKit
abbrev mK:ByteArray:=⟨#[95,105,100]⟩
theorem N_:mK.toList=[95,105,100]:=by decide +kernel
def jq(v:V):Option V:=(v.f.find? fun x=>decide (x.1=mK)).map Prod.snd
theorem UG{F:Func}{W:World}{vb:Nat}{tmps:Array Value}{u:Value}(hF:F.results=#[ResultVar.cell 2 27,ResultVar.tmp 3])(h2:tmps.getD 2 undef=.pointer (some ⟨vb,0,none⟩))(h3:tmps.getD 3 undef=u)(c:Cv)(hv:Blk W vb 27 c.cells) :
 (results F tmps).run prog W=.ok (.tuple #[c.agg,u]) W:=by
 have hl:=EJ (P:=prog) W vb 27 27 c.cells (0,0) _ hv underlying27 rfl UH;have h2':tmps[2]?.getD undef=.pointer (some ⟨vb,0,none⟩):=by simpa using h2
 have h3':tmps[3]?.getD undef=u:=by simpa using h3
 simp[results,hF,h2',h3',asAddr,hl]
theorem acm(k:Int)(n:Nat)(b:List UInt8)(l:List V)(f:List (ByteArray×V))(c:Cv)(w0 w:World)(hg0:Grow w0 w)(hv:In w0 (.mk k n b l f) c) :
 Calls prog 52 #[c.agg] w (kP w0 w (jq (.mk k n b l f))):=by
 obtain⟨s,hs⟩:∃s,s=mK:=⟨_,rfl⟩;rw[show jq (.mk k n b l f)=(f.find? fun x=>decide (x.1=s)).map Prod.snd by rw[hs];rfl];have HS:=aa hs;clear hs;obtain⟨aB,aL,aF,cB,cL,cF,rfl,-,-,-,-,-,-,-,h8,h9,-⟩:=hv.open;have HG:=aa (((ah w).alloc (.cells (Cv.cells ⟨k,(n:Int),aB,b.length,cB,aL,l.length,cL,aF,f.length,cF⟩) 27)).alloc (.cells Cv.zero.cells 27));have HB:=aa (df (w:=w.alloc (.cells (Cv.cells ⟨k,(n:Int),aB,b.length,cB,aL,l.length,cL,aF,f.length,cF⟩) 27)) (g:=w.heap.size+1) (by simp) 27 Cv.zero.cells);have HV:=aa hv;have aP:=aa hg0;clear hv hg0;go_enter func52,ntmps52;go_wp2_with fail
 go_loopg [5,9] (f.length+1) (fun gk x i wr=>∃j:Nat,j≤f.length∧gk+j=f.length+1∧i=.int .i64 j∧(∀i (hi:i<f.length),i<j→f[i].1≠s)∧Grow w wr∧Blk wr (w.heap.size+1) 27 Cv.zero.cells);exact⟨0,by omega,by omega,rfl,fun i _ h=>absurd h (by omega),HG.o,HB.o⟩;obtain⟨j,hj,iB,rfl,hne,hw,hB⟩:=hrel;have HN:=aa hne;have HW:=aa hw;have l8:=aa hB;by_cases hlt:j<f.length
 ·obtain⟨gk',rfl⟩:=bP gk (by omega);obtain⟨bk,o,x,ha,hbk,es,iA,e0,e1,e2,e3,e4,hx⟩:=HV.o.iR j hlt;replace es:=((aP.o.trans hw).below.cell hbk).trans es;replace e0:=((aP.o.trans hw).below.cell hbk).trans e0;replace e1:=((aP.o.trans hw).below.cell hbk).trans e1;replace e2:=((aP.o.trans hw).below.cell hbk).trans e2;replace e3:=((aP.o.trans hw).below.cell hbk).trans e3;replace e4:=((aP.o.trans hw).below.cell hbk).trans e4;replace hbk:=cU hbk (aP.o.trans hw).size;dsimp only at ha;subst ha;have HX:=aa hx;obtain⟨q,hq⟩:∃q,f[j].1=q:=⟨_,rfl⟩;rw[hq] at es;have HQ:=aa hq;have mL:=aa (fun cs=>hw.alloc (.cells cs 82));have tC:=aa (fun cs=>hB.alloc (.cells cs 82))
  have hc1:=(tC.o #[.string q,.int .i64 x.k,.int .u64 x.n,.slice x.aB x.nB x.cB,.slice x.aL x.nL x.cL,.slice x.aF x.nF x.cF]).cell;have lD:=(tC.o #[.string q,.int .i64 x.k,.int .u64 x.n,.slice x.aB x.nB x.cB,.slice x.aL x.nL x.cL,.slice x.aF x.nF x.cF]).lt;have hz1:=(tC.o #[.string q,.int .i64 x.k,.int .u64 x.n,.slice x.aB x.nB x.cB,.slice x.aL x.nL x.cL,.slice x.aF x.nF x.cF]).frozen;clear hne hw hB hx hq;by_cases he:q=s
  ·have ot:(q.toList==[95,105,100])=true:=by rw[← N_,he,← HS.o];simp
   subst he;have HF:=aa (show (f.find? fun x=>decide (x.1=q)).map Prod.snd=some f[j].2 by rw[Oa hlt HN.o HQ.o];rfl);go_wp2_with fail;refine gK (UG rfl rfl rfl x (vp (c:=x) (tC.o _))) rfl (Ob HF.o ((mL.o _).mf (fg _) x) HX.o)
  have HE:=aa he;have ot:(q.toList==[95,105,100])=false:=by
   rw[← N_,← HS.o];simp only[pj,ne_eq];intro h;rw[toList_data,toList_data] at h;exact he (Ca (yh h))
  clear he;go_wp2_with fail;go_roundg gk';refine⟨j+1,by omega,by omega,by go_num,fun i hi hij=>?_,mL.o _,tC.o _⟩;by_cases ie:i=j
  ·subst ie;rw[HQ.o];exact HE.o
  exact HN.o i hi (by omega);omega
 obtain⟨gk',rfl⟩:=bP gk (by omega);obtain rfl:j=f.length:=by omega
 have HF:=aa (show (f.find? fun x=>decide (x.1=s)).map Prod.snd=none by rw[J1 (fun i hi=>HN.o i hi hi)];rfl);have hc1:=l8.o.cell;have lD:=l8.o.lt;have hz1:=l8.o.frozen;clear hne hw hB;go_wp2_with fail;refine gK (UG rfl rfl rfl Cv.zero (CX (c:=Cv.zero) l8.o)) rfl (Oc HF.o (HW.o.mf (fg _) Cv.zero))
theorem Od(v:V)(c:Cv)(w0 w:World)(hg0:Grow w0 w)(hv:In w0 v c):Calls prog 52 #[c.agg] w (kP w0 w (jq v)):=by
 obtain⟨k,n,b,l,f⟩:=v;exact acm k n b l f c w0 w hg0 hv
end
section
open Go.RowKit Go.Shelf Go.ChangeMaps
section
variable {P:Program} {w:World}
theorem J2(kt:TypeId)(hk:P.underlying kt=some (.int .i64))(k:Int)(em:Bool):(Instr.checkKey em 10000 kt (.int .i64 k)).run P w=.ok () w:=by
 rw[show (10000:Nat)=9999+1 from rfl,Instr.checkKey];simp[wB hk]
theorem J3(kt:TypeId)(hk:P.underlying kt=some (.int .i64))(k:Int)(es:List MapEntry)(r:Option (Nat×Value))(hf:Instr.findNow (.int .i64) (.int .i64 k) es 0=some r):(Instr.findKey kt (.int .i64 k) es).run P w=.ok r w:=by
 unfold Instr.findKey;simp[wB hk,hf]
theorem acn(t kt et:TypeId)(ht:P.underlying t=some (.map kt et))(hk:P.underlying kt=some (.int .i64))(g:Nat)(es:Array MapEntry)(clock:Nat)(h:w.heap[g]?=some (.map es clock))(k:Int)(v:Value)
 (hf:Instr.findNow (.int .i64) (.int .i64 k) es.toList 0=some none) :
 ∃w',(Instr.mapUpdate t (.map (some g)) (.int .i64 k) v).run P w=.ok () w'∧w'.heap[g]?=some (.map (es.push { key:=.int .i64 k,val:=v,born:=clock }) (clock+1))∧w.grownBy w' (some g):=by
 have hrun:(Instr.mapUpdate t (.map (some g)) (.int .i64 k) v).run P w=.ok () (setBlock w g (.map (es.push { key:=.int .i64 k,val:=v,born:=clock }) (clock+1))):=by
  unfold Instr.mapUpdate;simp only[zO,wB ht,B0,Jx h,J2 kt hk,J3 kt hk k _ _ hf,MapKept.run_setObj_map _ h];rfl
 exact⟨_,hrun,heap_setBlock_same h _,⟨rfl,rfl,rfl,by simp[setBlock],fun i _ hi=>heap_setBlock_other h _ (fun e=>hi (by rw[e]))⟩⟩
theorem aco(t kt et:TypeId)(ht:P.underlying t=some (.map kt et))(hk:P.underlying kt=some (.int .i64))(g:Nat)(es:Array MapEntry)(clock:Nat)(h:w.heap[g]?=some (.map es clock))(k:Int)(i:Nat)(v:Value)
 (hf:Instr.findNow (.int .i64) (.int .i64 k) es.toList 0=some (some (i,v))) :
 (Instr.lookup t (.map (some g)) (.int .i64 k) false).run P w=.ok v w:=by
 unfold Instr.lookup;simp only[zO,wB ht,B0,Jx h,J2 kt hk,J3 kt hk k _ _ hf,BZ];rfl
end
section
variable {P:Program} {w:World} {ops:Array Oper} {rest:List Oper} {o:Oper} {a:Act} {Q:Exit→Act→World→Prop}
theorem mi(hg:o.guard=none)(m x v:Operand)(t kt et:TypeId)(hop:o.op=Op.insert t m x v)(ht:P.underlying t=some (.map kt et))(hk:P.underlying kt=some (.int .i64))(g:Nat)(es:Array MapEntry)(clock:Nat)
 (hm:a.eval m=.map (some g)) (k:Int) (hx:a.eval x=.int .i64 k) (h:w.heap[g]?=some (.map es clock)) (hf:Instr.findNow (.int .i64) (.int .i64 k) es.toList 0=some none)
 (hK:∀w',w'.heap[g]?=some (.map (es.push { key:=.int .i64 k,val:=a.eval v,born:=clock }) (clock+1))→w.grownBy w' (some g)→wpList P ops Q rest (a.put o.dst undef) w') :
 wpList P ops Q (o::rest) a w:=by
 refine wpList_plain hg fun K' hK'=>?_
 obtain⟨w',hrun,r1,r2⟩:=acn (P:=P) t kt et ht hk g es clock h k (a.eval v) hf;unfold Oper.wp;simp[execOp,hop,hm,hx,hrun,Result.andThen];exact hK' _ _ (hK w' r1 r2)
end
theorem wY:prog.underlying 194=some (.map 3 193):=by kernel_rfl
theorem wZ:prog.underlying 3=some (.int .i64):=by kernel_rfl
theorem acp(w:World):(Instr.makeMap 194 none).run prog w=.ok (.map (some w.heap.size)) (w.alloc (.map #[] 0)):=by kernel_rfl
theorem acq(w:World)(f:Fn)(xs ys:Array Value):(Instr.field 193 (.agg #[.func f xs ys]) 0).run prog w=.ok (.func f xs ys) w:=by kernel_rfl
def C2(k:Int):Nat:=if k=1 then 144 else if k=2 then 145 else if k=3 then 146 else if k=4 then 146 else if k=5 then 147 else if k=6 then 148 else if k=7 then 149 else 150
def kinds(pb:Nat):Array MapEntry:=#[{ key:=.int .i64 1,val:=.agg #[.func (.func 144) #[.pointer (some ⟨pb,0,none⟩)] #[]],born:=0 },{ key:=.int .i64 2,val:=.agg #[.func (.func 145) #[.pointer (some ⟨pb,0,none⟩)] #[]],born:=1 },{ key:=.int .i64 3,val:=.agg #[.func (.func 146) #[.pointer (some ⟨pb,0,none⟩)] #[]],born:=2 },{ key:=.int .i64 4,val:=.agg #[.func (.func 146) #[.pointer (some ⟨pb,0,none⟩)] #[]],born:=3 },{ key:=.int .i64 5,val:=.agg #[.func (.func 147) #[.pointer (some ⟨pb,0,none⟩)] #[]],born:=4 },{ key:=.int .i64 6,val:=.agg #[.func (.func 148) #[.pointer (some ⟨pb,0,none⟩)] #[]],born:=5 },{ key:=.int .i64 7,val:=.agg #[.func (.func 149) #[.pointer (some ⟨pb,0,none⟩)] #[]],born:=6 },{ key:=.int .i64 8,val:=.agg #[.func (.func 150) #[.pointer (some ⟨pb,0,none⟩)] #[]],born:=7 }]
theorem acr{w:World}(pb:Nat)(k:Int){g:Nat}(h:w.heap[g]?=some (.map (kinds pb) 8))(hk:1≤k∧k≤8):(Instr.lookup 194 (.map (some g)) (.int .i64 k) false).run prog w=.ok (.agg #[.func (.func (C2 k)) #[.pointer (some ⟨pb,0,none⟩)] #[]]) w:=by
 obtain⟨i,hi⟩:∃i,Instr.findNow (.int .i64) (.int .i64 k) (kinds pb).toList 0=some (some (i,.agg #[.func (.func (C2 k)) #[.pointer (some ⟨pb,0,none⟩)] #[]])):=by
  have h8:k=1∨k=2∨k=3∨k=4∨k=5∨k=6∨k=7∨k=8:=by omega
  rcases h8 with rfl | rfl | rfl | rfl | rfl | rfl | rfl | rfl<;>exact⟨_,rfl⟩
 exact aco (P:=prog) 194 3 193 wY wZ g _ 8 h k i _ hi
theorem acs(k:Int)(x y:Value)(w:World):Sem.run prog (callFunc (C2 k) #[x,y]) w=.ok (.enter (C2 k) #[x,y]) w:=by
 unfold C2
 repeat' split
 all_goals kernel_rfl
theorem yG(k:Int)(hk:1≤k∧k≤8)(pb:Nat)(A:Option Addr)(c:Nat)(bs bs':List UInt8)(n:Int)(c3 c6 c9:Option Addr)(c4 c5 c7 c8 c10 c11:Nat)(w:World)(h:Wr w pb A c bs)
 (hf:∀w',Grow w w'→Calls prog (C2 k) #[.pointer (some ⟨pb,0,none⟩),(Cv.agg ⟨k,n,c3,c4,c5,c6,c7,c8,c9,c10,c11⟩)] w' (mj w' pb A bs.length c bs')) :
 Calls prog 98 #[.pointer (some ⟨pb,0,none⟩),(Cv.agg ⟨k,n,c3,c4,c5,c6,c7,c8,c9,c10,c11⟩)] w (mj w pb A bs.length c bs'):=by
 have hmm:=acp;have alI:=acq;have HF:=aa hf;have hz1:(w.alloc (.cells (Cv.cells ⟨k,n,c3,c4,c5,c6,c7,c8,c9,c10,c11⟩) 27)).heap.size=w.heap.size+1:=by simp
 have bf:=aa ((aH w 27 (Cv.cells ⟨k,n,c3,c4,c5,c6,c7,c8,c9,c10,c11⟩)).alloc (.map #[] 0));have Oe:=aa (show ((w.alloc (.cells (Cv.cells ⟨k,n,c3,c4,c5,c6,c7,c8,c9,c10,c11⟩) 27)).alloc (.map #[] 0)).heap[w.heap.size+1]?=some (.map #[] 0) from by rw[← hz1];exact Jd _ _);have aP:=aa (((ah w).alloc (.cells (Cv.cells ⟨k,n,c3,c4,c5,c6,c7,c8,c9,c10,c11⟩) 27)).alloc (.map #[] 0));have hpb:=h.1.lt;clear h hf hz1;go_enter func98,ntmps98;go_wp2_with (first
  | (refine mi rfl (.tmp 5) (.const (.int .i64 1)) (.tmp 8) 194 3 193 rfl wY wZ (w.heap.size+1) _ 0 rfl 1 rfl Oe.o (by rfl) ?_;intro w1 hi1 hg1;have w_:=aa hi1;have aQ:=aa (bf.o.own hg1 (fun q hq=>by injection hq with hq;omega));have aN:=aa (aP.o.grown hg1 (fun q hq=>by injection hq with hq;omega));clear hi1 hg1)
  | (refine mi rfl (.tmp 5) (.const (.int .i64 2)) (.tmp 11) 194 3 193 rfl wY wZ (w.heap.size+1) _ 1 rfl 2 rfl w_.o (by rfl) ?_;intro w2 hi2 hg2;have Aq:=aa hi2;have aG:=aa (aQ.o.own hg2 (fun q hq=>by injection hq with hq;omega));have HG2:=aa (aN.o.grown hg2 (fun q hq=>by injection hq with hq;omega));clear hi2 hg2)
  | (refine mi rfl (.tmp 5) (.const (.int .i64 3)) (.tmp 14) 194 3 193 rfl wY wZ (w.heap.size+1) _ 2 rfl 3 rfl Aq.o (by rfl) ?_;intro w3 tD hg3;have yH:=aa tD;have aX:=aa (aG.o.own hg3 (fun q hq=>by injection hq with hq;omega));have aJ:=aa (HG2.o.grown hg3 (fun q hq=>by injection hq with hq;omega));clear tD hg3)
  | (refine mi rfl (.tmp 5) (.const (.int .i64 4)) (.tmp 17) 194 3 193 rfl wY wZ (w.heap.size+1) _ 3 rfl 4 rfl yH.o (by rfl) ?_;intro w4 hi4 hg4;have yI:=aa hi4;have au:=aa (aX.o.own hg4 (fun q hq=>by injection hq with hq;omega));have bz:=aa (aJ.o.grown hg4 (fun q hq=>by injection hq with hq;omega));clear hi4 hg4)
  | (refine mi rfl (.tmp 5) (.const (.int .i64 5)) (.tmp 20) 194 3 193 rfl wY wZ (w.heap.size+1) _ 4 rfl 5 rfl yI.o (by rfl) ?_;intro w5 hi5 cr;have C3:=aa hi5;have ay:=aa (au.o.own cr (fun q hq=>by injection hq with hq;omega));have bC:=aa (bz.o.grown cr (fun q hq=>by injection hq with hq;omega));clear hi5 cr)
  | (refine mi rfl (.tmp 5) (.const (.int .i64 6)) (.tmp 23) 194 3 193 rfl wY wZ (w.heap.size+1) _ 5 rfl 6 rfl C3.o (by rfl) ?_;intro w6 yJ bU;have FC:=aa yJ;have ma:=aa (ay.o.own bU (fun q hq=>by injection hq with hq;omega));have bR:=aa (bC.o.grown bU (fun q hq=>by injection hq with hq;omega));clear yJ bU)
  | (refine mi rfl (.tmp 5) (.const (.int .i64 7)) (.tmp 26) 194 3 193 rfl wY wZ (w.heap.size+1) _ 6 rfl 7 rfl FC.o (by rfl) ?_;intro w7 FE bW;have Og:=aa FE;have jf:=aa (ma.o.own bW (fun q hq=>by injection hq with hq;omega));have aZ:=aa (bR.o.grown bW (fun q hq=>by injection hq with hq;omega));clear FE bW)
  | (refine mi rfl (.tmp 5) (.const (.int .i64 8)) (.tmp 29) 194 3 193 rfl wY wZ (w.heap.size+1) _ 7 rfl 8 rfl Og.o (by rfl) ?_;intro w8 FH cO;have Oh:=aa FH;have nE:=aa (jf.o.own cO (fun q hq=>by injection hq with hq;omega));have dQ:=aa (aZ.o.grown cO (fun q hq=>by injection hq with hq;omega));clear FH cO;have alJ:=acr pb k Oh.o hk;have pI:=nE.o.cell;have UI:=nE.o.lt))
 rw[acs,Oper.upon_enter];refine(HF.o w8 dQ.o).mono ?_;rintro e w9 ⟨A2,c2,rfl,h1,h2⟩;have HW:=aa h1;have iW:=aa ((acu pb _ dQ.o).trans h2);clear h1 h2;go_wp2_with fail;go_end0;exact⟨A2,c2,rfl,HW.o,iW.o⟩
theorem acv(v:V):v.fit→v.formed=true→Oi v:=by
 induction v using V.ind with
 | h k n b l f hl hf =>
  intro hfit fh pb A c bs cv w hW hv hlen;rw[V.fit] at hfit;have hV:=aa hv;obtain⟨aB,aL,aF,cB,cL,cF,rfl,h1,h2,h3,h4,h5,h6,h7,h8,h9,hb0⟩:=hv.open;rcases u_ fh with h | ⟨n',hn',h⟩ | ⟨n',h⟩ | ⟨n',h⟩ | ⟨b',hb',h⟩ | ⟨b',h⟩ | ⟨l',hl',h⟩ | ⟨f',hf',hnd,h⟩<;>cases h
  ·have e:(V.mk 1 0 [] [] []).key=[16]:=by rw[fk];simp
   rw[e] at hlen ⊢;simp only[aU,bn] at hlen;exact yG 1 (by decide) pb A c bs _ _ _ _ _ _ _ _ _ _ _ w hW (fun w' hg=>acw pb A c bs _ w' (hW.grow hg) (by omega))
  ·have e:(V.mk 2 n [] [] []).key=[32,UInt8.ofNat n]:=by rw[fk];simp
   rw[e] at hlen ⊢;simp only[aU,bn] at hlen;exact yG 2 (by decide) pb A c bs _ _ _ _ _ _ _ _ _ _ _ w hW (fun w' hg=>acx pb A c bs _ n hn' rfl w' (hW.grow hg) (by omega))
  ·have e:(V.mk 3 n [] [] []).key=48::mM n:=by rw[fk];simp
   rw[e] at hlen ⊢;exact yG 3 (by decide) pb A c bs _ _ _ _ _ _ _ _ _ _ _ w hW (fun w' hg=>acy pb A c bs n hfit.1 _ _ _ _ _ _ _ _ _ w' (hW.grow hg) (by omega))
  ·have e:(V.mk 4 n [] [] []).key=48::ki n:=by rw[fk];simp
   rw[e] at hlen ⊢;refine yG 4 (by decide) pb A c bs _ _ _ _ _ _ _ _ _ _ _ w hW (fun w' hg=>?_)
   cases hn:dX n with
   | true=>exact acz pb A c bs n hfit.1 hn _ _ _ _ _ _ _ _ _ w' (hW.grow hg) (by omega)
   | false=>exact acA pb A c bs n hfit.1 hn _ _ _ _ _ _ _ _ _ w' (hW.grow hg) (by omega)
  ·have e:(V.mk 5 0 b [] []).key=64::cW b:=by rw[fk];simp
   rw[e] at hlen ⊢;have:=(pJ b).1;simp only[aU,cW,bD,bn] at hlen;exact yG 5 (by decide) pb A c bs _ _ _ _ _ _ _ _ _ _ _ w hW (fun w' hg=>acB pb A c bs b _ _ _ _ _ _ _ _ w' (hW.grow hg) (dW (eO (ez hg.below (pk hW.1.lt)) (av _) (av _) (av _)) hb0) (by omega))
  ·have e:(V.mk 6 0 b [] []).key=80::cW b:=by rw[fk];simp
   rw[e] at hlen ⊢;have:=(pJ b).1;simp only[aU,cW,bD,bn] at hlen;exact yG 6 (by decide) pb A c bs _ _ _ _ _ _ _ _ _ _ _ w hW (fun w' hg=>acC pb A c bs b _ _ _ _ _ _ _ _ w' (hW.grow hg) (dW (eO (ez hg.below (pk hW.1.lt)) (av _) (av _) (av _)) hb0) (by omega))
  ·have e:(V.mk 7 0 [] l []).key=96::((l.map V.dY).flatten++[0]):=by rw[fk];simp
   rw[e] at hlen ⊢;simp only[aU,bD,bn] at hlen;exact yG 7 (by decide) pb A c bs _ _ _ _ _ _ _ _ _ _ _ w hW (fun w' hg=>acD pb A c bs l _ _ _ _ _ _ _ _ w' (hW.grow hg) (fun x hx=>hl x hx (hfit.2.1 x hx) (hl' x hx)) (hV.o.below (ez hg.below (pk hW.1.lt)) (av _) (av _)) (by omega))
  have e:(V.mk 8 0 [] [] f).key=112::((f.map V.dZ).flatten++[0]):=by rw[fk];simp
  rw[e] at hlen ⊢;simp only[aU,bD,bn] at hlen;exact yG 8 (by decide) pb A c bs _ _ _ _ _ _ _ _ _ _ _ w hW (fun w' hg=>acE pb A c bs f _ _ _ _ _ _ _ _ w' (hW.grow hg) (fun x hx=>hf x hx (hfit.2.2 x hx) (hf' x hx).2) (hV.o.below (ez hg.below (pk hW.1.lt)) (av _) (av _)) (by omega) (fun x hx=>acF (hf' x hx).1))
end
section
open Go.RowKit Go.Shelf Go.WideShapes
theorem acG(l:List V)(h:∀x∈l,x.key.length+1≤4*x.bytes.length):(l.map V.dY).flatten.length≤4*(l.map V.bytes).flatten.length:=by
 induction l with
 | nil=>simp
 | cons x l ih =>
  have h1:=h x nY;have h2:=ih (fun y hy=>h y (pX _ hy));simp only[eW,l5,bD,V.dY,aU];omega
theorem acH(l:List (ByteArray×V))(h:∀x∈l,x.2.key.length+1≤4*x.2.bytes.length):(l.map V.dZ).flatten.length≤4*(l.map fun x=>V.item x.1 x.2.bytes).flatten.length:=by
 induction l with
 | nil=>simp
 | cons x l ih =>
  have h1:=h x nY;have h2:=ih (fun y hy=>h y (pX _ hy));have h3:=(pJ x.1.data.toList).2;have h4:x.1.data.toList.length=x.1.size:=by simp
  simp only[eW,l5,bD,V.dZ,aU,Cz,cW,bn];omega
theorem UJ(v:V):v.formed=true→v.key.length+1≤4*v.bytes.length:=by
 induction v using V.ind with
 | h k n b l f hl hf =>
  intro fh;rcases u_ fh with h | ⟨n',hn',h⟩ | ⟨n',h⟩ | ⟨n',h⟩ | ⟨b',hb',h⟩ | ⟨b',h⟩ | ⟨l',hl',h⟩ | ⟨f',hf',hnd,h⟩<;>cases h
  ·rw[fk,iT];simp
  ·rw[fk,iT];simp
  ·rw[fk,iT];simp[mM,fS,jA]
  ·rw[fk,iT];simp only[ki];simp;split<;>simp[fS,jA]
  ·have:=(pJ b).2;rw[fk,iT];simp[cW,jA];omega
  ·have:=(pJ b).2;rw[fk,iT];simp[cW,jA];omega
  ·have:=acG l (fun x hx=>hl x hx (hl' x hx));have e:(V.mk 7 0 [] l []).key=96::((l.map V.dY).flatten++[0]):=by rw[fk];simp
   rw[e,Cy];simp only[aU,bD,bn];omega
  have:=acH f (fun x hx=>hf x hx (hf' x hx).2);have e:(V.mk 8 0 [] [] f).key=112::((f.map V.dZ).flatten++[0]):=by rw[fk];simp
  rw[e,zZ];simp only[aU,bD,bn];omega
def km(w:World)(p:List UInt8×Int)(e:Ending)(w':World):Prop:=
 ∃base A c,e=.returned (.tuple #[.slice A p.1.length c,.int .i64 p.2])∧w.heap.size≤base∧Row w' base (.slice A p.1.length c) p.1.length p.1∧Grow w w'
theorem km.bad{w w':World}{e:Int}(h:Grow w w'):km w ([],e) (.returned (.tuple #[.slice none 0 0,.int .i64 e])) w':=
 ⟨w.heap.size,none,0,rfl,av _,iH _ _ _ _,h⟩
theorem UK(v:V)(c:Cv)(w:World)(hfit:v.fit)(hm:v.J4)(hT:eo w)(hv:In w v c):Calls prog 53 #[c.agg] w (km w (bK v)):=by
 have aP:=aa ((ah w).alloc (.cells c.cells 27));have bf:=aa (aH w 27 c.cells);have hcell:=(aH w 27 c.cells).cell;have tE:=aa (UL v _ c hm (hT.grow aP.o) (hv.grow aP.o));have HV:=aa hv;have Ar:=aa hfit;obtain⟨g,hg⟩:∃g,v.good=g:=⟨_,rfl⟩;rw[hg] at tE;have az:=aa hg;clear hT hv hfit hg;go_enter func53,ntmps53;go_wp2_with fail;refine tE.o.mono ?_;rintro e w1 ⟨rfl,hg1⟩;have eX:=bf.o.grow hg1;have aN:=aa (aP.o.trans hg1);have aQ:=aa eX;have hc1:=eX.cell;have lD:=eX.lt;clear hg1 eX hcell;by_cases h0:g=0
 ·subst h0;have hf:=mJ az.o;have hkl:=UJ v hf.1;have FI:v.key.length≤16384:=by have:=hf.2;omega
  have HF:=aa hf;have hrow:Row (w1.alloc (.cells #[.slice none 0 0] 150)) (w1.heap.size+1) (.slice none 0 0) 0 []:=iH _ _ _ _;have HC:=aa (acv v Ar.o hf.1 w1.heap.size none 0 [] c (w1.alloc (.cells #[.slice none 0 0] 150)) ⟨aH w1 _ _,hrow⟩ (((HV.o.grow aN.o).under).below (nT (j3 _ w1) (av _) _) (av _) (av _)) (by simp only[bn];omega));rw[mF] at HC;clear hf hrow hkl;go_wp2_with fail;refine HC.o.mono ?_;rintro e w2 ⟨A2,c2,rfl,h1,h2⟩;obtain⟨KB,xa⟩:∃K,v.key=K:=⟨_,rfl⟩;rw[xa] at h1 h2 FI;have gh:=aa xa;have hcw:w2.cell? ⟨w1.heap.size,0,none⟩=some (.slice A2 KB.length c2):=h1.1.cell 0;have UM:=h1.1.lt;have HW:=aa h1
  have yK:=aa (show Grow w1 w2 from ct ((ah w1).alloc (.cells #[.slice none 0 0] 150)) (h2.below (bs:=[]) ⟨aH w1 _ _,iH _ _ _ _⟩));clear h1 h2 HC xa;by_cases hlen:96<KB.length
  ·go_wp2_with fail;go_ret2;rw[show bK v=([],14) by unfold bK;rw[ai (by have:=az.o;omega),ar (by rw[gh.o];exact hlen)]];exact km.bad (aN.o.trans yK.o)
  obtain⟨cur,jc,hmk⟩:=JU KB.length (by omega);have iU:=aa (Row.made (w:=w2.drew) cur KB.length (by simp only[maxLen];omega) jc);have gz:=aa (show Src prog 1 23 (.slice A2 KB.length c2) KB.length (bw KB) (w2.drew.alloc (.cells cur 5)) from ej dP (HW.o.2.reads.1.grow ((ah w2).drew.alloc _)) (gM _));have acI:(w2.drew.alloc (.cells cur 5)).cell? ⟨w1.heap.size,0,none⟩=some (.slice A2 KB.length c2):=(((ah w2).drew.alloc (.cells cur 5)).below.cell (p:=⟨w1.heap.size,0,none⟩) UM).trans hcw;go_wp2_with fail;refine dN ?_;refine dO (S:=fun w'=>w'.cell? ⟨w1.heap.size,0,none⟩=some (.slice A2 KB.length c2)) (by kernel_rfl) (hcw) (fun hHeld=>?_);refine aj 0 ?_;refine aj 1 ?_;refine aj 2 ?_;refine aj 3 ?_;refine aj 4 ?_;refine aj 6 ?_;refine aj 7 ?_;refine aj 8 ?_
  refine aj 9 ?_;refine aR 5 (fun K hK=>?_);go_simp;refine aV hK (acI) (fun hHeld=>?_);clear hK K;refine aR 10 (fun K hK=>?_);refine n_ (ys:=KB) rfl (.tmp 27) (.tmp 31) _ rfl rfl iU.o _ rfl gz.o (by omega) (by simp) ?_;intro A3 c3 w3 hr3 hg3;rw[dg,mF] at hr3;have d_:=aa hr3;have aJ:=aa (show Grow w2 w3 from ct ((ah w2).drew.alloc _) (dU hg3 iU.o (by simp)));clear hr3 hg3;refine aV hK ((aJ.o.below.cell (p:=⟨w1.heap.size,0,none⟩) UM).trans hcw) (fun hHeld=>?_);clear hK K;refine aj 11 ?_;refine aj 12 ?_;refine cz ?_;rw[dg];go_wp2_with fail;go_ret2;rw[show bK v=(KB,0) by unfold bK;rw[ai (by have:=az.o;omega),ai (by rw[gh.o];exact hlen),gh.o]]
  exact⟨w2.drew.heap.size,A3,c3,rfl,by have:=aN.o.size;have:=yK.o.size;simp;omega,d_.o,(aN.o.trans yK.o).trans aJ.o⟩
 have h0':(g==0)=false:=by simpa using h0
 have acJ:(g != 0)=true:=by simpa using h0
 clear h0;go_wp2_with fail;go_ret2;rw[show bK v=([],g) by unfold bK;rw[az.o,ar (by simpa using acJ)]];exact km.bad aN.o
theorem UN(v:V)(c:Cv)(w:World)(hfit:v.fit)(eP:v.count≤20000)(hT:eo w)(hv:In w v c):Calls prog 53 #[c.agg] w (km w (bK v)):=UK v c w hfit (V.J5 eP hv) hT hv
end
section
open Go.RowKit Go.Shelf Go.WideShapes
theorem InL.acK{w:World}{A:Option Addr}{cap:Nat}{vs:List V}(h:InL w A cap vs):∀v∈vs,v.fit:=fun v hv=>by
 have:=IsV.fit _ _ h;rw[V.fit] at this;exact this.2.1 v hv
theorem UO:∀(l:List V) (j:Nat) (h:j<l.length),(∀i (hi:i<l.length),i<j→(bK l[i]).2=0)→(bK l[j]).2≠0→qs l=(bK l[j]).2
 | [],j,h,_,_=>by simp at h
 | x::l,0,h,_,hn=>by rw[qs];simp only[Ci] at hn ⊢;rw[ar hn]
 | x::l,j+1,h,h0,hn=>by
  have hx:(bK x).2=0:=h0 0 (by simp) (by omega);rw[qs,ai (by simpa using hx)];simp only[EL] at hn ⊢;exact UO l j (by simpa using h) (fun i hi hij=>h0 (i+1) (by simpa using hi) (by omega)) hn
theorem Oj:∀(l:List V),(∀i (hi:i<l.length),(bK l[i]).2=0)→qs l=0
 | [],_=>rfl
 | x::l,h=>by
  have hx:(bK x).2=0:=h 0 (by simp);rw[qs,ai (by simpa using hx)];exact Oj l (fun i hi=>h (i+1) (by simpa using hi))
theorem Ol:∀(l:List V) (ts:List Bool) (j:Nat) (h1:j<l.length) (h2:j<ts.length),jD (l.take (j+1)) (ts.take (j+1))=jD (l.take j) (ts.take j)++flip ts[j] l[j].key
 | [],_,j,h,_=>by simp at h
 | _::_,[],j,_,h=>by simp at h
 | x::l,t::ts,0,_,_=>by simp[jD]
 | x::l,t::ts,j+1,h1,h2=>by
  simp only[MK,jD,EL,mE];rw[Ol l ts j (by simpa using h1) (by simpa using h2)]
theorem acL:∀(l:List V) (ts:List Bool),l.length=ts.length→jD (l.take l.length) (ts.take l.length)=jD l ts:=fun l ts h=>by
 rw[fC,h,fC]
theorem UQ{v:V}(h:(bK v).2=0):bK v=(v.key,0):=by
 have hg:=FJ h;unfold bK;rw[ai (by omega),ai (by omega)]
theorem acM(n:Nat)(h:n<256):255 ^^^ n=255-n:=by
 apply Jt;intro i;have e1:(255:Nat)=2 ^ 8-1:=by decide
 have e2:255-n=2 ^ 8-(n+1):=by rw[e1];omega
 rw[Nat.testBit_xor,e2,Nat.testBit_two_pow_sub_succ (by exact h),e1,Nat.testBit_two_pow_sub_one];by_cases hi:i<8
 ·simp[hi]
 have:n.testBit i=false:=Jv (cU h (show 2 ^ 8≤2 ^ i from lg (by omega) (by omega)));simp[hi,this]
theorem acN(x:UInt8):bits .xor .u8 IntKind.u8.max (x.toNat:Int)=((eZ x).toNat:Int):=by
 have hx:=x.toNat_lt;have h2:=u8_xor_nat 255 x.toNat (by omega) hx;rw[acM x.toNat hx] at h2;unfold eZ;rw[yf,Nat.mod_eq_of_lt (by omega)];exact h2
theorem Row.setAt{w:World}{base n c g:Nat}{xs:List UInt8}(h:Row w base (.slice (some ⟨g,0,none⟩) n c) n xs)(j:Nat)(hj:j<n)(y:UInt8)(u:Value)(hu:u=.int .u8 (y.toNat:Int)) :
 Row (w.setCell ⟨g,j,none⟩ u) base (.slice (some ⟨g,0,none⟩) n c) n (xs.set j y):=by
 subst hu;have e:bw (xs.set j y)=(bw xs).set j (.int .u8 (y.toNat:Int)):=by simp[bw,List.map_set]
 unfold Row;rw[e];exact(World.ownsRow.stored h j _).1
theorem acO(b:List UInt8)(j:Nat)(h:j<b.length):((b.take j).map eZ++b.drop j).set j (eZ b[j])=(b.take (j+1)).map eZ++b.drop (j+1):=by
 rw[MW _ _ (by simp;omega),cY,eD,pW (by omega),yj,yg h,MX,px b j h];simp only[lZ,eW,mZ,mE,zN,mF]
theorem acP(b:List UInt8)(j:Nat)(h:j<b.length):((b.take j).map eZ++b.drop j)[j]'(by simp;omega)=b[j]:=by
 rw[MS (by simp;omega)];simp only[Jy,cY,eD];congr 1;omega
theorem UR{l:List V}{ts:List Bool}(h:l.length≠ts.length):iX l ts=([],1):=by unfold iX;rw[ar h]
theorem UT{l:List V}{ts:List Bool}(h:l.length=ts.length){e:Int}(he:e≠0)(j:Nat)(hj:j<l.length)(h0:∀i (hi:i<l.length),i<j→(bK l[i]).2=0)(hx:(bK l[j]).2=e):iX l ts=([],e):=by
 have:=UO l j hj h0 (by rw[hx];exact he);unfold iX;rw[ai (by omega),this,hx,ar he]
theorem UU{l:List V}{ts:List Bool}(h:l.length=ts.length)(h0:∀i (hi:i<l.length),(bK l[i]).2=0)(hb:96<(jD l ts).length):iX l ts=([],14):=by
 unfold iX;rw[ai (by omega),ai (by rw[Oj l h0];simp),ar hb]
theorem UW{l:List V}{ts:List Bool}(h:l.length=ts.length)(h0:∀i (hi:i<l.length),(bK l[i]).2=0)(hb:(jD l ts).length≤96):iX l ts=(jD l ts,0):=by
 unfold iX;rw[ai (by omega),ai (by rw[Oj l h0];simp),ai (by omega)]
def Acc(xs ys:List UInt8):Prop:=(xs=ys∧ys.length≤192)∨(96<xs.length∧xs.length≤192∧96<ys.length)
theorem Acc.le{xs ys:List UInt8}(h:Acc xs ys):xs.length≤192:=by rcases h with ⟨rfl,h⟩ | h<;>omega
theorem Acc.add{xs ys zs:List UInt8}(h:Acc xs ys)(hx:xs.length≤96)(hz:zs.length≤96):Acc (xs++zs) (ys++zs):=by
 rcases h with ⟨rfl,h⟩ | h
 ·exact .inl ⟨rfl,by rw[bD];omega⟩
 omega
theorem Acc.skip{xs ys zs:List UInt8}(h:Acc xs ys)(hx:96<xs.length):Acc xs (ys++zs):=by
 refine .inr ⟨hx,h.le,?_⟩;rw[bD];rcases h with ⟨rfl,h⟩ | h<;>omega
theorem acQ(l:List V)(ts:List Bool)(A F:Option Addr)(cap fc:Nat)(w:World)(eP:∀v∈l,v.J4)(hT:eo w)(hv:InL w A cap l)(hf:Om w F ts)(hts:ts.length≤140737488355328) :
 Calls prog 58 #[.slice A l.length cap,.slice F ts.length fc] w (km w (iX l ts)):=by
 have hll:l.length≤140737488355328:=by
  obtain⟨_,_,_,_,_,_,_,_,_,_,_,_,_,hlen,_,_,_⟩:=lu hv;exact hlen
 have Ar:=aa hv.acK;have HV:=aa hv;have HF:=aa hf;have HT:=aa hT;have acR:=aa eP;clear hv hf hT eP;by_cases hlen:l.length=ts.length
 ·have heq:((l.length:Int) != (ts.length:Int))=false:=by simp[hlen]
  have HLEN:=aa hlen;have HU:=aa (fun x:UInt8=>acN x);clear hlen;go_enter func58,ntmps58;go_wp2_with fail;go_loopg [6,7,8,9,10,11,19] (l.length+1) (fun gk o _ _ _ _ _ i wr=>∃(j:Nat) (xs:List UInt8) (A':Option Addr) (c':Nat),j≤l.length∧gk+j=l.length+1∧i=.int .i64 j∧o=.slice A' xs.length c'∧Row wr w.heap.size (.slice A' xs.length c') xs.length xs ∧
   Acc xs (jD (l.take j) (ts.take j))∧(∀i (hi:i<l.length),i<j→(bK l[i]).2=0)∧Grow w wr)
  exact⟨0,[],none,0,aS _,rfl,rfl,rfl,iH _ _ _ _,.inl ⟨by simp[jD],by simp[jD]⟩,fun _ _ h=>absurd h (by omega),ah w⟩;obtain⟨j,xs,A',c',hj,hg,rfl,rfl,hr,hacc,hz,hgr⟩:=hrel;obtain⟨gk',rfl⟩:=bP gk (by omega);have hxl:=hacc.le;have HR:=aa hr;have tF:=aa hacc;have HZ:=aa hz;have HG:=aa hgr;have fM:=py HV.o hgr;clear hr hacc hz hgr;by_cases hlt:j<l.length
  ·obtain⟨bk,o,x,ha,hbk,e0,e1,e2,e3,e4,hx⟩:=fM.fJ j hlt;dsimp only[kf] at ha;subst ha;have HX:=aa hx;have dC:j<ts.length:=by have:=HLEN.o;omega
   have kQ:=aa (UK l[j] x (wr.alloc (.cells x.cells 27)) (Ar.o _ (aY hlt)) (acR.o _ (aY hlt)) (HT.o.grow (HG.o.alloc _)) (HX.o.grow ((ah wr).alloc _)));obtain⟨KB,ke,fG⟩:∃kb ke,bK l[j]=(kb,ke):=⟨_,_,rfl⟩;rw[fG] at kQ;have gh:=aa fG;clear hx fM fG;go_wp2_with fail;refine kQ.o.mono ?_;rintro e w2 ⟨C4,B,bc,rfl,hb2,hr2,hg2⟩;dsimp only at hr2 ⊢;have UX:=hb2;have bI:=aa hr2;have HG2:=aa ((HG.o.alloc (.cells x.cells 27)).trans hg2);have yK:=aa (((ah wr).alloc (.cells x.cells 27)).trans hg2);clear hr2 hg2 hb2 e0 e1 e2 e3 e4;by_cases vv:ke=0
   ·subst vv;have hof:=UQ (show (bK l[j]).2=0 by rw[gh.o]);have hkb:l[j].key=KB:=by have:=gh.o;rw[hof] at this;exact(zU.1 this).1
    have Oo:KB.length≤96:=by rw[← hkb];exact(FJ (show (bK l[j]).2=0 by rw[gh.o])).2
    have jE:=aa hkb;have ko:=aa (Ol l ts j hlt dC);have vw:=aa (show ∀i (hi:i<l.length),i<j+1→(bK l[i]).2=0 from fun i hi hij=>by
     rcases MZ.1 hij with h | rfl
     ·exact HZ.o i hi h
     rw[gh.o])
    obtain⟨fb,fo,rfl,hfc⟩:=HF.o.2 (by omega);have tG:=((HG2.o.below.cell (hfc j (.bool ts[j]) (by simp[dC])).2.2).trans (hfc j (.bool ts[j]) (by simp[dC])).1);have JX:fb<w2.heap.size:=cU (hfc j (.bool ts[j]) (by simp[dC])).2.2 HG2.o.size;have Au:=aa (HR.o.grow yK.o);clear hof hkb hfc
    cases xb:ts[j] with
    | false =>
     rw[xb] at tG ko;rw[show flip false l[j].key=KB by rw[jE.o];rfl] at ko;clear xb;by_cases FK:xs.length≤96
     ·go_wp2_with (at_builtin;refine fK (ys:=KB) rfl (.tmp 53) (.tmp 54) _ rfl rfl Au.o _ rfl (ej dP bI.o.reads.1 (gM _)) (by omega) HG2.o.size ?_;intro A3 c3 w3 hr3 hg3;have d_:=aa hr3;have aJ:=aa (dU hg3 Au.o HG2.o.size);clear hr3 hg3);go_roundg gk';have hn:(xs++KB).length=xs.length+KB.length:=bD;exact⟨j+1,xs++KB,A3,c3,by omega,by omega,by go_num,by rw[hn],by rw[hn];exact d_.o,by rw[ko.o];exact tF.o.add FK Oo,vw.o,ct HG2.o aJ.o⟩;omega
     go_wp2_with fail;go_roundg gk';exact⟨j+1,xs,A',c',by omega,by omega,by go_num,rfl,Au.o,by rw[ko.o];exact tF.o.skip (by omega),vw.o,HG2.o⟩;omega
    | true =>
     rw[xb] at tG ko;rw[show flip true l[j].key=KB.map eZ by rw[jE.o];rfl] at ko;clear xb;go_wp2_with fail;obtain⟨wo,hwo⟩:∃wo:World,wo=wr:=⟨_,rfl⟩;subst hwo;go_loopg [11,38] (KB.length+1) (fun gk _ i w3=>∃k:Nat,k≤KB.length∧gk+k=KB.length+1∧i=.int .i64 k∧Row w3 C4 (.slice B KB.length bc) KB.length ((KB.take k).map eZ++KB.drop k)∧w2.grownBy w3 (Value.ownBlock (.slice B KB.length bc)));exact⟨0,aS _,rfl,rfl,bI.o,World.grownBy.refl _ _⟩;obtain⟨k,hk,iB,rfl,hr3,hg3⟩:=hrel;have d_:=aa hr3;have aJ:=aa hg3;clear hr3 hg3;by_cases hlk:k<KB.length
     ·obtain⟨tv,rfl⟩:∃g,gk=g+1:=⟨gk-1,by omega⟩;obtain⟨gb,alK,hgv,hgb,alL⟩:=World.ownsRow.form d_.o (by omega);have hB:B=some ⟨gb,0,none⟩:=by injection hgv
      subst hB;have UY:=ED d_.o (g:=gb) rfl k _ (uY _ k (by simp;omega));rw[acP KB k hlk] at UY;have hfz:=EH d_.o k;have hun:=HU.o KB[k];rw[add_lit,dg] at UY;have hst:=(World.ownsRow.stored d_.o k (.int .u8 ((eZ KB[k]).toNat:Int))).2;have HST:=aa hst;have hbl:=KB[k].toNat_lt;clear hst;go_wp2_with fail;go_roundg tv;exact⟨k+1,by omega,by omega,by go_num,by rw[← acO KB k hlk];exact d_.o.setAt k hlk _ _ rfl,(show GB w2 wr gb from aJ.o).trans HST.o⟩;omega
     obtain rfl:k=KB.length:=by omega
     rw[fC,List.drop_length,mD] at d_;have hown:∀q,Value.ownBlock (.slice B KB.length bc)=some q→wo.heap.size≤q:=fun q hq=>by
      have:=(bO bI.o q hq).1;simp at UX;omega
     have HGa:=aa (yK.o.grown aJ.o hown);have pK:=aa (HG2.o.grown aJ.o (fun q hq=>a_ HG.o.size (hown q hq)));have C5:=aa (HR.o.grow HGa.o);have ig:(KB.map eZ).length=KB.length:=cY _;have gz:=aa (show Src prog 1 23 (.slice B KB.length bc) (KB.map eZ).length (bw (KB.map eZ)) wr from by
      have h:=d_.o.reads.1;unfold ba at h;rw[ig] at h ⊢;exact ej dP h (gM _))
     have yL:=aa ig;clear hown iB ig;by_cases FK:xs.length≤96
     ·go_wp2_with (at_builtin;refine fK (ys:=KB.map eZ) rfl (.tmp 53) (.tmp 54) _ rfl rfl C5.o _ rfl gz.o (by rw[yL.o];omega) pK.o.size ?_;intro A3 c3 w4 hr4 hg4;have cN:=aa hr4;have bz:=aa (dU hg4 C5.o pK.o.size);clear hr4 hg4);go_roundg gk';have hn:(xs++KB.map eZ).length=xs.length+(KB.map eZ).length:=bD;exact⟨j+1,xs++KB.map eZ,A3,c3,by omega,by omega,by go_num,by rw[hn,yL.o],by rw[hn];exact cN.o,by rw[ko.o];exact tF.o.add FK (by rw[yL.o];exact Oo),vw.o,ct pK.o bz.o⟩;omega
     go_wp2_with fail;go_roundg gk';exact⟨j+1,xs,A',c',by omega,by omega,by go_num,rfl,C5.o,by rw[ko.o];exact tF.o.skip (by omega),vw.o,pK.o⟩;omega
   have hk1:(ke==0)=false:=by simpa using vv
   have hk2:(ke != 0)=true:=by simpa using vv
   have HK0:=aa vv;clear vv;go_wp2_with fail;go_ret2;rw[UT HLEN.o HK0.o j hlt HZ.o (by rw[gh.o])];exact km.bad HG2.o
  obtain rfl:j=l.length:=by omega
  have hb:=acL l ts HLEN.o;rw[hb] at tF;have yM:=aa (fun i (hi:i<l.length)=>HZ.o i hi hi);clear hb fM;by_cases FK:96<xs.length
  ·go_wp2_with fail;go_ret2;have Oq:96<(jD l ts).length:=by
    rcases tF.o with ⟨h,_⟩ | h
    ·rw[← h];exact FK
    exact h.2.2
   rw[UU HLEN.o yM.o Oq];exact km.bad HG.o
  obtain⟨cur,jc,hmk⟩:=JU xs.length (by omega);have iU:=aa (Row.made (w:=wr) cur xs.length (by simp only[maxLen];omega) jc);have gz:=aa (show Src prog 1 23 (.slice A' xs.length c') xs.length (bw xs) (wr.alloc (.cells cur 5)) from ej dP (HR.o.reads.1.grow ((ah wr).alloc _)) (gM _));go_wp2_with (at_builtin;refine fK (ys:=xs) rfl (.tmp 62) (.tmp 63) _ rfl rfl iU.o _ rfl gz.o (by omega) (by simp) ?_;intro A3 c3 w3 hr3 hg3;rw[dg,mF] at hr3;have d_:=aa hr3;have aJ:=aa (show Grow wr w3 from ct ((ah wr).alloc _) (dU hg3 iU.o (by simp)));clear hr3 hg3);go_ret2;have hxs:xs=jD l ts:=by
   rcases tF.o with ⟨h,_⟩ | h
   ·exact h
   omega
  rw[UW HLEN.o yM.o (by rw[← hxs];omega),← hxs];exact⟨wr.heap.size,A3,c3,rfl,HG.o.size,d_.o,HG.o.trans aJ.o⟩
 have hne:((l.length:Int) != (ts.length:Int))=true:=by simp;omega
 have HLEN:=aa hlen;clear hlen;go_enter func58,ntmps58;go_wp2_with fail;go_ret2;rw[UR HLEN.o];exact km.bad (ah w)
end
abbrev tH:=@km.bad
section
open Go.RowKit
def bt(v:V):List UInt8×Int:=
 if v.good≠0 then ([],v.good) else if v.k≠8 then ([],4) else match jq v with | none=>([],14) | some i=>bK i
theorem UZ{v i:V}(h:jq v=some i):∃s,(s,i)∈v.f:=by
 unfold jq at h;rw[Ck] at h;obtain⟨⟨s,x⟩,h1,rfl⟩:=h;exact⟨s,Cl h1⟩
theorem J6:∀{l:List Nat} {x:Nat},x∈l→x≤l.sum
 | y::l,x,h=>by
  rw[pc];rcases iw.1 h with rfl | h
  ·exact Nat.le_add_right _ _
  exact a_ (J6 h) (Nat.le_add_left _ _)
theorem FL{v i:V}(h:jq v=some i):i.count≤v.count:=by
 obtain⟨s,hs⟩:=UZ h;obtain⟨k,n,b,l,f⟩:=v;rw[u6];have h1:i.count∈f.map fun x=>x.2.count:=jx.2 ⟨(s,i),hs,rfl⟩
 have h2:=J6 h1;show i.count≤_;omega
theorem J7(v:V)(c:Cv)(w:World)(eP:v.count≤20000)(hT:eo w)(hv:In w v c):Calls prog 24 #[c.agg] w (km w (bt v)):=by
 have aP:=aa ((ah w).alloc (.cells c.cells 27));have bf:=aa (aH w 27 c.cells);have hcell:=(aH w 27 c.cells).cell;have tE:=aa (N9 v _ c eP (hT.grow aP.o) (hv.grow aP.o));have HV:=aa hv;have HT:=aa hT;obtain⟨g,hg⟩:∃g,v.good=g:=⟨_,rfl⟩;rw[hg] at tE;have az:=aa hg;have HK:Hid (c.k=v.k):=aa (by obtain⟨k,n,b,l,f⟩:=v;obtain⟨aB,aL,aF,cB,cL,cF,rfl,_⟩:=In.open hv;rfl);clear hT hv hg;go_enter func24,ntmps24;go_wp2_with fail;refine tE.o.mono ?_;rintro e w1 ⟨rfl,hg1⟩;have eX:=bf.o.grow hg1;have aN:=aa (aP.o.trans hg1);have aQ:=aa eX;have hc1:=eX.cell;have lD:=eX.lt;clear hg1 eX hcell;by_cases h0:g=0
 ·subst h0;by_cases h8:c.k=8
  ·have pL:=aa (fun w2 (h:Grow w w2)=>Od v c w w2 h HV.o);have H8:=aa h8;have CO:(c.k==8)=true:=by rw[h8];rfl
   clear h8;go_wp2_with fail;refine(pL.o w1 aN.o).mono ?_;rintro e w2 ⟨hg2,ci,t,u,rfl,tI,hres⟩;have HG2:=aa (aN.o.trans hg2);have aJ:=aa ((aN.o.trans hg2).alloc (.cells ci.cells 27));have Ot:=aa (aH w2 27 ci.cells);have FM:=Ot.o.cell;have yN:=aa tI;clear tI hg2;rcases hres with ⟨hid,rfl⟩ | ⟨hid,rfl,rfl,rfl⟩
   ·have HP:=aa (show bt v=bK u by unfold bt;rw[ai (by have:=az.o;omega),ai (by rw[← HK.o,H8.o];simp),hid]);have kQ:=aa (UN u ci _ (IsV.fit u ci yN.o) (a_ (FL hid) eP) (HT.o.grow aJ.o) (yN.o.grow aJ.o));clear hid;go_wp2_with fail;refine kQ.o.mono ?_;rintro e w3 ⟨base,A3,c3,rfl,hb3,hr3,hg3⟩;have d_:=aa hr3;have bz:=aa (aJ.o.trans hg3);have aX:=aa (a_ aJ.o.size hb3);clear hr3 hg3 hb3;go_wp2_with fail;go_ret2;rw[HP.o];exact⟨base,A3,c3,rfl,aX.o,d_.o,bz.o⟩
   go_wp2_with fail;go_ret2;rw[show bt v=([],14) by unfold bt;rw[ai (by have:=az.o;omega),ai (by rw[← HK.o,H8.o];simp),hid]];exact tH aJ.o
  go_wp2_with fail;go_ret2;rw[show bt v=([],4) by unfold bt;rw[ai (by have:=az.o;omega),ar (by rw[← HK.o];exact h8)]];exact tH aN.o
 go_wp2_with fail;go_ret2;rw[show bt v=([],g) by unfold bt;rw[ar (by have:=az.o;omega),az.o]];exact tH aN.o
end
section
open Go.RowKit Go.ChangeShapes Go.Shelf Go.Deep
theorem U0:prog.cellsOf 5=1:=by kernel_rfl
theorem acS:prog.bytesOf 5=1:=by kernel_rfl
section
variable {H:Type} {enc:TypeId×Value→H} {W:World} {sp:Nat→Bool} {held:Bool}
theorem FN(a:Addr):a.add 0=a:=by unfold Addr.add;simp
theorem Ou{a:Addr}{u:Value}(h:W.cell? a=some u):a=⟨a.block,a.off,none⟩:=by
 obtain⟨bk,o,s⟩:=a
 cases s with
 | none=>rfl
 | some s =>
  exfalso;unfold World.cell? at h;simp only at h;split at h
  ·simp at h
  cases h
theorem acT{fuel:Nat}{c:Value}{x:DataW H×List MemPlace}(h:DataW.trod enc prog W 0 sp held fuel 23 [c]=some x)(hw:∀n∈x.1.weights prog 23,n≤reachBytes) :
 ∃A b cap,c=.slice A b.length cap∧b.length≤cap∧b.length≤140737488355328∧ba W A b:=by
 rcases open_slice1 dP U0 h with ⟨hc,hx⟩ | ⟨a,len,cap,m,n,V,D,Pl,hc,hb,hl,hm,hmm,hx,hall⟩
 ·injection hc with hc;subst hc;exact⟨none,[],0,rfl,by simp,by simp,⟨by simp[bw],fun h=>by simp at h⟩⟩
 injection hc with hc;have U2:len≤m:=by rw[hmm];split<;>omega
 have hV:∀i,i<len→∃y:UInt8,V i=.int .u8 (y.toNat:Int):=fun i hi=>by
  obtain⟨h1,h2⟩:=hall i (by omega);obtain⟨n',hn,hx',hwf⟩:=EY CA h2;injection hn with hn;have hr:0≤n'∧n'<256:=by
   have h3:(decide (IntKind.u8.min≤n')&&decide (n'≤IntKind.u8.max))=true:=hwf;rw[gV,iy,iy] at h3;have e1:IntKind.u8.min=0:=rfl;have e2:IntKind.u8.max=255:=rfl;rw[e1,e2] at h3;omega
  refine⟨UInt8.ofNat n'.toNat,?_⟩;rw[hn,yf];congr 1;omega
 let y:Nat→UInt8:=fun i=>if h:i<len then Classical.choose (hV i h) else 0
 have hy:∀i,i<len→V i=.int .u8 ((y i).toNat:Int):=fun i hi=>by
  show V i=.int .u8 ((if h:i<len then Classical.choose (hV i h) else 0:UInt8).toNat:Int);rw[dif_pos hi];exact wH (hV i hi)
 have hlb:((List.range len).map y).length=len:=by simp
 have hwt:len≤reachBytes:=by
  have:=hw ((len+(m-len))*1) (by rw[hx];simp[DataW.weights,acS]);omega
 have Av:=reachBytes_lt;refine⟨some a,(List.range len).map y,cap,by rw[hlb];exact hc,by rw[hlb];exact hl,by rw[hlb];simp only[Nat.reducePow] at Av;omega,⟨by rw[EZ,qT],fun hn=>?_⟩⟩;rw[hlb] at hn;have h0:=(hall 0 (by omega)).1;rw[FN] at h0;have ha:=Ou h0;refine⟨a.block,a.off,by rw[← ha],fun j u hu=>?_⟩;have hj:j<len:=by
  have:=(kE.1 hu).1;rwa [EZ,hlb] at this
 have hcell:=(hall j (by omega)).1;rw[ha,add_lit] at hcell;rw[uY _ j (by rw[hlb];exact hj)] at hu;injection hu with hu;subst hu;refine⟨?_,aS _,(show a.block<W.heap.size from Na W _ h0)⟩;rw[hcell,hy j hj];simp
end
theorem acU{W:World}{l:List (String×DataW Unit)}(h:laidMet prog l W)(h1:("unicode/utf8.first", Lib.firstData)∈l)(h2:("unicode/utf8.acceptRanges", Lib.acceptData)∈l):eo W:=
 utf8Tabs_of_readsT (U8Types.of196 U3) ⟨by kernel_rfl,by kernel_rfl,by kernel_rfl,by kernel_rfl,by kernel_rfl,by kernel_rfl,by kernel_rfl⟩ (Lib.laidMet.reads h h1) (Lib.laidMet.reads h h2)
theorem acV:(Rows.laid_unicode_utf8_first:DataW Unit)=Lib.firstData:=by kernel_rfl
theorem acW:(Rows.laid_unicode_utf8_acceptRanges:DataW Unit)=Lib.acceptData:=by kernel_rfl
noncomputable def J8(os:Os):World:=
 let w0:=World.holding prog os ⟨#[],#[],[]⟩
 let put (h:Array Obj) (g:Nat) (cs:Array Value):Array Obj:=h.modify g fun
  | .cells _ t frozen=>.cells cs t frozen
  | o=>o
 let h1:=put w0.heap 0 (Lib.firstTab.map fun z=>Value.int .u8 z).toArray
 let h2:=put h1 1 ((List.range 16).flatMap fun i=>[Value.int .u8 (Lib.accLo i),Value.int .u8 (Lib.accHi i)]).toArray
 { w0 with heap:=h2 }
theorem acX(os:Os)(args:Array Value):laidMet prog [("unicode/utf8.acceptRanges", Lib.acceptData), ("unicode/utf8.first", Lib.firstData)] ((J8 os).forCall (fun _ _=>0) ⟨#[], args, []⟩).memory:=
 (LaidIn.of_run (l:=[("unicode/utf8.acceptRanges", Lib.acceptData), ("unicode/utf8.first", Lib.firstData)]) [1, 0] 8 (by kernel_rfl) (by kernel_rfl) (by kernel_rfl) (by kernel_rfl)).met
end
section
open Go.RowKit Go.ChangeShapes Go.Shelf Go.Deep
theorem Ov:∃fs:Array Field,prog.underlying 27=some (.struct fs)∧fs.map (fun f=>(f.type,f.offset))=#[(3,0),(22,1),(23,2),(24,3),(25,4)]:=⟨_,underlying27,by kernel_rfl⟩
theorem U4:∃fs:Array Field,prog.underlying 82=some (.struct fs)∧fs.map (fun f=>(f.type,f.offset))=#[(9,0),(27,1)]:=⟨_,underlying82,by kernel_rfl⟩
theorem FO:prog.underlying 3=some (.int .i64):=by kernel_rfl
theorem acY:prog.underlying 22=some (.int .u64):=by kernel_rfl
theorem Ow:prog.cellsOf 3=1:=by kernel_rfl
theorem acZ:prog.cellsOf 22=1:=by kernel_rfl
theorem U5:prog.cellsOf 23=1:=by kernel_rfl
theorem U6:prog.cellsOf 24=1:=by kernel_rfl
theorem U7:prog.cellsOf 25=1:=by kernel_rfl
theorem qu:prog.cellsOf 27=5:=by kernel_rfl
theorem U8:prog.cellsOf 82=6:=by kernel_rfl
theorem Aw:prog.cellsOf 9=1:=by kernel_rfl
theorem ac0:prog.bytesOf 27=88:=by kernel_rfl
theorem ac1:prog.bytesOf 82=104:=by kernel_rfl
theorem J9{k:IntKind}{n:Int}(h:(Lit.int k n).wf=true):k.min≤n∧n≤k.max:=by
 have h3:(decide (k.min≤n)&&decide (n≤k.max))=true:=h;rw[gV,iy,iy] at h3;exact h3
theorem U9{H:Type}{P:Program}{e:TypeId}:∀{l:List (DataW H)} {d:DataW H},d∈l→∀n∈d.weights P e,n∈DataW.weightsAll P e l
 | x::r,d,h,n,hn=>by
  simp only[DataW.weightsAll,qV];rcases iw.1 h with e | e
  ·subst e;exact .inl hn
  exact .inr (U9 e n hn)
section
variable {H:Type} {enc:TypeId×Value→H} {W:World} {sp:Nat→Bool} {held:Bool}
theorem open_row{t e:TypeId}{z gi:Nat}(ht:prog.underlying t=some (.slice e))(hz:prog.cellsOf e=z)(hz0:0<z)(hby:prog.bytesOf e=gi)(ac2:0<gi){fuel:Nat}{c:Value}{x:DataW H×List MemPlace}(h:DataW.trod enc prog W 0 sp held fuel t [c]=some x)(hw:∀n∈x.1.weights prog t,n≤reachBytes) :
 ∃(A:Option Addr) (len cap:Nat) (D:Nat→DataW H),c=.slice A len cap∧len≤cap∧len≤140737488355328∧((len=0)∨∃bk o,A=some ⟨bk,o,none⟩∧bk<W.heap.size) ∧
  ∀i,i<len→SizeOf.sizeOf (D i)<SizeOf.sizeOf x.1∧(∀n∈(D i).weights prog e,n≤reachBytes)∧∃(bk o fuel':Nat) (q:List MemPlace) (cs:List Value),A=some ⟨bk,o,none⟩∧cs.length=z∧(∀j u,cs[j]?=some u→bE W 0 W.heap.size ⟨bk,o+i*z+j,none⟩ u)∧DataW.trod enc prog W 0 sp held fuel' e cs=some (D i,q):=by
 rcases open_slice ht h with ⟨hc,hx⟩ | ⟨a,len,cap,m,n,D,Pl,hc,hb,hl,hm,hmm,hx,hall⟩
 ·injection hc with hc;subst hc;exact⟨none,0,0,fun _=>x.1,rfl,by simp,by simp,.inl rfl,fun i hi=>absurd hi (by simp)⟩
 injection hc with hc;have U2:len≤m:=by rw[hmm];split<;>omega
 rw[hz] at hall;have C6:x.1=.slice ((List.range len).map D) ((List.range (m-len)).map fun j=>D (len+j)):=by rw[hx]
 have hwt:len≤reachBytes:=by
  have:=hw ((len+(m-len))*gi) (by rw[C6];simp[DataW.weights,ht,hby]);have h2:len*1≤(len+(m-len))*gi:=Nat.mul_le_mul (by omega) ac2;omega
 have Av:=reachBytes_lt;simp only[Nat.reducePow] at Av;have hcell:∀i,i<len→∃cs,cs.length=z∧(∀j u,cs[j]?=some u→W.cell? ((a.add (i*z)).add j)=some u)∧DataW.trod enc prog W 0 sp held n e cs=some (D i,Pl i):=fun i hi=>by
  obtain⟨cs,h1,h2⟩:=hall i (by omega);obtain⟨_,hlen,hcs⟩:=World.cells?_some h1;refine⟨cs,hlen,fun j u hu=>?_,h2⟩;have hj:j<z:=by rw[← hlen];exact(kE.1 hu).1
  rw[hcs j hj,hu]
 have FP:0<len→a=⟨a.block,a.off,none⟩∧a.block<W.heap.size:=fun hn=>by
  obtain⟨cs,hlen,hcs,_⟩:=hcell 0 hn;have h0:=hcs 0 (cs[0]'(by omega)) (bN (by omega));rw[FN,Nat.zero_mul,FN] at h0;exact⟨Ou h0,Na W _ h0⟩
 refine⟨some a,len,cap,D,hc,hl,by omega,?_,fun i hi=>⟨?_,?_,?_⟩⟩
 ·rcases uN len with h0 | h0
  ·exact .inl h0
  exact .inr ⟨a.block,a.off,by rw[← (FP h0).1],(FP h0).2⟩
 ·rw[C6];have hmem:D i∈(List.range len).map D:=jx.2 ⟨i,JC.2 hi,rfl⟩;have:=uK hmem;simp only[DataW.slice.sizeOf_spec];omega
 ·intro k hk;refine hw k ?_;rw[C6];simp only[DataW.weights,ht,iw,qV];exact .inr (.inl (U9 (jx.2 ⟨i,JC.2 hi,rfl⟩) k hk))
 obtain⟨cs,hlen,hcs,htr⟩:=hcell i hi;have ha:=FP (by omega);refine⟨a.block,a.off,n,Pl i,cs,by rw[← ha.1],hlen,fun j u hu=>⟨?_,aS _,ha.2⟩,htr⟩;have:=hcs j u hu;rw[ha.1,add_lit,add_lit] at this;exact this
theorem xd{fs:Array Field}{l:Array (TypeId×Nat)}(h:fs.map (fun f=>(f.type,f.offset))=l){i:Nat}{t:TypeId}{o:Nat}(hi:l[i]?=some (t,o)):∃f,fs[i]?=some f∧f.type=t∧f.offset=o:=by
 subst h;rw[Array.getElem?_map] at hi
 cases hf:fs[i]? with
 | none=>rw[hf] at hi;cases hi
 | some f =>
  rw[hf] at hi;simp only[JG,Option.some.injEq,Prod.mk.injEq] at hi;exact⟨f,rfl,hi.1,hi.2⟩
theorem FQ(n:Nat):∀(d:DataW H),SizeOf.sizeOf d≤n→∀(fuel:Nat) (cs:List Value) (q:List MemPlace),DataW.trod enc prog W 0 sp held fuel 27 cs=some (d,q)→(∀k∈d.weights prog 27,k≤reachBytes) →
 ∃(v:V) (c:Cv),cs=c.cells.toList∧In W v c:=by
 induction n with
 | zero =>
  intro d hd;have:0<SizeOf.sizeOf d:=by cases d<;>simp;all_goals omega
  omega
 | succ n ih =>
  intro d hd fuel cs q h hw;obtain⟨fs,hu,lI⟩:=Ov;obtain⟨xs,m,J_,hx,hlen,hxl,hall⟩:=zW hu h;injection hx with hx1 hx2;subst hx1;rw[qu] at hlen;have hfl:fs.size=5:=by have:=cT Array.size lI;simpa using this
  rw[hfl] at hxl;obtain⟨c0,c1,c2,c3,c4,rfl⟩:∃a b c d e,cs=[a,b,c,d,e]:=by
   match cs,hlen with
   | [a,b,c,d,e],_=>exact⟨a,b,c,d,e,rfl⟩
  obtain⟨x0,x1,x2,x3,x4,rfl⟩:∃a b c d e,xs=[a,b,c,d,e]:=by
   match xs,hxl with
   | [a,b,c,d,e],_=>exact⟨a,b,c,d,e,rfl⟩
  have ij:∀i t o,(#[(3,0),(22,1),(23,2),(24,3),(25,4)]:Array (TypeId×Nat))[i]?=some (t,o) →
   DataW.trod enc prog W 0 sp held m t (([c0,c1,c2,c3,c4].drop o).take (prog.cellsOf t))=[x0,x1,x2,x3,x4][i]?:=fun i t o hi=>by
   obtain⟨f,hf,rfl,rfl⟩:=xd lI hi;exact hall i f hf
  have h0:=ij 0 _ _ rfl;have h1:=ij 1 _ _ rfl;have h2:=ij 2 _ _ rfl;have h3:=ij 3 _ _ rfl;have h4:=ij 4 _ _ rfl;rw[Ow] at h0;rw[acZ] at h1;rw[U5] at h2;rw[U6] at h3;rw[U7] at h4;have Ox:fs.toList.map (·.type)=[3,22,23,24,25]:=by
   have:=cT (fun a=>a.toList.map Prod.fst) lI;simp only[Array.toList_map,kG] at this;exact this
  have tJ:∀(j:Nat) (t:TypeId) (dd:DataW H),[3,22,23,24,25][j]?=some t→([x0,x1,x2,x3,x4].map (·.1))[j]?=some dd→∀k∈dd.weights prog t,k≤reachBytes:=fun j t dd hj hdd k hk=>by
   refine hw k ?_;simp only[DataW.weights,hu,Ox];exact DataW.weights_mem_each hj hdd k hk
  obtain⟨k,e0,_,hk⟩:=EY FO h0;obtain⟨nn,e1,_,hnn⟩:=EY acY h1;simp at e0 e1;subst e0 e1;have hk':=J9 hk;have hn':=J9 hnn;have i1:IntKind.i64.min=-9223372036854775808:=rfl;have i2:IntKind.i64.max=9223372036854775807:=rfl;have i3:IntKind.u64.min=0:=rfl;have i4:IntKind.u64.max=18446744073709551615:=rfl;rw[i1,i2] at hk';rw[i3,i4] at hn';obtain⟨AB,b,cB,rfl,hbc,hbl,ac3⟩:=acT h2 (tJ 2 _ _ rfl rfl);obtain⟨AL,nl,cL,DL,rfl,hlc,hll,C7,hL⟩:=open_row lF qu (by omega) ac0 (by omega) h3 (tJ 3 _ _ rfl rfl);obtain⟨AF,nf,cF,DF,rfl,hfc,JX,hfa,hF⟩:=open_row Am U8 (by omega) ac1 (by omega) h4 (tJ 4 _ _ rfl rfl);have ac4:SizeOf.sizeOf x3.1<n+1:=by
   have:SizeOf.sizeOf x3.1<SizeOf.sizeOf (DataW.agg ([x0,x1,x2,x3,x4].map (·.1))):=by
    have:=uK (show x3.1∈[x0,x1,x2,x3,x4].map (·.1) by simp);simp only[Ct];omega
   omega
  have Oy:SizeOf.sizeOf x4.1<n+1:=by
   have:SizeOf.sizeOf x4.1<SizeOf.sizeOf (DataW.agg ([x0,x1,x2,x3,x4].map (·.1))):=by
    have:=uK (show x4.1∈[x0,x1,x2,x3,x4].map (·.1) by simp);simp only[Ct];omega
   omega
  have Oz:∀i,i<nl→∃(v:V),∃bk o c,AL=some ⟨bk,o,none⟩∧kI (bE W 0 W.heap.size) bk (o+i*5) c∧In W v c:=fun i hi=>by
   obtain⟨s1,s2,bk,o,fuel',q',cs',ha,hlen',hcs',htr⟩:=hL i hi;obtain⟨v,c,rfl,hin⟩:=ih (DL i) (by omega) fuel' cs' q' htr s2;exact⟨v,bk,o,c,ha,⟨hcs' 0 _ rfl,hcs' 1 _ rfl,hcs' 2 _ rfl,hcs' 3 _ rfl,hcs' 4 _ rfl⟩,hin⟩
  have Ka:∀i,i<nf→∃(sv:ByteArray×V),∃bk o c,AF=some ⟨bk,o,none⟩∧bE W 0 W.heap.size ⟨bk,o+i*6,none⟩ (.string sv.1)∧sv.1.size≤140737488355328∧kI (bE W 0 W.heap.size) bk (o+i*6+1) c∧In W sv.2 c:=fun i hi=>by
   obtain⟨s1,s2,bk,o,fuel',q',cs',ha,hlen',hcs',htr⟩:=hF i hi;obtain⟨gs,gu,yO⟩:=U4;obtain⟨ys,m',_,hy,OA,Ay,FR⟩:=zW gu htr;injection hy with hy1 hy2;have hgl:gs.size=2:=by have:=cT Array.size yO;simpa using this
   rw[hgl] at Ay;obtain⟨y0,y1,rfl⟩:∃a b,ys=[a,b]:=by
    match ys,Ay with
    | [a,b],_=>exact⟨a,b,rfl⟩
   obtain⟨d0,d1,d2,d3,d4,d5,rfl⟩:∃a b c d e f,cs'=[a,b,c,d,e,f]:=by
    match cs',hlen' with
    | [a,b,c,d,e,f],_=>exact⟨a,b,c,d,e,f,rfl⟩
   obtain⟨f0,rH,t0,o0⟩:=xd yO (i:=0) rfl;obtain⟨f1,OB,t1,o1⟩:=xd yO (i:=1) rfl;have g0:=FR 0 f0 rH;have g1:=FR 1 f1 OB;rw[t0,o0,Aw] at g0;rw[t1,o1,qu] at g1;have ac5:gs.toList.map (·.type)=[9,27]:=by
    have:=cT (fun a=>a.toList.map Prod.fst) yO;simp only[Array.toList_map,kG] at this;exact this
   have gw:∀(j:Nat) (t:TypeId) (dd:DataW H),[9,27][j]?=some t→([y0,y1].map (·.1))[j]?=some dd→∀k∈dd.weights prog t,k≤reachBytes:=fun j t dd hj hdd k hk=>by
    refine s2 k ?_;rw[hy1];simp only[DataW.weights,gu,ac5];exact DataW.weights_mem_each hj hdd k hk
   obtain⟨s,es,hys,_⟩:=zX nZ g0;simp at es;subst es;have hsl:s.size≤reachBytes:=by
    have:=gw 0 _ _ rfl rfl s.data.toList.length (by rw[hys];simp[DataW.weights]);simpa using this
   have Av:=reachBytes_lt;simp only[Nat.reducePow] at Av;have hsy:SizeOf.sizeOf y1.1<SizeOf.sizeOf (DF i):=by
    rw[hy1];have:=uK (show y1.1∈[y0,y1].map (·.1) by simp);simp only[Ct];omega
   obtain⟨v,c,hc,hin⟩:=ih y1.1 (by omega) m' [d1,d2,d3,d4,d5] y1.2 g1 (gw 1 _ _ rfl rfl);injection hc with e1 hc;injection hc with e2 hc;injection hc with e3 hc;injection hc with e4 hc;injection hc with e5 _;subst e1 e2 e3 e4 e5;exact⟨(s,v),bk,o,c,ha,hcs' 0 _ rfl,by show s.size≤_;omega,⟨hcs' 1 _ rfl,hcs' 2 _ rfl,hcs' 3 _ rfl,hcs' 4 _ rfl,hcs' 5 _ rfl⟩,hin⟩
  let vl:Nat→V:=fun i=>if h:i<nl then Classical.choose (Oz i h) else V.zero
  have hvl:∀i (h:i<nl),∃bk o c,AL=some ⟨bk,o,none⟩∧kI (bE W 0 W.heap.size) bk (o+i*5) c∧In W (vl i) c:=fun i h=>by
   show ∃bk o c,_∧_∧In W (if h:i<nl then Classical.choose (Oz i h) else V.zero) c;rw[dif_pos h];exact wH (Oz i h)
  let vf:Nat→ByteArray×V:=fun i=>if h:i<nf then Classical.choose (Ka i h) else (⟨#[]⟩,V.zero)
  have hvf:∀i (h:i<nf),∃bk o c,AF=some ⟨bk,o,none⟩∧bE W 0 W.heap.size ⟨bk,o+i*6,none⟩ (.string (vf i).1)∧(vf i).1.size≤140737488355328∧kI (bE W 0 W.heap.size) bk (o+i*6+1) c∧In W (vf i).2 c:=fun i h=>by
   have e:vf i=Classical.choose (Ka i h):=by
    show (if h:i<nf then Classical.choose (Ka i h) else (⟨#[]⟩,V.zero))=_;rw[dif_pos h]
   rw[e];exact wH (Ka i h)
  have Kb:((List.range nl).map vl).length=nl:=by simp
  have Kc:((List.range nf).map vf).length=nf:=by simp
  refine⟨.mk k nn.toNat b ((List.range nl).map vl) ((List.range nf).map vf),⟨k,nn,AB,b.length,cB,AL,nl,cL,AF,nf,cF⟩,rfl,?_⟩;unfold In;rw[IsV];refine⟨rfl,by show nn=(nn.toNat:Int);omega,rfl,Kb.symm,Kc.symm,hk'.1,hk'.2,by omega,hbc,hbl,by rw[Kb];exact hlc,by rw[Kb];exact hll,by rw[Kc];exact hfc,by rw[Kc];exact JX,ac3,fun i hi=>?_,fun i hi=>?_⟩
  ·rw[jb,List.getElem_range];obtain⟨bk,o,c,e,h5,hin⟩:=hvl i (by rw[Kb] at hi;exact hi);exact⟨bk,o,c,e,h5,hin⟩
  rw[jb,List.getElem_range];obtain⟨bk,o,c,e,hs,hz,h5,hin⟩:=hvf i (by rw[Kc] at hi;exact hi);exact⟨bk,o,c,e,hs,hz,h5,hin⟩
end
end
section
open Go.RowKit Go.ChangeShapes Go.ChangeAt Go.Shelf Go.WideShapes
theorem ac6:ownKnob prog.godebug=none:=by kernel_rfl
theorem OC:laidOutB prog=true:=by kernel_rfl
def FT:List (String×DataW Unit):=[("unicode/utf8.acceptRanges", Rows.laid_unicode_utf8_acceptRanges), ("unicode/utf8.first", Rows.laid_unicode_utf8_first)]
theorem U_:FT=[("unicode/utf8.acceptRanges", Lib.acceptData), ("unicode/utf8.first", Lib.firstData)]:=by
 unfold FT;rw[acV,acW]
theorem ac7(os:Os)(args:Array Value):laidMet prog FT ((J8 os).forCall (fun _ _=>0) ⟨#[],args,[]⟩).memory:=by
 rw[U_];exact acX os args
theorem ac8{W:World}(h:laidMetH prog FT W):eo W:=by
 have h2:laidMet prog FT W:=h;rw[U_] at h2;exact acU h2 (.tail _ (.head _)) (.head _)
end
section
open Go.RowKit Go.ChangeShapes Go.Shelf Go.Deep Go.WideShapes
theorem Va:prog.underlying 4=some .bool:=by kernel_rfl
theorem Vb:prog.cellsOf 4=1:=by kernel_rfl
theorem OD:prog.underlying 36=some (.slice 33):=by kernel_rfl
theorem ac9:prog.bytesOf 33=424:=by kernel_rfl
theorem ac_{α:Type}{n:Nat}{p:Nat→α→Prop}(h:∀i,i<n→∃x,p i x):∃l:List α,l.length=n∧∀i (hi:i<l.length),p i l[i]:=by
 induction n with
 | zero=>exact⟨[],rfl,fun i hi=>absurd hi (by simp)⟩
 | succ n ih =>
  obtain⟨l,hl,hp⟩:=ih (fun i hi=>h i (by omega));obtain⟨x,hx⟩:=h n (by omega);refine⟨l++[x],by simp[hl],fun i hi=>?_⟩;by_cases hlt:i<l.length
  ·rw[Jq hlt];exact hp i hlt
  have hin:i=n:=by simp at hi;omega
  subst hin;have:(l++[x])[i]=x:=by rw[MS (by omega)];simp[hl]
  rw[this];exact hx
section
variable {H:Type} {enc:TypeId×Value→H} {W:World} {sp:Nat→Bool} {held:Bool}
theorem Vc:∃fs:Array Field,prog.underlying 33=some (.struct fs)∧fs.map (fun f=>(f.type,f.offset))=#[(3,0),(9,1),(9,2),(9,3),(4,4),(27,5),(27,10),(27,15),(27,20),(3,25)]:=⟨_,underlying33,by kernel_rfl⟩
theorem OE:prog.cellsOf 33=26:=by kernel_rfl
theorem ada(d:DataW H)(fuel:Nat)(cs:List Value)(q:List MemPlace)(h:DataW.trod enc prog W 0 sp held fuel 33 cs=some (d,q))(hw:∀k∈d.weights prog 33,k≤reachBytes) :
 ∃(r:Rq) (ck cl ch cx:Cv),cs=(cP r.bp r.aD r.index r.path r.unique ck cl ch cx r.n).toList∧In W r.key ck∧In W r.low cl∧In W r.high ch∧In W r.doc cx∧(-9223372036854775808≤r.bp∧r.bp≤9223372036854775807)∧(-9223372036854775808≤r.n∧r.n≤9223372036854775807)∧r.aD.size≤140737488355328∧r.index.size≤140737488355328∧r.path.size≤140737488355328:=by
 obtain⟨fs,hu,lI⟩:=Vc;obtain⟨xs,m,J_,hx,hlen,hxl,hall⟩:=zW hu h;injection hx with hx1 hx2;subst hx1;rw[OE] at hlen;have hfl:fs.size=10:=by have:=cT Array.size lI;simpa using this
 rw[hfl] at hxl;obtain⟨c0,c1,c2,c3,c4,c5,c6,c7,c8,c9,c10,c11,c12,c13,c14,c15,c16,c17,c18,c19,c20,c21,FU,FV,FW,FX,rfl⟩:∃c0 c1 c2 c3 c4 c5 c6 c7 c8 c9 c10 c11 c12 c13 c14 c15 c16 c17 c18 c19 c20 c21 FU FV FW FX,cs=[c0,c1,c2,c3,c4,c5,c6,c7,c8,c9,c10,c11,c12,c13,c14,c15,c16,c17,c18,c19,c20,c21,FU,FV,FW,FX]:=by
  match cs,hlen with
  | [c0,c1,c2,c3,c4,c5,c6,c7,c8,c9,c10,c11,c12,c13,c14,c15,c16,c17,c18,c19,c20,c21,FU,FV,FW,FX],_=>exact⟨c0,c1,c2,c3,c4,c5,c6,c7,c8,c9,c10,c11,c12,c13,c14,c15,c16,c17,c18,c19,c20,c21,FU,FV,FW,FX,rfl⟩
 obtain⟨x0,x1,x2,x3,x4,x5,x6,x7,x8,x9,rfl⟩:∃x0 x1 x2 x3 x4 x5 x6 x7 x8 x9,xs=[x0,x1,x2,x3,x4,x5,x6,x7,x8,x9]:=by
  match xs,hxl with
  | [x0,x1,x2,x3,x4,x5,x6,x7,x8,x9],_=>exact⟨x0,x1,x2,x3,x4,x5,x6,x7,x8,x9,rfl⟩
 have ij:∀i t o,(#[(3,0),(9,1),(9,2),(9,3),(4,4),(27,5),(27,10),(27,15),(27,20),(3,25)]:Array (TypeId×Nat))[i]?=some (t,o) →
  DataW.trod enc prog W 0 sp held m t (([c0,c1,c2,c3,c4,c5,c6,c7,c8,c9,c10,c11,c12,c13,c14,c15,c16,c17,c18,c19,c20,c21,FU,FV,FW,FX].drop o).take (prog.cellsOf t))=[x0,x1,x2,x3,x4,x5,x6,x7,x8,x9][i]?:=fun i t o hi=>by
  obtain⟨f,hf,rfl,rfl⟩:=xd lI hi;exact hall i f hf
 have Ox:fs.toList.map (·.type)=[3,9,9,9,4,27,27,27,27,3]:=by
  have:=cT (fun a=>a.toList.map Prod.fst) lI;simp only[Array.toList_map,kG] at this;exact this
 have tJ:∀(j:Nat) (t:TypeId) (dd:DataW H),[3,9,9,9,4,27,27,27,27,3][j]?=some t→([x0,x1,x2,x3,x4,x5,x6,x7,x8,x9].map (·.1))[j]?=some dd→∀k∈dd.weights prog t,k≤reachBytes:=fun j t dd hj hdd k hk=>by
  refine hw k ?_;simp only[DataW.weights,hu,Ox];exact DataW.weights_mem_each hj hdd k hk
 have i1:IntKind.i64.min=-9223372036854775808:=rfl;have i2:IntKind.i64.max=9223372036854775807:=rfl;have Av:=reachBytes_lt;simp only[Nat.reducePow] at Av;have h0:=ij 0 _ _ rfl;rw[Ow] at h0;obtain⟨n0,e0,_,r0⟩:=EY FO h0;simp at e0;subst e0;replace r0:=J9 r0;rw[i1,i2] at r0;have h1:=ij 1 _ _ rfl;rw[Aw] at h1;obtain⟨n1,e1,y1,_⟩:=zX nZ h1;simp at e1;subst e1;have r1:n1.size≤140737488355328:=by
  have:=tJ 1 _ _ rfl rfl n1.data.toList.length (by rw[show x1=_ from y1];simp[DataW.weights]);simp at this;omega
 have h2:=ij 2 _ _ rfl;rw[Aw] at h2;obtain⟨n2,e2,y2,_⟩:=zX nZ h2;simp at e2;subst e2;have r2:n2.size≤140737488355328:=by
  have:=tJ 2 _ _ rfl rfl n2.data.toList.length (by rw[show x2=_ from y2];simp[DataW.weights]);simp at this;omega
 have h3:=ij 3 _ _ rfl;rw[Aw] at h3;obtain⟨n3,e3,y3,_⟩:=zX nZ h3;simp at e3;subst e3;have r3:n3.size≤140737488355328:=by
  have:=tJ 3 _ _ rfl rfl n3.data.toList.length (by rw[show x3=_ from y3];simp[DataW.weights]);simp at this;omega
 have h4:=ij 4 _ _ rfl;rw[Vb] at h4;obtain⟨n4,e4,_⟩:=DataW.trod_bool Va h4;simp at e4;subst e4;have h5:=ij 5 _ _ rfl;rw[qu] at h5;obtain⟨n5,g5,e5,r5⟩:=FQ _ x5.1 (av _) m _ x5.2 h5 (tJ 5 _ _ rfl rfl);simp at e5;obtain⟨rfl,rfl,rfl,rfl,rfl⟩:=e5;have h6:=ij 6 _ _ rfl;rw[qu] at h6;obtain⟨n6,g6,e6,r6⟩:=FQ _ x6.1 (av _) m _ x6.2 h6 (tJ 6 _ _ rfl rfl);simp at e6;obtain⟨rfl,rfl,rfl,rfl,rfl⟩:=e6;have h7:=ij 7 _ _ rfl;rw[qu] at h7;obtain⟨n7,g7,e7,r7⟩:=FQ _ x7.1 (av _) m _ x7.2 h7 (tJ 7 _ _ rfl rfl);simp at e7;obtain⟨rfl,rfl,rfl,rfl,rfl⟩:=e7;have h8:=ij 8 _ _ rfl;rw[qu] at h8;obtain⟨n8,g8,e8,r8⟩:=FQ _ x8.1 (av _) m _ x8.2 h8 (tJ 8 _ _ rfl rfl);simp at e8;obtain⟨rfl,rfl,rfl,rfl,rfl⟩:=e8
 have h9:=ij 9 _ _ rfl;rw[Ow] at h9;obtain⟨n9,e9,_,r9⟩:=EY FO h9;simp at e9;subst e9;replace r9:=J9 r9;rw[i1,i2] at r9;exact⟨⟨n0,n1,n2,n3,n4,n5,n6,n7,n8,n9⟩,g5,g6,g7,g8,rfl,r5,r6,r7,r8,r0,r9,r1,r2,r3⟩
end
end
section
open Go.RowKit Go.ChangeShapes Go.Shelf Go.Deep Go.WideShapes
theorem Vd(f:Nat→Nat):∀(n i:Nat),i<n→f i≤((List.range n).map f).sum
 | 0,i,h=>absurd h (by omega)
 | n+1,i,h=>by
  rw[List.range_succ,lZ,Jn];simp only[eW,mZ,pc,Cf];by_cases hi:i=n
  ·subst hi;omega
  have:=Vd f n i (by omega);omega
theorem Ve(f:Nat→Nat):∀(n:Nat),(∀i,1≤f i)→n≤((List.range n).map f).sum
 | 0,_=>aS _
 | n+1,h=>by
  rw[List.range_succ,lZ,Jn];simp only[eW,mZ,pc,Cf];have:=Ve f n h;have:=h n;omega
def adb{H:Type}:DataW H:=.agg [.lit (.int .i64 0),.lit (.int .u64 0),.nil,.nil,.nil]
theorem FY{H:Type}(d:DataW H):1≤Rows.uptoBulk d:=by
 cases d with
 | lit l=>cases l<;>simp[Rows.uptoBulk]
 | nil=>simp[Rows.uptoBulk]
 | ptr d=>simp[Rows.uptoBulk]
 | slice elems spare=>simp[Rows.uptoBulk]
 | agg parts=>simp[Rows.uptoBulk]
 | iface t d=>simp[Rows.uptoBulk]
 | map entries=>simp[Rows.uptoBulk]
 | held h=>simp[Rows.uptoBulk]
theorem ade{H:Type}{α:Type}(D:α→DataW H)(l:List α):Rows.uptoBulkAll (l.map D)=(l.map fun i=>Rows.uptoBulk (D i)).sum:=by
 induction l with
 | nil=>simp[Rows.uptoBulkAll]
 | cons x r ih=>simp[Rows.uptoBulkAll,ih]
theorem Ke{α:Type}(p:α→Nat):∀(l:List α) (g:Nat→Nat),(∀i (h:i<l.length),p l[i]≤g i)→(l.map p).sum≤((List.range l.length).map g).sum
 | [],g,_=>by simp
 | x::r,g,h=>by
  have h0:=h 0 (by simp);have hr:=Ke p r (fun i=>g (i+1)) (fun i hi=>by have:=h (i+1) (by simpa using hi);simpa using this);rw[aU,List.range_succ_eq_map,eW,eW,pc,pc,kG];simp only[Ci] at h0;have:(List.range r.length).map (g ∘ Nat.succ)=(List.range r.length).map fun i=>g (i+1):=rfl
  rw[this];omega
section
variable {H:Type} {enc:TypeId×Value→H} {W:World} {sp:Nat→Bool} {held:Bool}
theorem Kf{t e:TypeId}{z:Nat}(ht:prog.underlying t=some (.slice e))(hz:prog.cellsOf e=z)(hz0:0<z){fuel:Nat}{A:Option Addr}{len cap:Nat}{x:DataW H×List MemPlace}(h:DataW.trod enc prog W 0 sp held fuel t [.slice A len cap]=some x) :
 ∃D:Nat→DataW H,1+((List.range len).map fun i=>Rows.uptoBulk (D i)).sum≤Rows.uptoBulk x.1 ∧
  ∀i,i<len→SizeOf.sizeOf (D i)<SizeOf.sizeOf x.1∧∃(bk o fuel':Nat) (q:List MemPlace) (cs:List Value),A=some ⟨bk,o,none⟩∧cs.length=z∧(∀j u,cs[j]?=some u→W.cell? ⟨bk,o+i*z+j,none⟩=some u)∧DataW.trod enc prog W 0 sp held fuel' e cs=some (D i,q):=by
 rcases open_slice ht h with ⟨hc,hx⟩ | ⟨a,len',cap',m,n,D,Pl,hc,hb,hl,hm,hmm,hx,hall⟩
 ·injection hc with hc;injection hc with q1 q2 q3;subst q2;exact⟨fun _=>x.1,by have:=FY x.1;simpa using this,fun i hi=>absurd hi (by simp)⟩
 injection hc with hc;injection hc with q1 q2 q3;subst q1 q2 q3;have U2:len≤m:=by rw[hmm];split<;>omega
 rw[hz] at hall;have C6:x.1=.slice ((List.range len).map D) ((List.range (m-len)).map fun j=>D (len+j)):=by rw[hx]
 have hcell:∀i,i<len→∃cs,cs.length=z∧(∀j u,cs[j]?=some u→W.cell? ((a.add (i*z)).add j)=some u)∧DataW.trod enc prog W 0 sp held n e cs=some (D i,Pl i):=fun i hi=>by
  obtain⟨cs,h1,h2⟩:=hall i (by omega);obtain⟨_,hlen,hcs⟩:=World.cells?_some h1;refine⟨cs,hlen,fun j u hu=>?_,h2⟩;have hj:j<z:=by rw[← hlen];exact(kE.1 hu).1
  rw[hcs j hj,hu]
 have FP:0<len→a=⟨a.block,a.off,none⟩:=fun hn=>by
  obtain⟨cs,hlen,hcs,_⟩:=hcell 0 hn;have h0:=hcs 0 (cs[0]'(by omega)) (bN (by omega));rw[FN,Nat.zero_mul,FN] at h0;exact Ou h0
 refine⟨D,?_,fun i hi=>⟨?_,?_⟩⟩
 ·rw[C6,Rows.uptoBulk,ade];omega
 ·rw[C6];have hmem:D i∈(List.range len).map D:=jx.2 ⟨i,JC.2 hi,rfl⟩;have:=uK hmem;simp only[DataW.slice.sizeOf_spec];omega
 obtain⟨cs,hlen,hcs,htr⟩:=hcell i hi;have ha:=FP (by omega);refine⟨a.block,a.off,n,Pl i,cs,by rw[← ha],hlen,fun j u hu=>?_,htr⟩;have:=hcs j u hu;rw[ha,add_lit,add_lit] at this;exact this
theorem tK{a:Addr}{u v:Value}(h:W.cell? a=some u)(k:W.cell? a=some v):u=v:=pd (h.symm.trans k)
theorem FZ(n:Nat):∀(d:DataW H),SizeOf.sizeOf d≤n→∀(fuel:Nat) (c:Cv) (v:V) (q:List MemPlace),DataW.trod enc prog W 0 sp held fuel 27 c.cells.toList=some (d,q)→In W v c →
 v.bytes.length≤16*Rows.uptoBulk d:=by
 induction n with
 | zero =>
  intro d hd;have:0<SizeOf.sizeOf d:=by cases d<;>simp;all_goals omega
  omega
 | succ n ih =>
  intro d hd fuel c v q h hv;obtain⟨fs,hu,lI⟩:=Ov;obtain⟨xs,m,J_,hx,hlen,hxl,hall⟩:=zW hu h;injection hx with hx1 hx2;subst hx1;have hfl:fs.size=5:=by have:=cT Array.size lI;simpa using this
  rw[hfl] at hxl;obtain⟨x0,x1,x2,x3,x4,rfl⟩:∃a b c d e,xs=[a,b,c,d,e]:=by
   match xs,hxl with
   | [a,b,c,d,e],_=>exact⟨a,b,c,d,e,rfl⟩
  obtain⟨k,nn,b,l,f⟩:=v;have hV:=hv;unfold In at hv;rw[IsV] at hv;obtain⟨ck,cn,aB,nB,cB,aL,nL,cL,aF,nF,cF⟩:=c;obtain⟨e1,e2,e3,e4,e5,_,_,_,_,_,_,_,_,_,_,hL,hF⟩:=hv;dsimp only at e1 e2 e3 e4 e5 hL hF;subst e1 e2 e3 e4 e5;have ij:∀i t o,(#[(3,0),(22,1),(23,2),(24,3),(25,4)]:Array (TypeId×Nat))[i]?=some (t,o) →
   DataW.trod enc prog W 0 sp held m t (([Value.int .i64 ck,.int .u64 nn,.slice aB b.length cB,.slice aL l.length cL,.slice aF f.length cF].drop o).take (prog.cellsOf t))=[x0,x1,x2,x3,x4][i]?:=fun i t o hi=>by
   obtain⟨fd,Kg,rfl,rfl⟩:=xd lI hi;exact hall i fd Kg
  have h2:=ij 2 _ _ rfl;have h3:=ij 3 _ _ rfl;have h4:=ij 4 _ _ rfl;rw[U5] at h2;rw[U6] at h3;rw[U7] at h4;obtain⟨DB,hB,_⟩:=Kf dP U0 (by omega) h2;obtain⟨DL,hLb,Kh⟩:=Kf lF qu (by omega) h3;obtain⟨DF,hFb,Ki⟩:=Kf Am U8 (by omega) h4;have eX:b.length≤((List.range b.length).map fun i=>Rows.uptoBulk (DB i)).sum:=by
   have:=Ke (fun _:UInt8=>1) b (fun i=>Rows.uptoBulk (DB i)) (fun i _=>FY _);have h1:∀r:List UInt8,(r.map fun _=>1).sum=r.length:=fun r=>by
    induction r with
    | nil=>rfl
    | cons x r ih=>simp only[eW,pc,ih,aU];omega
   rw[h1] at this;exact this
  have ac4:SizeOf.sizeOf x3.1<n+1:=by
   have:SizeOf.sizeOf x3.1<SizeOf.sizeOf (DataW.agg ([x0,x1,x2,x3,x4].map (·.1))):=by
    have:=uK (show x3.1∈[x0,x1,x2,x3,x4].map (·.1) by simp);simp only[Ct];omega
   omega
  have Oy:SizeOf.sizeOf x4.1<n+1:=by
   have:SizeOf.sizeOf x4.1<SizeOf.sizeOf (DataW.agg ([x0,x1,x2,x3,x4].map (·.1))):=by
    have:=uK (show x4.1∈[x0,x1,x2,x3,x4].map (·.1) by simp);simp only[Ct];omega
   omega
  have C8:=Ke (fun x:V=>x.bytes.length) l (fun i=>16*Rows.uptoBulk (DL i)) (fun i hi=>by
   obtain⟨s1,bk,o,fuel',q',cs',ha,hlen',hcs',htr⟩:=Kh i hi;obtain⟨vh,o2,x,ha2,h5,hin⟩:=hL i hi;rw[ha] at ha2;injection ha2 with ha2;injection ha2 with z1 z2;subst z1 z2;obtain⟨d0,d1,d2,d3,d4,rfl⟩:∃a b c d e,cs'=[a,b,c,d,e]:=by
    match cs',hlen' with
    | [a,b,c,d,e],_=>exact⟨a,b,c,d,e,rfl⟩
   obtain⟨k0,k1,k2,k3,k4⟩:=h5;obtain rfl:=tK (hcs' 0 _ rfl) k0.1;obtain rfl:=tK (hcs' 1 _ rfl) k1.1;obtain rfl:=tK (hcs' 2 _ rfl) k2.1;obtain rfl:=tK (hcs' 3 _ rfl) k3.1;obtain rfl:=tK (hcs' 4 _ rfl) k4.1;exact ih (DL i) (by omega) fuel' x l[i] q' htr hin)
  have hF1:=Ke (fun x:ByteArray×V=>(V.item x.1 x.2.bytes).length) f (fun i=>16*Rows.uptoBulk (DF i)) (fun i hi=>by
   obtain⟨s1,bk,o,fuel',q',cs',ha,hlen',hcs',htr⟩:=Ki i hi;obtain⟨vh,o2,x,ha2,ks,kz,h5,hin⟩:=hF i hi;rw[ha] at ha2;injection ha2 with ha2;injection ha2 with z1 z2;subst z1 z2;obtain⟨gs,gu,yO⟩:=U4;obtain⟨ys,m',_,hy,OA,Ay,FR⟩:=zW gu htr;injection hy with hy1 hy2;have hgl:gs.size=2:=by have:=cT Array.size yO;simpa using this
   rw[hgl] at Ay;obtain⟨y0,y1,rfl⟩:∃a b,ys=[a,b]:=by
    match ys,Ay with
    | [a,b],_=>exact⟨a,b,rfl⟩
   obtain⟨d0,d1,d2,d3,d4,d5,rfl⟩:∃a b c d e f,cs'=[a,b,c,d,e,f]:=by
    match cs',hlen' with
    | [a,b,c,d,e,f],_=>exact⟨a,b,c,d,e,f,rfl⟩
   obtain⟨f0,rH,t0,o0⟩:=xd yO (i:=0) rfl;obtain⟨f1,OB,t1,o1⟩:=xd yO (i:=1) rfl;have g0:=FR 0 f0 rH;have g1:=FR 1 f1 OB;rw[t0,o0,Aw] at g0;rw[t1,o1,qu] at g1;obtain⟨s,es,hys,_⟩:=zX nZ g0;simp at es;obtain⟨k0,k1,k2,k3,k4⟩:=h5;have hs:=tK (hcs' 0 _ rfl) ks.1;rw[es] at hs;injection hs with hs;obtain rfl:=tK (hcs' 1 _ rfl) k0.1;obtain rfl:=tK (hcs' 2 _ rfl) k1.1;obtain rfl:=tK (hcs' 3 _ rfl) k2.1;obtain rfl:=tK (hcs' 4 _ rfl) k3.1;obtain rfl:=tK (hcs' 5 _ rfl) k4.1;have hsy:SizeOf.sizeOf y1.1<SizeOf.sizeOf (DF i):=by
    rw[hy1];have:=uK (show y1.1∈[y0,y1].map (·.1) by simp);simp only[Ct];omega
   have hi2:=ih y1.1 (by omega) m' x f[i].2 y1.2 g1 hin;have hbs:Rows.uptoBulk y0.1=s.size+1:=by
    rw[hys];simp only[Rows.uptoBulk,ye];rfl
   rw[Cz,hy1];simp only[eW,mZ,Rows.uptoBulk,Rows.uptoBulkAll];rw[hbs,← hs];omega)
  have Vf:∀(g:Nat→Nat) (k:Nat),((List.range k).map fun i=>16*g i).sum=16*((List.range k).map g).sum:=fun g k=>by
   induction List.range k with
   | nil=>rfl
   | cons x r ih=>simp only[eW,pc,ih];omega
  rw[Vf (fun i=>Rows.uptoBulk (DL i))] at C8;rw[Vf (fun i=>Rows.uptoBulk (DF i))] at hF1;have p0:=FY x0.1;have p1:=FY x1.1;have OG:(V.mk ck nn b l f).bytes.length≤13+b.length+(l.map fun x=>x.bytes.length).sum+(f.map fun x=>(V.item x.1 x.2.bytes).length).sum:=by
   rw[iT,aU];have hlf:(l.map V.bytes).flatten.length=(l.map fun x=>x.bytes.length).sum:=by rw[EG,kG];rfl
   have l7:(f.map fun x:ByteArray×V=>V.item x.1 x.2.bytes).flatten.length=(f.map fun x=>(V.item x.1 x.2.bytes).length).sum:=by rw[EG,kG];rfl
   split
   ·simp only[aU,bn];omega
   split
   ·rw[jA];omega
   split
   ·rw[bD,jA];omega
   split
   ·rw[aU,hlf];omega
   split
   ·rw[aU,l7];omega
   simp only[bn];omega
  simp only[eW,mZ,Rows.uptoBulk,Rows.uptoBulkAll];omega
end
theorem adf{H:Type}{enc:TypeId×Value→H}{W:World}{sp:Nat→Bool}{held:Bool}{base:Nat}{v:Value}{d:DataW H}{p:List MemPlace}(hok:Value.okWide prog W .any base 27 v)
 (h:DataW.Trod enc prog W 0 sp held 27 v d p) (hw:∀n∈d.weights prog 27,n≤reachBytes):∃(x:V) (c:Cv),v=c.agg∧In W x c∧x.bytes.length≤16*Rows.uptoBulk d:=by
 obtain⟨fs,hu,_⟩:=Ov;obtain⟨cs,rfl,_⟩:=okWide_struct hu hok;obtain⟨fuel,hf⟩:=h;obtain⟨x,c,hc,hin⟩:=FQ _ d (av _) fuel _ _ hf hw;have hcs:cs=c.cells:=by
  apply yh;exact hc
 subst hcs;exact⟨x,c,rfl,hin,FZ _ d (av _) fuel c x _ hf hin⟩
end
section
open Go.RowKit Go.ChangeShapes Go.Shelf Go.Deep Go.WideShapes
section
variable {H:Type} {enc:TypeId×Value→H} {W:World} {sp:Nat→Bool} {held:Bool}
theorem adg{dd n:Int}{sc si Vg:ByteArray}{u:Bool}{ck cl ch cx:Cv}{k l hh dx:V}(d:DataW H)(fuel:Nat)(q:List MemPlace)(h:DataW.trod enc prog W 0 sp held fuel 33 (cP dd sc si Vg u ck cl ch cx n).toList=some (d,q))
 (r5:In W k ck) (r6:In W l cl) (r7:In W hh ch) (r8:In W dx cx):∀v∈[k,l,hh,dx],v.bytes.length≤16*Rows.uptoBulk d:=by
 obtain⟨fs,hu,lI⟩:=Vc;obtain⟨xs,m,J_,hx,hlen,hxl,hall⟩:=zW hu h;injection hx with hx1 hx2;subst hx1;have hfl:fs.size=10:=by have:=cT Array.size lI;simpa using this
 rw[hfl] at hxl;obtain⟨x0,x1,x2,x3,x4,x5,x6,x7,x8,x9,rfl⟩:∃x0 x1 x2 x3 x4 x5 x6 x7 x8 x9,xs=[x0,x1,x2,x3,x4,x5,x6,x7,x8,x9]:=by
  match xs,hxl with
  | [x0,x1,x2,x3,x4,x5,x6,x7,x8,x9],_=>exact⟨x0,x1,x2,x3,x4,x5,x6,x7,x8,x9,rfl⟩
 have ij:∀i t o,(#[(3,0),(9,1),(9,2),(9,3),(4,4),(27,5),(27,10),(27,15),(27,20),(3,25)]:Array (TypeId×Nat))[i]?=some (t,o) →
  DataW.trod enc prog W 0 sp held m t (((cP dd sc si Vg u ck cl ch cx n).toList.drop o).take (prog.cellsOf t))=[x0,x1,x2,x3,x4,x5,x6,x7,x8,x9][i]?:=fun i t o hi=>by
  obtain⟨f,hf,rfl,rfl⟩:=xd lI hi;exact hall i f hf
 have h5:=ij 5 _ _ rfl;rw[qu] at h5;have b5:=FZ _ x5.1 (av _) m ck k x5.2 h5 r5;have h6:=ij 6 _ _ rfl;rw[qu] at h6;have b6:=FZ _ x6.1 (av _) m cl l x6.2 h6 r6;have h7:=ij 7 _ _ rfl;rw[qu] at h7;have b7:=FZ _ x7.1 (av _) m ch hh x7.2 h7 r7;have h8:=ij 8 _ _ rfl;rw[qu] at h8;have b8:=FZ _ x8.1 (av _) m cx dx x8.2 h8 r8;intro v hv;have hvs:v=k∨v=l∨v=hh∨v=dx:=by simpa using hv
 simp only[Rows.uptoBulk,Rows.uptoBulkAll,eW,mZ];rcases hvs with rfl | rfl | rfl | rfl<;>omega
theorem adh{fuel:Nat}{c:Value}{x:DataW H×List MemPlace}(h:DataW.trod enc prog W 0 sp held fuel 36 [c]=some x)(hw:∀n∈x.1.weights prog 36,n≤reachBytes):∃A cap l,c=.slice A l.length cap∧vz W A l∧l.length≤140737488355328∧l.length≤Rows.uptoBulk x.1∧∀q∈l,(∀v∈[q.key,q.low,q.high,q.doc],v.bytes.length≤16*Rows.uptoBulk x.1)∧q.aD.size≤140737488355328∧q.index.size≤140737488355328:=by
 obtain⟨A,len,cap,D,rfl,hlc,hll,_,hall⟩:=open_row OD OE (by omega) ac9 (by omega) h hw;obtain⟨D2,hb,h2⟩:=Kf OD OE (by omega) h;have h1:=Ve (fun i=>Rows.uptoBulk (D2 i)) len (fun i=>FY _);have hv:∀i,i<len→∃(r:Rq),(∃(bk o:Nat) (ck cl ch cx:Cv),A=some ⟨bk,o,none⟩∧bk<W.heap.size ∧
  (∀k v,(cP r.bp r.aD r.index r.path r.unique ck cl ch cx r.n)[k]?=some v→W.cell? ⟨bk,o+i*26+k,none⟩=some v)∧In W r.key ck∧In W r.low cl∧In W r.high ch∧In W r.doc cx)∧(∀v∈[r.key,r.low,r.high,r.doc],v.bytes.length≤16*Rows.uptoBulk x.1)∧r.aD.size≤140737488355328∧r.index.size≤140737488355328:=fun i hi=>by
  obtain⟨s1,s2,bk,o,fuel',q',cs',ha,hlen',hcs',htr⟩:=hall i hi;obtain⟨s3,vh,o2,adi,q2,Vh,ha2,OA,F3,adj⟩:=h2 i hi;have hcc:Vh=cs':=by
   rw[ha] at ha2;injection ha2 with ha2;injection ha2 with ha2 C9;subst ha2 C9;refine List.ext_getElem (by rw[hlen',OA]) fun j k1 k2=>?_
   have e1:=F3 j _ (bN k1);have e2:=(hcs' j _ (bN k2)).1;exact pd (e1.symm.trans e2)
  subst hcc;obtain⟨r,ck,cl,ch,cx,rfl,g1,g2,g3,g4,-,-,z1,z2,-⟩:=ada (D i) fuel' Vh q' htr s2;have hbb:=adg (D2 i) adi q2 adj g1 g2 g3 g4;have hm:=Vd (fun i=>Rows.uptoBulk (D2 i)) len i hi;refine⟨r,⟨bk,o,ck,cl,ch,cx,ha,(hcs' 0 _ rfl).2.2,fun k v hk=>(hcs' k v (by rwa [pg])).1,g1,g2,g3,g4⟩,fun v hv=>?_,z1,z2⟩;have:=hbb v hv;omega
 obtain⟨l,hl,hp⟩:=ac_ hv;subst hl;exact⟨A,cap,l,rfl,fun i hi=>(hp i hi).1,hll,by omega,fun q hq=>by
  obtain⟨i,hi,rfl⟩:=sJ.1 hq;exact(hp i hi).2⟩
theorem adk:∃fs:Array Field,prog.underlying 64=some (.struct fs)∧fs.map (fun f=>(f.type,f.offset))=#[(9,0),(9,1),(4,2)]:=⟨_,underlying64,by kernel_rfl⟩
theorem adl:prog.cellsOf 64=3:=by kernel_rfl
theorem adm{base:Nat}{v:Value}{d:DataW H}{p:List MemPlace}(hok:Value.okWide prog W .any base 64 v)(h:DataW.Trod enc prog W 0 sp held 64 v d p):∃x:Ix,v=.agg x.cells∧x.path.size≤Rows.uptoBulk d:=by
 obtain⟨fs,hu,lI⟩:=adk;obtain⟨cs,rfl,_⟩:=okWide_struct hu hok;obtain⟨fuel,hf⟩:=h;obtain⟨xs,m,J_,hx,hlen,hxl,hall⟩:=zW hu hf;injection hx with hx1 hx2;subst hx1;rw[adl] at hlen;have hfl:fs.size=3:=by have:=cT Array.size lI;simpa using this
 rw[hfl] at hxl;obtain⟨cl,hcl⟩:∃cl,cs.toList=cl:=⟨_,rfl⟩;rw[show Value.cells (.agg cs)=cs from rfl,hcl] at hlen hall;obtain⟨c0,c1,c2,rfl⟩:∃c0 c1 c2,cl=[c0,c1,c2]:=by
  match cl,hlen with
  | [c0,c1,c2],_=>exact⟨c0,c1,c2,rfl⟩
 obtain⟨x0,x1,x2,rfl⟩:∃x0 x1 x2,xs=[x0,x1,x2]:=by
  match xs,hxl with
  | [x0,x1,x2],_=>exact⟨x0,x1,x2,rfl⟩
 have ij:∀i t o,(#[(9,0),(9,1),(4,2)]:Array (TypeId×Nat))[i]?=some (t,o)→DataW.trod enc prog W 0 sp held m t (([c0,c1,c2].drop o).take (prog.cellsOf t))=[x0,x1,x2][i]?:=fun i t o hi=>by
  obtain⟨f,hf,rfl,rfl⟩:=xd lI hi;exact hall i f hf
 have h0:=ij 0 _ _ rfl;rw[Aw] at h0;obtain⟨n0,e0,-,-⟩:=zX nZ h0;simp at e0;subst e0;have h1:=ij 1 _ _ rfl;rw[Aw] at h1;obtain⟨n1,e1,y1,-⟩:=zX nZ h1;simp at e1;subst e1;have h2:=ij 2 _ _ rfl;rw[Vb] at h2;obtain⟨n2,e2,-⟩:=DataW.trod_bool Va h2;simp at e2;subst e2;refine⟨⟨n0,n1,n2⟩,?_,?_⟩
 ·have:cs=#[.string n0,.string n1,.bool n2]:=yh hcl;rw[this]
 have e:=cT Prod.fst (show x1=_ from y1);dsimp only at e;have hb:Rows.uptoBulk x1.1=n1.size+1:=by rw[e];simp[Rows.uptoBulk]
 simp only[Rows.uptoBulk,Rows.uptoBulkAll,eW,mZ,hb];omega
end
end
end Go.Proofs.YtndjopkdbdcmdaaGreatDoor
