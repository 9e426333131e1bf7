/- Part 3 of the proof of pgets_card. -/
import Derived.Test.YtndjopkdbdcmdaaGreatDoorPge1
import Derived.Lib.ValidLaws
import Derived.Lib.TrimUEq
import Derived.Shelf.Strings.FuncGrows
import Derived.Maps.OwnSet
import Derived.LoopN
set_option linter.unusedVariables false
set_option linter.unusedSimpArgs false
set_option maxRecDepth 100000
set_option maxHeartbeats 12800000
open Go.Proofs.Tryz
open Go.RowKit
namespace Go.Proofs.YtndjopkdbdcmdaaGreatDoor
variable {C C':Addr→Value→Prop}{bk hi lo:Nat}{s:ByteArray}{u:Value}{w w':World}
section
open Go.Lib
theorem aka(l:List UInt8)(hne:l≠[])(h:(l.getD 0 0).toNat<128):validD l=validD (l.drop 1):=by
 match l,hne with
 | b::t,_=>exact validD_cons b t (by simpa using h)
theorem akb(l:List UInt8)(hne:l≠[])(h:128≤(l.getD 0 0).toNat)(h':(l.getD 0 0).toNat<192∨248≤(l.getD 0 0).toNat):validD l=false:=by
 have hl:0<l.length:=eD.2 hne;have h0:=(l.getD 0 0).toNat_lt;rw[validD_step l hne,decodeL_N,aD];unfold decodeN;rw[ak (by omega),ak (by omega),ak (by omega),ak (by omega)];exact⟨rfl,rfl⟩
theorem akc(n b0 b1 b2 b3:Nat)(T5:0<n)(h0:192≤b0∧b0<224)(h1:b1<256)(_h2:b2<256)(_h3:b3<256) :
 (decodeN n b0 b1 b2 b3=(65533,1)∧¬ (2≤n∧128≤b1∧b1<192∧128+128≤(b0-192)*64+b1))∨(∃r,decodeN n b0 b1 b2 b3=(r,2)∧(2≤n∧128≤b1∧b1<192∧128+128≤(b0-192)*64+b1)):=by
 unfold decodeN;rw[ak (by omega)];by_cases c:b0 / 32=6∧(1<n∧b1 / 64=2)
 ·rw[aD c];by_cases d:b0 % 32*64+b1 % 64≥128
  ·rw[aD d];exact .inr ⟨_,rfl,by omega⟩
  rw[ak d];exact .inl ⟨rfl,by omega⟩
 rw[ak c,ak (by omega),ak (by omega)];exact .inl ⟨rfl,by omega⟩
theorem akd(l:List UInt8)(hne:l≠[])(h1:192≤(l.getD 0 0).toNat)(h2:(l.getD 0 0).toNat<224) :
 validD l=if 2≤l.length∧128≤(l.getD 1 0).toNat∧(l.getD 1 0).toNat<192∧128+128≤((l.getD 0 0).toNat-192)*64+(l.getD 1 0).toNat then validD (l.drop 2) else false:=by
 have hl:0<l.length:=eD.2 hne;rw[validD_step l hne,decodeL_N];rcases akc l.length _ _ _ _ hl ⟨h1,h2⟩ (l.getD 1 0).toNat_lt (l.getD 2 0).toNat_lt (l.getD 3 0).toNat_lt with ⟨e,hc⟩ | ⟨r,e,hc⟩
 ·rw[e,aD ⟨rfl,rfl⟩,ak hc]
 rw[e,ak (by simp),aD hc]
theorem ake(n b0 b1 b2 b3:Nat)(T5:0<n)(h0:224≤b0∧b0<240)(h1:b1<256)(_h2:b2<256)(_h3:b3<256) :
 (decodeN n b0 b1 b2 b3=(65533,1)∧¬ (3≤n∧(128≤b1∧b1<192)∧(128≤b2∧b2<192)∧2048+8320≤((b0-224)*64+b1)*64+b2∧¬ (55296+8320≤((b0-224)*64+b1)*64+b2∧((b0-224)*64+b1)*64+b2≤57343+8320)))∨(∃r,decodeN n b0 b1 b2 b3=(r,3)∧(3≤n∧(128≤b1∧b1<192)∧(128≤b2∧b2<192)∧2048+8320≤((b0-224)*64+b1)*64+b2∧¬ (55296+8320≤((b0-224)*64+b1)*64+b2∧((b0-224)*64+b1)*64+b2≤57343+8320))):=by
 unfold decodeN;rw[ak (by omega)];rw[ak (by omega)];by_cases c:b0 / 16=14∧(1<n∧b1 / 64=2)∧(2<n∧b2 / 64=2)
 ·rw[aD c];by_cases d:b0 % 16*4096+b1 % 64*64+b2 % 64≥2048∧(b0 % 16*4096+b1 % 64*64+b2 % 64<55296∨(57344≤b0 % 16*4096+b1 % 64*64+b2 % 64∧b0 % 16*4096+b1 % 64*64+b2 % 64≤1114111))
  ·rw[aD d];exact .inr ⟨_,rfl,by omega⟩
  rw[ak d];exact .inl ⟨rfl,by omega⟩
 rw[ak c,ak (by omega)];exact .inl ⟨rfl,by omega⟩
theorem akf(l:List UInt8)(hne:l≠[])(h1:224≤(l.getD 0 0).toNat)(h2:(l.getD 0 0).toNat<240) :
 validD l=if 3≤l.length∧(128≤(l.getD 1 0).toNat∧(l.getD 1 0).toNat<192)∧(128≤(l.getD 2 0).toNat∧(l.getD 2 0).toNat<192)∧2048+8320≤(((l.getD 0 0).toNat-224)*64+(l.getD 1 0).toNat)*64+(l.getD 2 0).toNat∧¬ (55296+8320≤(((l.getD 0 0).toNat-224)*64+(l.getD 1 0).toNat)*64+(l.getD 2 0).toNat∧(((l.getD 0 0).toNat-224)*64+(l.getD 1 0).toNat)*64+(l.getD 2 0).toNat≤57343+8320) then validD (l.drop 3) else false:=by
 have hl:0<l.length:=eD.2 hne;rw[validD_step l hne,decodeL_N];rcases ake l.length _ _ _ _ hl ⟨h1,h2⟩ (l.getD 1 0).toNat_lt (l.getD 2 0).toNat_lt (l.getD 3 0).toNat_lt with ⟨e,hc⟩ | ⟨r,e,hc⟩
 ·rw[e,aD ⟨rfl,rfl⟩,ak hc]
 rw[e,ak (by simp),aD hc]
theorem akg(n b0 b1 b2 b3:Nat)(T5:0<n)(h0:240≤b0∧b0<248)(h1:b1<256)(_h2:b2<256)(_h3:b3<256) :
 (decodeN n b0 b1 b2 b3=(65533,1)∧¬ (4≤n∧(128≤b1∧b1<192)∧(128≤b2∧b2<192)∧(128≤b3∧b3<192)∧65536+532608≤(((b0-240)*64+b1)*64+b2)*64+b3∧(((b0-240)*64+b1)*64+b2)*64+b3≤1114111+532608))∨(∃r,decodeN n b0 b1 b2 b3=(r,4)∧(4≤n∧(128≤b1∧b1<192)∧(128≤b2∧b2<192)∧(128≤b3∧b3<192)∧65536+532608≤(((b0-240)*64+b1)*64+b2)*64+b3∧(((b0-240)*64+b1)*64+b2)*64+b3≤1114111+532608)):=by
 unfold decodeN;rw[ak (by omega)];rw[ak (by omega),ak (by omega)];by_cases c:b0 / 8=30∧(1<n∧b1 / 64=2)∧(2<n∧b2 / 64=2)∧(3<n∧b3 / 64=2)
 ·rw[aD c];by_cases d:b0 % 8*262144+b1 % 64*4096+b2 % 64*64+b3 % 64≥65536∧(b0 % 8*262144+b1 % 64*4096+b2 % 64*64+b3 % 64<55296∨(57344≤b0 % 8*262144+b1 % 64*4096+b2 % 64*64+b3 % 64∧b0 % 8*262144+b1 % 64*4096+b2 % 64*64+b3 % 64≤1114111))
  ·rw[aD d];exact .inr ⟨_,rfl,by omega⟩
  rw[ak d];exact .inl ⟨rfl,by omega⟩
 rw[ak c];exact .inl ⟨rfl,by omega⟩
theorem akh(l:List UInt8)(hne:l≠[])(h1:240≤(l.getD 0 0).toNat)(h2:(l.getD 0 0).toNat<248) :
 validD l=if 4≤l.length∧(128≤(l.getD 1 0).toNat∧(l.getD 1 0).toNat<192)∧(128≤(l.getD 2 0).toNat∧(l.getD 2 0).toNat<192)∧(128≤(l.getD 3 0).toNat∧(l.getD 3 0).toNat<192)∧65536+532608≤((((l.getD 0 0).toNat-240)*64+(l.getD 1 0).toNat)*64+(l.getD 2 0).toNat)*64+(l.getD 3 0).toNat∧((((l.getD 0 0).toNat-240)*64+(l.getD 1 0).toNat)*64+(l.getD 2 0).toNat)*64+(l.getD 3 0).toNat≤1114111+532608 then validD (l.drop 4) else false:=by
 have hl:0<l.length:=eD.2 hne;rw[validD_step l hne,decodeL_N];rcases akg l.length _ _ _ _ hl ⟨h1,h2⟩ (l.getD 1 0).toNat_lt (l.getD 2 0).toNat_lt (l.getD 3 0).toNat_lt with ⟨e,hc⟩ | ⟨r,e,hc⟩
 ·rw[e,aD ⟨rfl,rfl⟩,ak hc]
 rw[e,ak (by simp),aD hc]
end
section
open Go.Lib
def np(c:UInt8):Bool:=decide (32≤c.toNat∧c.toNat≠46)
def uv(x:Nat):Bool:=decide (x<32∨x=46)
theorem aki(n b0 b1 b2 b3:Nat)(T5:0<n)(_h0:b0<256)(h1:b1<256)(h2:b2<256)(h3:b3<256) :
 (b0<128∧decodeN n b0 b1 b2 b3=(b0,1))∨decodeN n b0 b1 b2 b3=(65533,1) ∨
 (∃r,decodeN n b0 b1 b2 b3=(r,2)∧128≤r∧2≤n∧128≤b0∧128≤b1) ∨
 (∃r,decodeN n b0 b1 b2 b3=(r,3)∧128≤r∧3≤n∧128≤b0∧128≤b1∧128≤b2) ∨
 (∃r,decodeN n b0 b1 b2 b3=(r,4)∧128≤r∧4≤n∧128≤b0∧128≤b1∧128≤b2∧128≤b3):=by
 unfold decodeN;split
 ·rename_i h;exact .inl ⟨h,rfl⟩
 split
 ·split
  ·rename_i h _ hr;exact .inr (.inr (.inl ⟨_,rfl,by omega⟩))
  exact .inr (.inl rfl)
 split
 ·split
  ·rename_i h _ hr;exact .inr (.inr (.inr (.inl ⟨_,rfl,by omega⟩)))
  exact .inr (.inl rfl)
 split
 ·split
  ·rename_i h _ hr;exact .inr (.inr (.inr (.inr ⟨_,rfl,by omega⟩)))
  exact .inr (.inl rfl)
 exact .inr (.inl rfl)
theorem akj(c:UInt8)(h:128≤c.toNat):np c=true:=cj (by omega)
theorem akk(l:List UInt8)(k:Nat)(hk:k≤l.length)(h:∀i,i<k→128≤(l.getD i 0).toNat):(l.take k).all np=true:=by
 rw[nY];intro x hx;obtain⟨i,hi,rfl⟩:=ux.1 hx;have hik:i<k:=by rw[dU] at hi;omega
 have:=h i hik;rw[gy,bH (by omega)] at this;rw[J5];exact akj _ this
theorem akl(s:ByteArray):∀(f pos:Nat),validD (s.data.toList.drop pos)=true→s.size≤pos+f →
 decide (0≤idxFuncFrom uv true s f pos)=!((s.data.toList.drop pos).all np):=by
 intro f
 induction f with
 | zero =>
  intro pos _ hp;have:s.data.toList.drop pos=[]:=NR (by have:s.data.toList.length=s.size:=rfl;omega);rw[this];rfl
 | succ f ih =>
  intro pos hv hp;by_cases hlt:pos<s.size
  ·have hsz:s.data.toList.length=s.size:=rfl;obtain⟨l,hl⟩:∃l,s.data.toList.drop pos=l:=⟨_,rfl⟩;have hll:l.length=s.size-pos:=by rw[← hl,iw,hsz]
   have hne:l≠[]:=fun h=>by rw[h] at hll;simp at hll;omega
   have hd:Utf8.decode s pos=decodeL l:=by rw[← hl,decodeL_drop]
   have hdrop:∀k,s.data.toList.drop (pos+k)=l.drop k:=fun k=>by rw[← hl,J6]
   have akm:∀k,l.all np=((l.take k).all np&&(l.drop k).all np):=fun k=>by rw[← FH,sO]
   have hstep:=validD_step l hne;rw[hl] at hv;rw[hv] at hstep;unfold idxFuncFrom;rw[aD hlt,hd,hl];rw[decodeL_N] at hstep ⊢;have big:∀(r k:Nat),0<k→decodeN l.length (l.getD 0 0).toNat (l.getD 1 0).toNat (l.getD 2 0).toNat (l.getD 3 0).toNat=(r,k)→128≤r→k≤l.length→(∀i,i<k→128≤(l.getD i 0).toNat)→(k=1→False) →
    decide (0≤if uv (r,k).1=true then (pos:Int) else idxFuncFrom uv true s f (pos+(r,k).2))=!(l.all np):=by
    intro r k tJ he hr hk hb hk1;rw[he,ak (fun h=>hk1 h.2)] at hstep;rw[ak (by simp[uv];omega),akm k,akk l k hk hb,pc,← hdrop];exact ih (pos+k) (by rw[hdrop];exact hstep.symm) (by omega)
   rcases aki l.length _ _ _ _ (by omega) (l.getD 0 0).toNat_lt (l.getD 1 0).toNat_lt (l.getD 2 0).toNat_lt (l.getD 3 0).toNat_lt with ⟨h0,e⟩ | e | ⟨r,e,hr,hn,h⟩ | ⟨r,e,hr,hn,h⟩ | ⟨r,e,hr,hn,h⟩
   ·rw[e,ak (fun h=>by have h1:(l.getD 0 0).toNat=65533:=h.1;omega)] at hstep;rw[e]
    match l,hne with
    | c::t,_ =>
     simp only[List.getD_cons_zero] at h0 ⊢;by_cases hc:c.toNat<32∨c.toNat=46
     ·rw[aD (by simp[uv];omega)];have:np c=false:=cm (by omega);rw[List.all_cons,this];simp
     rw[ak (by simp[uv];omega)];have:np c=true:=cj (by omega);rw[List.all_cons,this,pc];have hd1:=hdrop 1;have:=ih (pos+1) (by rw[hd1];exact hstep.symm) (by omega);rw[hd1] at this;exact this
   ·rw[e] at hstep;simp at hstep
   ·rw[e];exact big r 2 (by omega) e hr hn (fun i hi=>by match i,hi with | 0,_=>exact h.1 | 1,_=>exact h.2) (by omega)
   ·rw[e];exact big r 3 (by omega) e hr hn (fun i hi=>by match i,hi with | 0,_=>exact h.1 | 1,_=>exact h.2.1 | 2,_=>exact h.2.2) (by omega)
   rw[e];exact big r 4 (by omega) e hr hn (fun i hi=>by match i,hi with | 0,_=>exact h.1 | 1,_=>exact h.2.1 | 2,_=>exact h.2.2.1 | 3,_=>exact h.2.2.2) (by omega)
  rw[idxFuncFrom_end _ _ _ _ _ hlt];have:s.data.toList.drop pos=[]:=NR (by have:s.data.toList.length=s.size:=rfl;omega);rw[this];rfl
theorem akn(s:ByteArray)(hv:validD s.data.toList=true):(!decide (0≤idxFunc uv true s))=s.data.toList.all np:=by
 have:=akl s s.size 0 hv (by omega);rw[List.drop_zero] at this;rw[idxFunc,this,Bool.not_not]
end
section
open Go.RowKit Go.Maps
def sJ(s:ByteArray):Lit:=.string s.data.toList
def NS(l:List ByteArray):DataW Unit:=setOf (.agg []) (l.map sJ)
theorem ako:NS []=.map []:=rfl
theorem T6(l:List ByteArray)(s:ByteArray):NS (l++[s])=(NS l).put (sJ s) (.agg []):=by
 unfold NS;rw[l7,List.map_singleton,setOf_snoc]
theorem Nh(l:List ByteArray):∀x∈l.map sJ,WideAt.IsKeyLit x:=fun x hx=>by
 obtain⟨s,_,rfl⟩:=mI.1 hx;trivial
theorem akp{a b:ByteArray}(h:sJ a=sJ b):a=b:=by
 injection h with h;exact Dg (yY h)
theorem abh(l:List ByteArray)(s:ByteArray):Maps.has (NS l) (sJ s)=true↔s∈l:=by
 unfold NS;rw[has_setOf _ _ _ (Nh l),List.any_map,List.any_eq_true];constructor
 ·rintro⟨x,hx,h⟩;by_cases e:sJ x=sJ s
  ·rw[← akp e];exact hx
  rw[Function.comp,sameKey_ne e] at h;exact absurd h Dh
 intro h;exact⟨s,h,show (sJ s).sameKey (sJ s)=true from WideAt.sameKey_self (a:=sJ s) (Nh [s] (sJ s) (by simp))⟩
theorem akq(l:List ByteArray)(s:ByteArray)(h:s∈l):Maps.size (NS (l++[s]))=Maps.size (NS l):=by
 rw[T6,size_put (D:=NS l) (tidy_setOf _ _ (Nh l)),aD ((abh l s).2 h)]
theorem akr(l:List ByteArray)(s:ByteArray)(h:¬ s∈l):Maps.size (NS (l++[s]))=Maps.size (NS l)+1:=by
 rw[T6,size_put (D:=NS l) (tidy_setOf _ _ (Nh l)),ak (fun e=>h ((abh l s).1 e))]
theorem aks(l:List ByteArray):∀j,j≤l.length→Maps.size (NS (l.take j))≤j∧(Maps.size (NS (l.take j))=j↔(l.take j).Nodup):=by
 intro j
 induction j with
 | zero=>intro _;exact⟨Nat.le_of_eq rfl,by simp[ako];rfl⟩
 | succ j ih =>
  intro h;obtain⟨h1,h2⟩:=ih (by omega);rw[py l j (by omega)];by_cases hm:l[j]∈l.take j
  ·rw[akq _ _ hm];refine⟨by omega,⟨fun e=>by omega,fun hn=>?_⟩⟩;rw[NT] at hn;exact absurd rfl (hn.2.2 _ hm _ (by simp))
  rw[akr _ _ hm];refine⟨by omega,⟨fun e=>?_,fun hn=>?_⟩⟩
  ·rw[NT];refine⟨h2.1 (by omega),by simp,fun a ha b hb=>?_⟩;rw[rz] at hb;subst hb;intro e;subst e;exact hm ha
  rw[NT] at hn;have:=h2.2 hn.1;omega
theorem akt(l:List ByteArray):(((Maps.size (NS l):Nat):Int)==(l.length:Int))=decide l.Nodup:=by
 have:=(aks l l.length (au _)).2;rw[fT] at this;apply FA.2;rw[iy,FI,← this];omega
end
section
open Go.RowKit
def CF(w:World)(p:Addr)(u:Value):Prop:=w.cell? p=some u∧w.frozen? p=false
theorem CF.block{p:Addr}(h:CF w p u)(e:w'.heap[p.block]?=w.heap[p.block]?):CF w' p u:=
 ⟨(uy e).trans h.1,(World.frozen?_of_block e).trans h.2⟩
def lG(C:Addr→Value→Prop):V→Cv→(Nat→Prop)→Prop
 | .mk k n b l f,c,S=>c.k=k∧c.n=(n:Int)∧c.nB=b.length∧c.nL=l.length∧c.nF=f.length ∧
  -9223372036854775808≤k∧k≤9223372036854775807∧n<18446744073709551616 ∧
  b.length≤c.cB∧b.length≤140737488355328∧l.length≤c.cL∧l.length≤140737488355328∧f.length≤c.cF∧f.length≤140737488355328 ∧
  Reads (fun p u=>C p u∧S p.block) 1 c.aB b.length (b_ b) ∧
  (∃T:Nat→Nat→Prop,(∀i (h:i<l.length),∃bk o x,c.aL=some ⟨bk,o,none⟩∧S bk∧¬ T i bk∧(∀q,T i q→S q)∧kV C bk (o+i*5) x∧lG C l[i] x (T i)) ∧
   (∀i j,i<j→j<l.length→∀q,T i q→¬ T j q)) ∧
  (∃T:Nat→Nat→Prop,(∀i (h:i<f.length),∃bk o x,c.aF=some ⟨bk,o,none⟩∧S bk∧¬ T i bk∧(∀q,T i q→S q)∧C ⟨bk,o+i*6,none⟩ (.string f[i].1)∧f[i].1.size≤140737488355328∧kV C bk (o+i*6+1) x∧lG C f[i].2 x (T i)) ∧
   (∀i j,i<j→j<f.length→∀q,T i q→¬ T j q))
termination_by v=>SizeOf.sizeOf v
decreasing_by
 ·exact V.sV (aS _)
 exact V.sW (aS _)
theorem kV.mono'{o:Nat}{c:Cv}(h:∀p u,C p u→p.block=bk→C' p u)(hc:kV C bk o c):kV C' bk o c:=
 ⟨h _ _ hc.1 rfl,h _ _ hc.2.1 rfl,h _ _ hc.2.2.1 rfl,h _ _ hc.2.2.2.1 rfl,h _ _ hc.2.2.2.2 rfl⟩
theorem lG.mono(v:V):∀(c:Cv) (S S':Nat→Prop),(∀p u,C p u→S p.block→C' p u)→(∀q,S q→S' q)→lG C v c S→lG C' v c S':=by
 induction v using V.ind with
 | h k n b l f hl hf =>
  intro c S S' hC hS hv;rw[lG] at hv ⊢;obtain⟨e1,e2,e3,e4,e5,h1,h2,h3,h4,h5,h6,h7,h8,h9,hb,⟨T,hL,Ni⟩,⟨U,hF,Nj⟩⟩:=hv;refine⟨e1,e2,e3,e4,e5,h1,h2,h3,h4,h5,h6,h7,h8,h9,hb.mono (fun p u h=>⟨hC p u h.1 h.2,hS _ h.2⟩),⟨T,fun i hi=>?_,Ni⟩,⟨U,fun i hi=>?_,Nj⟩⟩
  ·obtain⟨bk,o,x,e,s,nt,ts,k0,kv⟩:=hL i hi;exact⟨bk,o,x,e,hS _ s,nt,fun q hq=>hS _ (ts q hq),k0.mono' (fun p u h e=>hC p u h (e ▸ s)),hl _ (aS hi) _ _ _ (fun p u h hq=>hC p u h (ts _ hq)) (fun q h=>h) kv⟩
  obtain⟨bk,o,x,e,s,nt,ts,ks,kz,k0,kv⟩:=hF i hi;exact⟨bk,o,x,e,hS _ s,nt,fun q hq=>hS _ (ts q hq),hC _ _ ks s,kz,k0.mono' (fun p u h e=>hC p u h (e ▸ s)),hf _ (aS hi) _ _ _ (fun p u h hq=>hC p u h (ts _ hq)) (fun q h=>h) kv⟩
theorem lG.isV(v:V):∀(c:Cv) (S:Nat→Prop),lG C v c S→IsV (fun p u=>C p u∧S p.block) v c:=by
 induction v using V.ind with
 | h k n b l f hl hf =>
  intro c S hv;rw[lG] at hv;rw[IsV];obtain⟨e1,e2,e3,e4,e5,h1,h2,h3,h4,h5,h6,h7,h8,h9,hb,⟨T,hL,Ni⟩,⟨U,hF,Nj⟩⟩:=hv;refine⟨e1,e2,e3,e4,e5,h1,h2,h3,h4,h5,h6,h7,h8,h9,hb,fun i hi=>?_,fun i hi=>?_⟩
  ·obtain⟨bk,o,x,e,s,nt,ts,k0,kv⟩:=hL i hi;exact⟨bk,o,x,e,k0.mono' (fun p u h e=>⟨h,e ▸ s⟩),dX (fun p u h=>⟨h.1,ts _ h.2⟩) _ _ (hl _ (aS hi) _ _ kv)⟩
  obtain⟨bk,o,x,e,s,nt,ts,ks,kz,k0,kv⟩:=hF i hi;exact⟨bk,o,x,e,⟨ks,s⟩,kz,k0.mono' (fun p u h e=>⟨h,e ▸ s⟩),dX (fun p u h=>⟨h.1,ts _ h.2⟩) _ _ (hf _ (aS hi) _ _ kv)⟩
def pE(w:World)(lo hi:Nat)(v:V)(c:Cv):Prop:=hi≤w.heap.size∧lG (CF w) v c (fun q=>lo≤q∧q<hi)
theorem pE.BM{v:V}{c:Cv}(h:pE w lo hi v c):IsV (bQ w lo hi) v c:=
 dX (fun _ _ h=>⟨h.1.1,h.2.1,h.2.2⟩) _ _ (h.2.isV v c _)
theorem pE.blocks{v:V}{c:Cv}(h:pE w lo hi v c)(hz:w.heap.size≤w'.heap.size)(hb:∀k,lo≤k→k<hi→w'.heap[k]?=w.heap[k]?):pE w' lo hi v c:=
 ⟨aV h.1 hz,lG.mono v c _ _ (fun _ _ q s=>q.block (hb _ s.1 s.2)) (fun _ q=>q) h.2⟩
theorem pE.grow{v:V}{c:Cv}(h:pE w lo hi v c)(hg:Grow w w'):pE w' lo hi v c:=
 h.blocks hg.size (fun k _ hk=>hg.below.block k (bG hk h.1))
end
section
open V
theorem adJ(h:name s=true):s.size≤32:=by
 simp only[name,ig,iy] at h;exact h.1.1.2
def V.fit:V→Prop
 | mk _ n _ l f=>n<18446744073709551616∧(∀x∈l,fit x)∧(∀x∈f,fit x.2)
termination_by v=>SizeOf.sizeOf v
decreasing_by
 ·exact sV ‹_›
 exact sW ‹_›
theorem IsV.fit(v:V):∀c,IsV C v c→v.fit:=by
 induction v using V.ind with
 | h k n b l f hl hf =>
  intro c hv;rw[IsV] at hv;rw[V.fit];obtain⟨e1,e2,e3,e4,e5,h1,h2,h3,h4,h5,h6,h7,h8,h9,hb,hL,hF⟩:=hv;refine⟨h3,fun x hx=>?_,fun x hx=>?_⟩
  ·obtain⟨i,hi,rfl⟩:=ux.1 hx;obtain⟨bk,o,y,e,k0,kv⟩:=hL i hi;exact hl _ hx _ kv
  obtain⟨i,hi,rfl⟩:=ux.1 hx;obtain⟨bk,o,y,e,ks,kz,k0,kv⟩:=hF i hi;exact hf _ hx _ kv
theorem aku(n:Nat)(h:n<256):(UInt8.ofNat n).toNat=n:=by rw[Dc];omega
theorem Le{v:V}:v.good=0↔v.formed=true∧v.most≤64∧v.depth≤16∧v.bytes.length≤4096:=by
 unfold V.good
 cases hf:v.formed
 ·simp
 simp only[Bool.true_eq_false,jc,true_and];by_cases h1:64<v.most
 ·rw[aD h1];constructor
  ·intro h;omega
  intro h;omega
 rw[ak h1];by_cases h2:16<v.depth
 ·rw[aD h2];constructor
  ·intro h;omega
  intro h;omega
 rw[ak h2];by_cases h3:4096<v.bytes.length
 ·rw[aD h3];constructor
  ·intro h;omega
  intro h;omega
 rw[ak h3];constructor
 ·intro _;omega
 intro _;rfl
end
section
open V
theorem abj{α:Type}(g:α→List UInt8)(f:α→Nat)(l:List α)(h:∀x∈l,f x≤(g x).length):(l.map f).sum≤((l.map g).flatten).length:=by
 induction l with
 | nil=>simp
 | cons x xs ih =>
  have h1:=h x (by simp);have h2:=ih fun y hy=>h y (by simp[hy])
  simp only[fN,qm,l8,bp];omega
theorem count_le(v:V):v.formed=true→v.count≤v.bytes.length:=by
 induction v using V.ind with
 | h k n b l f hl hf =>
  intro fV;rcases VF fV with h | ⟨n',hn',h⟩ | ⟨n',h⟩ | ⟨n',h⟩ | ⟨b',hb',h⟩ | ⟨b',h⟩ | ⟨l',hl',h⟩ | ⟨f',hf',hnd,h⟩<;>cases h
  ·rw[count_mk,xQ];simp
  ·rw[count_mk,xQ];simp
  ·rw[count_mk,xQ];simp
  ·rw[count_mk,xQ];simp
  ·rw[count_mk,xQ];simp
  ·rw[count_mk,xQ];simp
  ·have h1:=abj V.bytes V.count l fun x hx=>hl x hx (hl' x hx)
   rw[count_mk,VA];simp only[nW,Di,aU];omega
  have h1:=abj (fun x:ByteArray×V=>item x.1 x.2.bytes) (fun x=>x.2.count) f fun x hx=>by
   have:=hf x hx (hf' x hx).2;rw[VC];omega
  rw[count_mk,VB];simp only[nW,Di,aU];omega
end
theorem getD_drop(b:List UInt8)(i k:Nat):(b.drop i).getD k 0=b.getD (i+k) 0:=by
 simp[gy,y9]
theorem bh.Nk{o:Nat}{b:List UInt8}(h:bh w (some ⟨bk,o,none⟩) b)(j:Nat)(hj:j<b.length):w.cell? ⟨bk,o+j,none⟩=some (.int .u8 ((b.getD j 0).toNat:Int)):=by
 obtain⟨pD,o',e,_,hc⟩:=h.at_ j hj;injection e with e;injection e with e1 e2;subst e1 e2;rw[hc,gy,bH hj];rfl
theorem T7(b:List UInt8)(A:Option Addr)(cap:Nat)(w:World)(hb:bh w A b)(hl:b.length≤140737488355328) :
 Calls prog 151 #[.slice A b.length cap] w fun e w'=>e=.returned (.bool (Lib.validD b))∧w=w':=by
 have HB:=aa hb;clear hb;obtain⟨iJ,eG⟩:∃A,A=Lib.validD b:=⟨_,rfl⟩;rw[← eG];have HA:=aa eG;clear eG;go_enter func151,ntmps151;go_wp2_with fail;go_loopg [3] (b.length+1) (fun gk i wr=>w=wr∧∃j:Nat,j≤b.length∧b.length<gk+j∧i=.int .i64 j∧iJ=Lib.validD (b.drop j));exact⟨rfl,0,by omega,by omega,rfl,by simpa using HA.o⟩;obtain⟨rfl,j,hj,hg,rfl,hv⟩:=hrel;by_cases hlt:j<b.length
 ·obtain⟨bk,o,rfl,hbk,akv⟩:=HB.o.at_ j hlt;clear akv;have hne:b.drop j≠[]:=fun h=>by have:=dJ List.length h;rw[iw,bT] at this;omega
  have ga:=aka (b.drop j) hne;have gb:=akb (b.drop j) hne;have g2:=akd (b.drop j) hne;have g3:=akf (b.drop j) hne;have g4:=akh (b.drop j) hne;simp only[getD_drop,fX,iw,J6] at ga gb g2 g3 g4;rw[← hv] at ga gb g2 g3 g4;have c0:=HB.o.Nk j hlt;have c1:=HB.o.Nk (j+1);have c2:=HB.o.Nk (j+2);have c3:=HB.o.Nk (j+3);have l0:=(b.getD j 0).toNat_lt;have l1:=(b.getD (j+1) 0).toNat_lt;have l2:=(b.getD (j+2) 0).toNat_lt;have l3:=(b.getD (j+3) 0).toNat_lt;obtain⟨x0,hx0⟩:∃x,x=(b.getD j 0).toNat:=⟨_,rfl⟩;obtain⟨x1,hx1⟩:∃x,x=(b.getD (j+1) 0).toNat:=⟨_,rfl⟩;obtain⟨x2,hx2⟩:∃x,x=(b.getD (j+2) 0).toNat:=⟨_,rfl⟩;obtain⟨x3,hx3⟩:∃x,x=(b.getD (j+3) 0).toNat:=⟨_,rfl⟩;rw[← hx0] at ga gb g2 g3 g4 c0 l0;rw[← hx1] at g2 g3 g4 c1 l1
  rw[← hx2] at g3 g4 c2 l2;rw[← hx3] at g4 c3 l3;clear hx0 hx1 hx2 hx3 hne hv;by_cases k1:x0<128
  ·have HV:=aa (ga k1);clear ga gb g2 g3 g4 c1 c2 c3;go_wp2_with fail;refine wp_loop_rounds 1 ?_;rw[rounds_succ];go_wp2_with fail;obtain⟨g',rfl⟩:∃g,gk=g+1:=⟨gk-1,by omega⟩;go_roundg g';exact⟨rfl,j+1,by omega,by omega,by go_num,HV.o⟩;omega
  by_cases k2:x0<192∨248≤x0
  ·rcases k2 with k2 | k2
   all_goals
    have HV:=aa (gb (by omega) (by omega))
    clear ga gb g2 g3 g4 c1 c2 c3
    go_wp2_with fail
    go_ret
    exact⟨dw HV.o.symm,rfl⟩
  have k2:192≤x0∧x0<248:=by omega
  obtain⟨k3,k4⟩:=k2;by_cases k5:x0<224
  ·have q:=g2 (by omega) (by omega);by_cases n0:b.length<j+2
   ·have HV:=aa (q.trans (ak (by omega)));clear q;clear ga gb g2 g3 g4 c1 c2 c3;go_wp2_with fail;go_ret;exact⟨dw HV.o.symm,rfl⟩
   by_cases m1a:x1<128
   ·have d1:=c1 (by omega);have HV:=aa (q.trans (ak (by omega)));clear q;clear ga gb g2 g3 g4 c1 c2 c3;go_wp2_with fail;refine wp_loop_rounds 1 ?_;rw[rounds_succ];go_wp2_with fail;go_ret;exact⟨dw HV.o.symm,rfl⟩
   by_cases m1b:192≤x1
   ·have d1:=c1 (by omega);have HV:=aa (q.trans (ak (by omega)));clear q;clear ga gb g2 g3 g4 c1 c2 c3;go_wp2_with fail;refine wp_loop_rounds 1 ?_;rw[rounds_succ];go_wp2_with fail;go_ret;exact⟨dw HV.o.symm,rfl⟩
   by_cases v0:(((x0:Int)-192)*64+(x1:Int)-128)<128
   ·have d1:=c1 (by omega);have HV:=aa (q.trans (ak (by omega)));clear q;clear ga gb g2 g3 g4 c1 c2 c3;go_wp2_with fail;refine wp_loop_rounds 2 ?_;rw[rounds_succ];go_wp2_with fail;rw[rounds_succ];go_wp2_with fail;go_ret;exact⟨dw HV.o.symm,rfl⟩
   have d1:=c1 (by omega);have HV:=aa (q.trans (aD (by omega)));clear q;clear ga gb g2 g3 g4 c1 c2 c3;go_wp2_with fail;refine wp_loop_rounds 2 ?_;rw[rounds_succ];go_wp2_with fail;rw[rounds_succ];go_wp2_with fail;obtain⟨g',rfl⟩:∃g,gk=g+1:=⟨gk-1,by omega⟩;go_roundg g';exact⟨rfl,j+2,by omega,by omega,by go_num,HV.o⟩;omega
  by_cases k6:x0<240
  ·have q:=g3 (by omega) (by omega);by_cases n0:b.length<j+3
   ·have HV:=aa (q.trans (ak (by omega)));clear q;clear ga gb g2 g3 g4 c1 c2 c3;go_wp2_with fail;go_ret;exact⟨dw HV.o.symm,rfl⟩
   by_cases m1a:x1<128
   ·have d1:=c1 (by omega);have HV:=aa (q.trans (ak (by omega)));clear q;clear ga gb g2 g3 g4 c1 c2 c3;go_wp2_with fail;refine wp_loop_rounds 1 ?_;rw[rounds_succ];go_wp2_with fail;go_ret;exact⟨dw HV.o.symm,rfl⟩
   by_cases m1b:192≤x1
   ·have d1:=c1 (by omega);have HV:=aa (q.trans (ak (by omega)));clear q;clear ga gb g2 g3 g4 c1 c2 c3;go_wp2_with fail;refine wp_loop_rounds 1 ?_;rw[rounds_succ];go_wp2_with fail;go_ret;exact⟨dw HV.o.symm,rfl⟩
   by_cases m2a:x2<128
   ·have d1:=c1 (by omega);have d2:=c2 (by omega);have HV:=aa (q.trans (ak (by omega)));clear q;clear ga gb g2 g3 g4 c1 c2 c3;go_wp2_with fail;refine wp_loop_rounds 2 ?_;rw[rounds_succ];go_wp2_with fail;rw[rounds_succ];go_wp2_with fail;go_ret;exact⟨dw HV.o.symm,rfl⟩
   by_cases m2b:192≤x2
   ·have d1:=c1 (by omega);have d2:=c2 (by omega);have HV:=aa (q.trans (ak (by omega)));clear q;clear ga gb g2 g3 g4 c1 c2 c3;go_wp2_with fail;refine wp_loop_rounds 2 ?_;rw[rounds_succ];go_wp2_with fail;rw[rounds_succ];go_wp2_with fail;go_ret;exact⟨dw HV.o.symm,rfl⟩
   by_cases v0:((((x0:Int)-224)*64+(x1:Int)-128)*64+(x2:Int)-128)<2048
   ·have d1:=c1 (by omega);have d2:=c2 (by omega);have HV:=aa (q.trans (ak (by omega)));clear q;clear ga gb g2 g3 g4 c1 c2 c3;go_wp2_with fail;refine wp_loop_rounds 3 ?_;rw[rounds_succ];go_wp2_with fail;rw[rounds_succ];go_wp2_with fail;rw[rounds_succ];go_wp2_with fail;go_ret;exact⟨dw HV.o.symm,rfl⟩
   by_cases v2:55296≤((((x0:Int)-224)*64+(x1:Int)-128)*64+(x2:Int)-128)
   ·by_cases v3:((((x0:Int)-224)*64+(x1:Int)-128)*64+(x2:Int)-128)≤57343
    ·have d1:=c1 (by omega);have d2:=c2 (by omega);have HV:=aa (q.trans (ak (by omega)));clear q;clear ga gb g2 g3 g4 c1 c2 c3;go_wp2_with fail;refine wp_loop_rounds 3 ?_;rw[rounds_succ];go_wp2_with fail;rw[rounds_succ];go_wp2_with fail;rw[rounds_succ];go_wp2_with fail;go_ret;exact⟨dw HV.o.symm,rfl⟩
    have d1:=c1 (by omega);have d2:=c2 (by omega);have HV:=aa (q.trans (aD (by omega)));clear q;clear ga gb g2 g3 g4 c1 c2 c3;go_wp2_with fail;refine wp_loop_rounds 3 ?_;rw[rounds_succ];go_wp2_with fail;rw[rounds_succ];go_wp2_with fail;rw[rounds_succ];go_wp2_with fail;obtain⟨g',rfl⟩:∃g,gk=g+1:=⟨gk-1,by omega⟩;go_roundg g';exact⟨rfl,j+3,by omega,by omega,by go_num,HV.o⟩;omega
   have d1:=c1 (by omega);have d2:=c2 (by omega);have HV:=aa (q.trans (aD (by omega)));clear q;clear ga gb g2 g3 g4 c1 c2 c3;go_wp2_with fail;refine wp_loop_rounds 3 ?_;rw[rounds_succ];go_wp2_with fail;rw[rounds_succ];go_wp2_with fail;rw[rounds_succ];go_wp2_with fail;obtain⟨g',rfl⟩:∃g,gk=g+1:=⟨gk-1,by omega⟩;go_roundg g';exact⟨rfl,j+3,by omega,by omega,by go_num,HV.o⟩;omega
  have q:=g4 (by omega) (by omega);by_cases n0:b.length<j+4
  ·have HV:=aa (q.trans (ak (by omega)));clear q;clear ga gb g2 g3 g4 c1 c2 c3;go_wp2_with fail;go_ret;exact⟨dw HV.o.symm,rfl⟩
  by_cases m1a:x1<128
  ·have d1:=c1 (by omega);have HV:=aa (q.trans (ak (by omega)));clear q;clear ga gb g2 g3 g4 c1 c2 c3;go_wp2_with fail;refine wp_loop_rounds 1 ?_;rw[rounds_succ];go_wp2_with fail;go_ret;exact⟨dw HV.o.symm,rfl⟩
  by_cases m1b:192≤x1
  ·have d1:=c1 (by omega);have HV:=aa (q.trans (ak (by omega)));clear q;clear ga gb g2 g3 g4 c1 c2 c3;go_wp2_with fail;refine wp_loop_rounds 1 ?_;rw[rounds_succ];go_wp2_with fail;go_ret;exact⟨dw HV.o.symm,rfl⟩
  by_cases m2a:x2<128
  ·have d1:=c1 (by omega);have d2:=c2 (by omega);have HV:=aa (q.trans (ak (by omega)));clear q;clear ga gb g2 g3 g4 c1 c2 c3;go_wp2_with fail;refine wp_loop_rounds 2 ?_;rw[rounds_succ];go_wp2_with fail;rw[rounds_succ];go_wp2_with fail;go_ret;exact⟨dw HV.o.symm,rfl⟩
  by_cases m2b:192≤x2
  ·have d1:=c1 (by omega);have d2:=c2 (by omega);have HV:=aa (q.trans (ak (by omega)));clear q;clear ga gb g2 g3 g4 c1 c2 c3;go_wp2_with fail;refine wp_loop_rounds 2 ?_;rw[rounds_succ];go_wp2_with fail;rw[rounds_succ];go_wp2_with fail;go_ret;exact⟨dw HV.o.symm,rfl⟩
  by_cases m3a:x3<128
  ·have d1:=c1 (by omega);have d2:=c2 (by omega);have d3:=c3 (by omega);have HV:=aa (q.trans (ak (by omega)));clear q;clear ga gb g2 g3 g4 c1 c2 c3;go_wp2_with fail;refine wp_loop_rounds 3 ?_;rw[rounds_succ];go_wp2_with fail;rw[rounds_succ];go_wp2_with fail;rw[rounds_succ];go_wp2_with fail;go_ret;exact⟨dw HV.o.symm,rfl⟩
  by_cases m3b:192≤x3
  ·have d1:=c1 (by omega);have d2:=c2 (by omega);have d3:=c3 (by omega);have HV:=aa (q.trans (ak (by omega)));clear q;clear ga gb g2 g3 g4 c1 c2 c3;go_wp2_with fail;refine wp_loop_rounds 3 ?_;rw[rounds_succ];go_wp2_with fail;rw[rounds_succ];go_wp2_with fail;rw[rounds_succ];go_wp2_with fail;go_ret;exact⟨dw HV.o.symm,rfl⟩
  by_cases v0:(((((x0:Int)-240)*64+(x1:Int)-128)*64+(x2:Int)-128)*64+(x3:Int)-128)<65536
  ·have d1:=c1 (by omega);have d2:=c2 (by omega);have d3:=c3 (by omega);have HV:=aa (q.trans (ak (by omega)));clear q;clear ga gb g2 g3 g4 c1 c2 c3;go_wp2_with fail;refine wp_loop_rounds 4 ?_;rw[rounds_succ];go_wp2_with fail;rw[rounds_succ];go_wp2_with fail;rw[rounds_succ];go_wp2_with fail;rw[rounds_succ];go_wp2_with fail;go_ret;exact⟨dw HV.o.symm,rfl⟩
  by_cases v1:1114111<(((((x0:Int)-240)*64+(x1:Int)-128)*64+(x2:Int)-128)*64+(x3:Int)-128)
  ·have d1:=c1 (by omega);have d2:=c2 (by omega);have d3:=c3 (by omega);have HV:=aa (q.trans (ak (by omega)));clear q;clear ga gb g2 g3 g4 c1 c2 c3;go_wp2_with fail;refine wp_loop_rounds 4 ?_;rw[rounds_succ];go_wp2_with fail;rw[rounds_succ];go_wp2_with fail;rw[rounds_succ];go_wp2_with fail;rw[rounds_succ];go_wp2_with fail;go_ret;exact⟨dw HV.o.symm,rfl⟩
  have d1:=c1 (by omega);have d2:=c2 (by omega);have d3:=c3 (by omega);have HV:=aa (q.trans (aD (by omega)));clear q;clear ga gb g2 g3 g4 c1 c2 c3;go_wp2_with fail;refine wp_loop_rounds 4 ?_;rw[rounds_succ];go_wp2_with fail;rw[rounds_succ];go_wp2_with fail;rw[rounds_succ];go_wp2_with fail;rw[rounds_succ];go_wp2_with fail;obtain⟨g',rfl⟩:∃g,gk=g+1:=⟨gk-1,by omega⟩;go_roundg g';exact⟨rfl,j+4,by omega,by omega,by go_num,HV.o⟩;omega
 obtain rfl:j=b.length:=by omega
 have HV:=aa hv;clear hv hg hlt;go_wp2_with fail;go_ret;exact⟨dw (by rw[HV.o,List.drop_length];rfl),rfl⟩
end Go.Proofs.YtndjopkdbdcmdaaGreatDoor
