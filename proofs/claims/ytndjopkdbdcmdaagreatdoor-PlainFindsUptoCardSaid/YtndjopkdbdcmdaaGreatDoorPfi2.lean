/- Part 2 of the proof of pfinds_card. -/
import Derived.Test.YtndjopkdbdcmdaaGreatDoorPfi1
import Derived.Lib.ValidLaws
import Derived.Lib.TrimUEq
import Derived.Shelf.Strings.FuncGrows
import Derived.Maps.OwnSet
import Derived.Laws.Rows
import Derived.Deep.RegionHeld
import Derived.Deep.MidRow
import Derived.Great.BuildSlice
set_option linter.unusedVariables false
set_option linter.unusedSimpArgs false
set_option maxRecDepth 100000
set_option maxHeartbeats 12800000
open Go.Proofs.Tryz
namespace Go.Proofs.YtndjopkdbdcmdaaGreatDoor
section
open Go.Lib
theorem ahp(l:List UInt8)(hne:l≠[])(h:(l.getD 0 0).toNat<128):validD l=validD (l.drop 1):=by
 match l,hne with
 | b::t,_=>exact validD_cons b t (by simpa using h)
theorem ahq(l:List UInt8)(hne:l≠[])(h:128≤(l.getD 0 0).toNat)(h':(l.getD 0 0).toNat<192∨248≤(l.getD 0 0).toNat):validD l=false:=by
 have hl:0<l.length:=eT.2 hne;have h0:=(l.getD 0 0).toNat_lt;rw[validD_step l hne,decodeL_N,aw];unfold decodeN;rw[ai (by omega),ai (by omega),ai (by omega),ai (by omega)];exact⟨rfl,rfl⟩
theorem ahr(n b0 b1 b2 b3:Nat)(RZ:0<n)(h0:192≤b0∧b0<224)(h1:b1<256)(_h2:b2<256)(ZN:b3<256) :
 (decodeN n b0 b1 b2 b3=(65533,1)∧¬ (2≤n∧128≤b1∧b1<192∧128+128≤(b0-192)*64+b1))∨(∃r,decodeN n b0 b1 b2 b3=(r,2)∧(2≤n∧128≤b1∧b1<192∧128+128≤(b0-192)*64+b1)):=by
 unfold decodeN;rw[ai (by omega)];by_cases c:b0 / 32=6∧(1<n∧b1 / 64=2)
 ·rw[aw c];by_cases d:b0 % 32*64+b1 % 64≥128
  ·rw[aw d];exact .inr ⟨_,rfl,by omega⟩
  rw[ai d];exact .inl ⟨rfl,by omega⟩
 rw[ai c,ai (by omega),ai (by omega)];exact .inl ⟨rfl,by omega⟩
theorem ahs(l:List UInt8)(hne:l≠[])(h1:192≤(l.getD 0 0).toNat)(h2:(l.getD 0 0).toNat<224) :
 validD l=if 2≤l.length∧128≤(l.getD 1 0).toNat∧(l.getD 1 0).toNat<192∧128+128≤((l.getD 0 0).toNat-192)*64+(l.getD 1 0).toNat then validD (l.drop 2) else false:=by
 have hl:0<l.length:=eT.2 hne;rw[validD_step l hne,decodeL_N];rcases ahr l.length _ _ _ _ hl ⟨h1,h2⟩ (l.getD 1 0).toNat_lt (l.getD 2 0).toNat_lt (l.getD 3 0).toNat_lt with ⟨e,hc⟩ | ⟨r,e,hc⟩
 ·rw[e,aw ⟨rfl,rfl⟩,ai hc]
 rw[e,ai (by simp),aw hc]
theorem aht(n b0 b1 b2 b3:Nat)(RZ:0<n)(h0:224≤b0∧b0<240)(h1:b1<256)(_h2:b2<256)(ZN:b3<256) :
 (decodeN n b0 b1 b2 b3=(65533,1)∧¬ (3≤n∧(128≤b1∧b1<192)∧(128≤b2∧b2<192)∧2048+8320≤((b0-224)*64+b1)*64+b2∧¬ (55296+8320≤((b0-224)*64+b1)*64+b2∧((b0-224)*64+b1)*64+b2≤57343+8320)))∨(∃r,decodeN n b0 b1 b2 b3=(r,3)∧(3≤n∧(128≤b1∧b1<192)∧(128≤b2∧b2<192)∧2048+8320≤((b0-224)*64+b1)*64+b2∧¬ (55296+8320≤((b0-224)*64+b1)*64+b2∧((b0-224)*64+b1)*64+b2≤57343+8320))):=by
 unfold decodeN;rw[ai (by omega)];rw[ai (by omega)];by_cases c:b0 / 16=14∧(1<n∧b1 / 64=2)∧(2<n∧b2 / 64=2)
 ·rw[aw c];by_cases d:b0 % 16*4096+b1 % 64*64+b2 % 64≥2048∧(b0 % 16*4096+b1 % 64*64+b2 % 64<55296∨(57344≤b0 % 16*4096+b1 % 64*64+b2 % 64∧b0 % 16*4096+b1 % 64*64+b2 % 64≤1114111))
  ·rw[aw d];exact .inr ⟨_,rfl,by omega⟩
  rw[ai d];exact .inl ⟨rfl,by omega⟩
 rw[ai c,ai (by omega)];exact .inl ⟨rfl,by omega⟩
theorem ahu(l:List UInt8)(hne:l≠[])(h1:224≤(l.getD 0 0).toNat)(h2:(l.getD 0 0).toNat<240) :
 validD l=if 3≤l.length∧(128≤(l.getD 1 0).toNat∧(l.getD 1 0).toNat<192)∧(128≤(l.getD 2 0).toNat∧(l.getD 2 0).toNat<192)∧2048+8320≤(((l.getD 0 0).toNat-224)*64+(l.getD 1 0).toNat)*64+(l.getD 2 0).toNat∧¬ (55296+8320≤(((l.getD 0 0).toNat-224)*64+(l.getD 1 0).toNat)*64+(l.getD 2 0).toNat∧(((l.getD 0 0).toNat-224)*64+(l.getD 1 0).toNat)*64+(l.getD 2 0).toNat≤57343+8320) then validD (l.drop 3) else false:=by
 have hl:0<l.length:=eT.2 hne;rw[validD_step l hne,decodeL_N];rcases aht l.length _ _ _ _ hl ⟨h1,h2⟩ (l.getD 1 0).toNat_lt (l.getD 2 0).toNat_lt (l.getD 3 0).toNat_lt with ⟨e,hc⟩ | ⟨r,e,hc⟩
 ·rw[e,aw ⟨rfl,rfl⟩,ai hc]
 rw[e,ai (by simp),aw hc]
theorem ahv(n b0 b1 b2 b3:Nat)(RZ:0<n)(h0:240≤b0∧b0<248)(h1:b1<256)(_h2:b2<256)(ZN:b3<256) :
 (decodeN n b0 b1 b2 b3=(65533,1)∧¬ (4≤n∧(128≤b1∧b1<192)∧(128≤b2∧b2<192)∧(128≤b3∧b3<192)∧65536+532608≤(((b0-240)*64+b1)*64+b2)*64+b3∧(((b0-240)*64+b1)*64+b2)*64+b3≤1114111+532608))∨(∃r,decodeN n b0 b1 b2 b3=(r,4)∧(4≤n∧(128≤b1∧b1<192)∧(128≤b2∧b2<192)∧(128≤b3∧b3<192)∧65536+532608≤(((b0-240)*64+b1)*64+b2)*64+b3∧(((b0-240)*64+b1)*64+b2)*64+b3≤1114111+532608)):=by
 unfold decodeN;rw[ai (by omega)];rw[ai (by omega),ai (by omega)];by_cases c:b0 / 8=30∧(1<n∧b1 / 64=2)∧(2<n∧b2 / 64=2)∧(3<n∧b3 / 64=2)
 ·rw[aw c];by_cases d:b0 % 8*262144+b1 % 64*4096+b2 % 64*64+b3 % 64≥65536∧(b0 % 8*262144+b1 % 64*4096+b2 % 64*64+b3 % 64<55296∨(57344≤b0 % 8*262144+b1 % 64*4096+b2 % 64*64+b3 % 64∧b0 % 8*262144+b1 % 64*4096+b2 % 64*64+b3 % 64≤1114111))
  ·rw[aw d];exact .inr ⟨_,rfl,by omega⟩
  rw[ai d];exact .inl ⟨rfl,by omega⟩
 rw[ai c];exact .inl ⟨rfl,by omega⟩
theorem ahw(l:List UInt8)(hne:l≠[])(h1:240≤(l.getD 0 0).toNat)(h2:(l.getD 0 0).toNat<248) :
 validD l=if 4≤l.length∧(128≤(l.getD 1 0).toNat∧(l.getD 1 0).toNat<192)∧(128≤(l.getD 2 0).toNat∧(l.getD 2 0).toNat<192)∧(128≤(l.getD 3 0).toNat∧(l.getD 3 0).toNat<192)∧65536+532608≤((((l.getD 0 0).toNat-240)*64+(l.getD 1 0).toNat)*64+(l.getD 2 0).toNat)*64+(l.getD 3 0).toNat∧((((l.getD 0 0).toNat-240)*64+(l.getD 1 0).toNat)*64+(l.getD 2 0).toNat)*64+(l.getD 3 0).toNat≤1114111+532608 then validD (l.drop 4) else false:=by
 have hl:0<l.length:=eT.2 hne;rw[validD_step l hne,decodeL_N];rcases ahv l.length _ _ _ _ hl ⟨h1,h2⟩ (l.getD 1 0).toNat_lt (l.getD 2 0).toNat_lt (l.getD 3 0).toNat_lt with ⟨e,hc⟩ | ⟨r,e,hc⟩
 ·rw[e,aw ⟨rfl,rfl⟩,ai hc]
 rw[e,ai (by simp),aw hc]
end
section
open Go.Lib
def mP(c:UInt8):Bool:=decide (32≤c.toNat∧c.toNat≠46)
def tj(x:Nat):Bool:=decide (x<32∨x=46)
theorem ahx(n b0 b1 b2 b3:Nat)(RZ:0<n)(_h0:b0<256)(h1:b1<256)(h2:b2<256)(h3:b3<256) :
 (b0<128∧decodeN n b0 b1 b2 b3=(b0,1))∨decodeN n b0 b1 b2 b3=(65533,1) ∨
 (∃r,decodeN n b0 b1 b2 b3=(r,2)∧128≤r∧2≤n∧128≤b0∧128≤b1) ∨
 (∃r,decodeN n b0 b1 b2 b3=(r,3)∧128≤r∧3≤n∧128≤b0∧128≤b1∧128≤b2) ∨
 (∃r,decodeN n b0 b1 b2 b3=(r,4)∧128≤r∧4≤n∧128≤b0∧128≤b1∧128≤b2∧128≤b3):=by
 unfold decodeN;split
 ·rename_i h;exact .inl ⟨h,rfl⟩
 split
 ·split
  ·rename_i h _ hr;exact .inr (.inr (.inl ⟨_,rfl,by omega⟩))
  exact .inr (.inl rfl)
 split
 ·split
  ·rename_i h _ hr;exact .inr (.inr (.inr (.inl ⟨_,rfl,by omega⟩)))
  exact .inr (.inl rfl)
 split
 ·split
  ·rename_i h _ hr;exact .inr (.inr (.inr (.inr ⟨_,rfl,by omega⟩)))
  exact .inr (.inl rfl)
 exact .inr (.inl rfl)
theorem ahy(c:UInt8)(h:128≤c.toNat):mP c=true:=bW (by omega)
theorem ahz(l:List UInt8)(k:Nat)(hk:k≤l.length)(h:∀i,i<k→128≤(l.getD i 0).toNat):(l.take k).all mP=true:=by
 rw[nS];intro x hx;obtain⟨i,hi,rfl⟩:=tG.1 hx;have hik:i<k:=by rw[dS] at hi;omega
 have:=h i hik;rw[jf,cJ (by omega)] at this;rw[AA];exact ahy _ this
theorem ahA(s:ByteArray):∀(f pos:Nat),validD (s.data.toList.drop pos)=true→s.size≤pos+f →
 decide (0≤idxFuncFrom tj true s f pos)=!((s.data.toList.drop pos).all mP):=by
 intro f
 induction f with
 | zero =>
  intro pos _ hp;have:s.data.toList.drop pos=[]:=J_ (by have:s.data.toList.length=s.size:=rfl;omega);rw[this];rfl
 | succ f ih =>
  intro pos hv hp;by_cases hlt:pos<s.size
  ·have hsz:s.data.toList.length=s.size:=rfl;obtain⟨l,hl⟩:∃l,s.data.toList.drop pos=l:=⟨_,rfl⟩;have hll:l.length=s.size-pos:=by rw[← hl,iM,hsz]
   have hne:l≠[]:=fun h=>by rw[h] at hll;simp at hll;omega
   have hd:Utf8.decode s pos=decodeL l:=by rw[← hl,decodeL_drop]
   have hdrop:∀k,s.data.toList.drop (pos+k)=l.drop k:=fun k=>by rw[← hl,Ka]
   have ahB:∀k,l.all mP=((l.take k).all mP&&(l.drop k).all mP):=fun k=>by rw[← Fi,qq]
   have hstep:=validD_step l hne;rw[hl] at hv;rw[hv] at hstep;unfold idxFuncFrom;rw[aw hlt,hd,hl];rw[decodeL_N] at hstep ⊢;have big:∀(r k:Nat),0<k→decodeN l.length (l.getD 0 0).toNat (l.getD 1 0).toNat (l.getD 2 0).toNat (l.getD 3 0).toNat=(r,k)→128≤r→k≤l.length→(∀i,i<k→128≤(l.getD i 0).toNat)→(k=1→False) →
    decide (0≤if tj (r,k).1=true then (pos:Int) else idxFuncFrom tj true s f (pos+(r,k).2))=!(l.all mP):=by
    intro r k zt he hr hk hb hk1;rw[he,ai (fun h=>hk1 h.2)] at hstep;rw[ai (by simp[tj];omega),ahB k,ahz l k hk hb,rN,← hdrop];exact ih (pos+k) (by rw[hdrop];exact hstep.symm) (by omega)
   rcases ahx l.length _ _ _ _ (by omega) (l.getD 0 0).toNat_lt (l.getD 1 0).toNat_lt (l.getD 2 0).toNat_lt (l.getD 3 0).toNat_lt with ⟨h0,e⟩ | e | ⟨r,e,hr,hn,h⟩ | ⟨r,e,hr,hn,h⟩ | ⟨r,e,hr,hn,h⟩
   ·rw[e,ai (fun h=>by have h1:(l.getD 0 0).toNat=65533:=h.1;omega)] at hstep;rw[e]
    match l,hne with
    | c::t,_ =>
     simp only[List.getD_cons_zero] at h0 ⊢;by_cases hc:c.toNat<32∨c.toNat=46
     ·rw[aw (by simp[tj];omega)];have:mP c=false:=bX (by omega);rw[List.all_cons,this];simp
     rw[ai (by simp[tj];omega)];have:mP c=true:=bW (by omega);rw[List.all_cons,this,rN];have hd1:=hdrop 1;have:=ih (pos+1) (by rw[hd1];exact hstep.symm) (by omega);rw[hd1] at this;exact this
   ·rw[e] at hstep;simp at hstep
   ·rw[e];exact big r 2 (by omega) e hr hn (fun i hi=>by match i,hi with | 0,_=>exact h.1 | 1,_=>exact h.2) (by omega)
   ·rw[e];exact big r 3 (by omega) e hr hn (fun i hi=>by match i,hi with | 0,_=>exact h.1 | 1,_=>exact h.2.1 | 2,_=>exact h.2.2) (by omega)
   rw[e];exact big r 4 (by omega) e hr hn (fun i hi=>by match i,hi with | 0,_=>exact h.1 | 1,_=>exact h.2.1 | 2,_=>exact h.2.2.1 | 3,_=>exact h.2.2.2) (by omega)
  rw[idxFuncFrom_end _ _ _ _ _ hlt];have:s.data.toList.drop pos=[]:=J_ (by have:s.data.toList.length=s.size:=rfl;omega);rw[this];rfl
theorem ahC(s:ByteArray)(hv:validD s.data.toList=true):(!decide (0≤idxFunc tj true s))=s.data.toList.all mP:=by
 have:=ahA s s.size 0 hv (by omega);rw[List.drop_zero] at this;rw[idxFunc,this,Bool.not_not]
end
section
open Go.RowKit Go.Maps
def rz(s:ByteArray):Lit:=.string s.data.toList
def NS(l:List ByteArray):DataW Unit:=setOf (.agg []) (l.map rz)
theorem ahD:NS []=.map []:=rfl
theorem R4(l:List ByteArray)(s:ByteArray):NS (l++[s])=(NS l).put (rz s) (.agg []):=by
 unfold NS;rw[nR,List.map_singleton,setOf_snoc]
theorem Mt(l:List ByteArray):∀x∈l.map rz,WideAt.IsKeyLit x:=fun x hx=>by
 obtain⟨s,_,rfl⟩:=j3.1 hx;trivial
theorem ahE{a b:ByteArray}(h:rz a=rz b):a=b:=by
 injection h with h;exact CQ (Az h)
theorem ZO(l:List ByteArray)(s:ByteArray):Maps.has (NS l) (rz s)=true↔s∈l:=by
 unfold NS;rw[has_setOf _ _ _ (Mt l),List.any_map,List.any_eq_true];constructor
 ·rintro⟨x,hx,h⟩;by_cases e:rz x=rz s
  ·rw[← ahE e];exact hx
  rw[Function.comp,sameKey_ne e] at h;exact absurd h CS
 intro h;exact⟨s,h,show (rz s).sameKey (rz s)=true from WideAt.sameKey_self (a:=rz s) (Mt [s] (rz s) (by simp))⟩
theorem ahF(l:List ByteArray)(s:ByteArray)(h:s∈l):Maps.size (NS (l++[s]))=Maps.size (NS l):=by
 rw[R4,size_put (D:=NS l) (tidy_setOf _ _ (Mt l)),aw ((ZO l s).2 h)]
theorem ahG(l:List ByteArray)(s:ByteArray)(h:¬ s∈l):Maps.size (NS (l++[s]))=Maps.size (NS l)+1:=by
 rw[R4,size_put (D:=NS l) (tidy_setOf _ _ (Mt l)),ai (fun e=>h ((ZO l s).1 e))]
theorem ahH(l:List ByteArray):∀j,j≤l.length→Maps.size (NS (l.take j))≤j∧(Maps.size (NS (l.take j))=j↔(l.take j).Nodup):=by
 intro j
 induction j with
 | zero=>intro _;exact⟨Nat.le_of_eq rfl,by simp[ahD];rfl⟩
 | succ j ih =>
  intro h;obtain⟨h1,h2⟩:=ih (by omega);rw[mv l j (by omega)];by_cases hm:l[j]∈l.take j
  ·rw[ahF _ _ hm];refine⟨by omega,⟨fun e=>by omega,fun hn=>?_⟩⟩;rw[NL] at hn;exact absurd rfl (hn.2.2 _ hm _ (by simp))
  rw[ahG _ _ hm];refine⟨by omega,⟨fun e=>?_,fun hn=>?_⟩⟩
  ·rw[NL];refine⟨h2.1 (by omega),by simp,fun a ha b hb=>?_⟩;rw[yK] at hb;subst hb;intro e;subst e;exact hm ha
  rw[NL] at hn;have:=h2.2 hn.1;omega
theorem ZP(l:List ByteArray):(((Maps.size (NS l):Nat):Int)==(l.length:Int))=decide l.Nodup:=by
 have:=(ahH l l.length (ay _)).2;rw[fS] at this;apply Fg.2;rw[iC,Fj,← this];omega
end
section
open Go.RowKit
def CF(w:World)(p:Addr)(u:Value):Prop:=w.cell? p=some u∧w.frozen? p=false
theorem CF.block{w w':World}{p:Addr}{u:Value}(h:CF w p u)(e:w'.heap[p.block]?=w.heap[p.block]?):CF w' p u:=
 ⟨(vG e).trans h.1,(World.frozen?_of_block e).trans h.2⟩
def lu(C:Addr→Value→Prop):V→Cv→(Nat→Prop)→Prop
 | .mk k n b l f,c,S=>c.k=k∧c.n=(n:Int)∧c.nB=b.length∧c.nL=l.length∧c.nF=f.length ∧
  -9223372036854775808≤k∧k≤9223372036854775807∧n<18446744073709551616 ∧
  b.length≤c.cB∧b.length≤140737488355328∧l.length≤c.cL∧l.length≤140737488355328∧f.length≤c.cF∧f.length≤140737488355328 ∧
  Reads (fun p u=>C p u∧S p.block) 1 c.aB b.length (bT b) ∧
  (∃T:Nat→Nat→Prop,(∀i (h:i<l.length),∃bk o x,c.aL=some ⟨bk,o,none⟩∧S bk∧¬ T i bk∧(∀q,T i q→S q)∧kE C bk (o+i*5) x∧lu C l[i] x (T i)) ∧
   (∀i j,i<j→j<l.length→∀q,T i q→¬ T j q)) ∧
  (∃T:Nat→Nat→Prop,(∀i (h:i<f.length),∃bk o x,c.aF=some ⟨bk,o,none⟩∧S bk∧¬ T i bk∧(∀q,T i q→S q)∧C ⟨bk,o+i*6,none⟩ (.string f[i].1)∧f[i].1.size≤140737488355328∧kE C bk (o+i*6+1) x∧lu C f[i].2 x (T i)) ∧
   (∀i j,i<j→j<f.length→∀q,T i q→¬ T j q))
termination_by v=>SizeOf.sizeOf v
decreasing_by
 ·exact V.rR (aW _)
 exact V.rS (aW _)
theorem kE.mono'{C C':Addr→Value→Prop}{bk o:Nat}{c:Cv}(h:∀p u,C p u→p.block=bk→C' p u)(hc:kE C bk o c):kE C' bk o c:=
 ⟨h _ _ hc.1 rfl,h _ _ hc.2.1 rfl,h _ _ hc.2.2.1 rfl,h _ _ hc.2.2.2.1 rfl,h _ _ hc.2.2.2.2 rfl⟩
theorem lu.mono{C C':Addr→Value→Prop}(v:V):∀(c:Cv) (S S':Nat→Prop),(∀p u,C p u→S p.block→C' p u)→(∀q,S q→S' q)→lu C v c S→lu C' v c S':=by
 induction v using V.ind with
 | h k n b l f hl hf =>
  intro c S S' hC hS hv;rw[lu] at hv ⊢;obtain⟨e1,e2,e3,e4,e5,h1,h2,h3,h4,h5,h6,h7,h8,h9,hb,⟨T,hL,KW⟩,⟨U,hF,KX⟩⟩:=hv;refine⟨e1,e2,e3,e4,e5,h1,h2,h3,h4,h5,h6,h7,h8,h9,hb.mono (fun p u h=>⟨hC p u h.1 h.2,hS _ h.2⟩),⟨T,fun i hi=>?_,KW⟩,⟨U,fun i hi=>?_,KX⟩⟩
  ·obtain⟨bk,o,x,e,s,nt,ts,k0,kv⟩:=hL i hi;exact⟨bk,o,x,e,hS _ s,nt,fun q hq=>hS _ (ts q hq),k0.mono' (fun p u h e=>hC p u h (e ▸ s)),hl _ (aW hi) _ _ _ (fun p u h hq=>hC p u h (ts _ hq)) (fun q h=>h) kv⟩
  obtain⟨bk,o,x,e,s,nt,ts,ks,kz,k0,kv⟩:=hF i hi;exact⟨bk,o,x,e,hS _ s,nt,fun q hq=>hS _ (ts q hq),hC _ _ ks s,kz,k0.mono' (fun p u h e=>hC p u h (e ▸ s)),hf _ (aW hi) _ _ _ (fun p u h hq=>hC p u h (ts _ hq)) (fun q h=>h) kv⟩
theorem lu.isV{C:Addr→Value→Prop}(v:V):∀(c:Cv) (S:Nat→Prop),lu C v c S→IsV (fun p u=>C p u∧S p.block) v c:=by
 induction v using V.ind with
 | h k n b l f hl hf =>
  intro c S hv;rw[lu] at hv;rw[IsV];obtain⟨e1,e2,e3,e4,e5,h1,h2,h3,h4,h5,h6,h7,h8,h9,hb,⟨T,hL,KW⟩,⟨U,hF,KX⟩⟩:=hv;refine⟨e1,e2,e3,e4,e5,h1,h2,h3,h4,h5,h6,h7,h8,h9,hb,fun i hi=>?_,fun i hi=>?_⟩
  ·obtain⟨bk,o,x,e,s,nt,ts,k0,kv⟩:=hL i hi;exact⟨bk,o,x,e,k0.mono' (fun p u h e=>⟨h,e ▸ s⟩),fw (fun p u h=>⟨h.1,ts _ h.2⟩) _ _ (hl _ (aW hi) _ _ kv)⟩
  obtain⟨bk,o,x,e,s,nt,ts,ks,kz,k0,kv⟩:=hF i hi;exact⟨bk,o,x,e,⟨ks,s⟩,kz,k0.mono' (fun p u h e=>⟨h,e ▸ s⟩),fw (fun p u h=>⟨h.1,ts _ h.2⟩) _ _ (hf _ (aW hi) _ _ kv)⟩
def pc(w:World)(lo hi:Nat)(v:V)(c:Cv):Prop:=hi≤w.heap.size∧lu (CF w) v c (fun q=>lo≤q∧q<hi)
theorem pc.Be{w:World}{lo hi:Nat}{v:V}{c:Cv}(h:pc w lo hi v c):IsV (bK w lo hi) v c:=
 fw (fun _ _ h=>⟨h.1.1,h.2.1,h.2.2⟩) _ _ (h.2.isV v c _)
theorem pc.blocks{w w':World}{lo hi:Nat}{v:V}{c:Cv}(h:pc w lo hi v c)(hz:w.heap.size≤w'.heap.size)(hb:∀k,lo≤k→k<hi→w'.heap[k]?=w.heap[k]?):pc w' lo hi v c:=
 ⟨bn h.1 hz,lu.mono v c _ _ (fun _ _ q s=>q.block (hb _ s.1 s.2)) (fun _ q=>q) h.2⟩
theorem pc.grow{w w':World}{lo hi:Nat}{v:V}{c:Cv}(h:pc w lo hi v c)(hg:Grow w w'):pc w' lo hi v c:=
 h.blocks hg.size (fun k _ hk=>hg.below.block k (df hk h.1))
end
section
open V
theorem ac3{s:ByteArray}(h:name s=true):s.size≤32:=by
 simp only[name,il,iC] at h;exact h.1.1.2
def V.fit:V→Prop
 | mk _ n _ l f=>n<18446744073709551616∧(∀x∈l,fit x)∧(∀x∈f,fit x.2)
termination_by v=>SizeOf.sizeOf v
decreasing_by
 ·exact rR ‹_›
 exact rS ‹_›
theorem IsV.fit{C:Addr→Value→Prop}(v:V):∀c,IsV C v c→v.fit:=by
 induction v using V.ind with
 | h k n b l f hl hf =>
  intro c hv;rw[IsV] at hv;rw[V.fit];obtain⟨e1,e2,e3,e4,e5,h1,h2,h3,h4,h5,h6,h7,h8,h9,hb,hL,hF⟩:=hv;refine⟨h3,fun x hx=>?_,fun x hx=>?_⟩
  ·obtain⟨i,hi,rfl⟩:=tG.1 hx;obtain⟨bk,o,y,e,k0,kv⟩:=hL i hi;exact hl _ hx _ kv
  obtain⟨i,hi,rfl⟩:=tG.1 hx;obtain⟨bk,o,y,e,ks,kz,k0,kv⟩:=hF i hi;exact hf _ hx _ kv
theorem za(n:Nat)(h:n<256):(UInt8.ofNat n).toNat=n:=by rw[Au];omega
theorem Lr{v:V}:v.good=0↔v.formed=true∧v.most≤64∧v.depth≤16∧v.bytes.length≤4096:=by
 unfold V.good
 cases hf:v.formed
 ·simp
 simp only[Bool.true_eq_false,iN,true_and];by_cases h1:64<v.most
 ·rw[aw h1];constructor
  ·intro h;omega
  intro h;omega
 rw[ai h1];by_cases h2:16<v.depth
 ·rw[aw h2];constructor
  ·intro h;omega
  intro h;omega
 rw[ai h2];by_cases h3:4096<v.bytes.length
 ·rw[aw h3];constructor
  ·intro h;omega
  intro h;omega
 rw[ai h3];constructor
 ·intro _;omega
 intro _;rfl
end
section
open V
theorem ZQ{α:Type}(g:α→List UInt8)(f:α→Nat)(l:List α)(h:∀x∈l,f x≤(g x).length):(l.map f).sum≤((l.map g).flatten).length:=by
 induction l with
 | nil=>simp
 | cons x xs ih =>
  have h1:=h x (by simp);have h2:=ih fun y hy=>h y (by simp[hy])
  simp only[fH,pG,mo,bG];omega
theorem count_le(v:V):v.formed=true→v.count≤v.bytes.length:=by
 induction v using V.ind with
 | h k n b l f hl hf =>
  intro fF;rcases FQ fF with h | ⟨n',hn',h⟩ | ⟨n',h⟩ | ⟨n',h⟩ | ⟨b',hb',h⟩ | ⟨b',h⟩ | ⟨l',hl',h⟩ | ⟨f',hf',hnd,h⟩<;>cases h
  ·rw[count_mk,xh];simp
  ·rw[count_mk,xh];simp
  ·rw[count_mk,xh];simp
  ·rw[count_mk,xh];simp
  ·rw[count_mk,xh];simp
  ·rw[count_mk,xh];simp
  ·have h1:=ZQ V.bytes V.count l fun x hx=>hl x hx (hl' x hx)
   rw[count_mk,UO];simp only[pF,CT,aT];omega
  have h1:=ZQ (fun x:ByteArray×V=>item x.1 x.2.bytes) (fun x=>x.2.count) f fun x hx=>by
   have:=hf x hx (hf' x hx).2;rw[UR];omega
  rw[count_mk,UQ];simp only[pF,CT,aT];omega
end
section
open V
def be(k n:Nat):List UInt8:=(j5 k n).reverse
theorem fX(k n:Nat):(be k n).length=k:=by rw[be,List.length_reverse,jG]
theorem ZR(k n:Nat):be (k+1) n=UInt8.ofNat (n / 256 ^ k)::be k n:=by rw[be,UJ,List.reverse_append];rfl
def fq(n:Nat):Nat:=if n<9223372036854775808 then n+9223372036854775808 else 18446744073709551615-n
theorem AY(n:Nat)(h:n<18446744073709551616):fq n<18446744073709551616:=by unfold fq;split<;>omega
def dt(n:Nat):Bool:=Ieee.double.order n n != some .eq
def i64(n:Nat):Int:=if n<9223372036854775808 then (n:Int) else (n:Int)-18446744073709551616
def fY:List UInt8→List UInt8
 | []=>[]
 | x::r=>if x=0 then 0::255::fY r else x::fY r
def dC(b:List UInt8):List UInt8:=fY b++[0,0]
theorem Vo(b:List UInt8)(x:UInt8):fY (b++[x])=fY b++(if x=0 then [0,255] else [x]):=by
 induction b with
 | nil=>simp only[pE,fY]
 | cons y b ih=>simp only[CL,fY,ih];split<;>simp
theorem pP(b:List UInt8):b.length≤(fY b).length∧(fY b).length≤2*b.length:=by
 induction b with
 | nil=>simp[fY]
 | cons x b ih=>simp only[fY];split<;>simp only[aT]<;>omega
def mZ(n:Nat):List UInt8:=1::(be 8 (fq (fl (i64 n)).1)++(be 2 (fl (i64 n)).2++[0]))
def kJ(n:Nat):List UInt8:=if dt n=true then 0::be 8 n else 1::(be 8 (fq n)++[0,0,1])
namespace V
def key:V→List UInt8
 | mk k n b l f =>
  if k=1 then [16] else if k=2 then [32,UInt8.ofNat n] else if k=3 then 48::mZ n else if k=4 then 48::kJ n
  else if k=5 then 64::dC b else if k=6 then 80::dC b
  else if k=7 then 96::((l.attach.map fun x=>1::key x.1).flatten++[0])
  else if k=8 then 112::((f.attach.map fun x=>1::(dC x.1.1.data.toList++key x.1.2)).flatten++[0]) else []
termination_by v=>SizeOf.sizeOf v
decreasing_by
 ·exact rR x.2
 exact rS x.2
def ek(x:V):List UInt8:=1::key x
def eo(x:ByteArray×V):List UInt8:=1::(dC x.1.data.toList++key x.2)
theorem zU(k:Int)(n:Nat)(b:List UInt8)(l:List V)(f:List (ByteArray×V)):(mk k n b l f).key =
 if k=1 then [16] else if k=2 then [32,UInt8.ofNat n] else if k=3 then 48::mZ n else if k=4 then 48::kJ n
 else if k=5 then 64::dC b else if k=6 then 80::dC b
 else if k=7 then 96::((l.map ek).flatten++[0])
 else if k=8 then 112::((f.map eo).flatten++[0]) else []:=by
 rw[key];have e1:(l.attach.map fun x=>1::key x.1)=l.map ek:=by show l.attach.map (fun x=>ek x.1)=_;simp only[CO,CP]
 have e2:(f.attach.map fun x=>1::(dC x.1.1.data.toList++key x.1.2))=f.map eo:=by show f.attach.map (fun x=>eo x.1)=_;simp only[CO,CP]
 rw[e1,e2]
end V
theorem AX(n:Nat)(h:n<18446744073709551616):-9223372036854775808≤i64 n∧i64 n≤9223372036854775807:=by unfold i64;split<;>omega
theorem ack(l:List V):l.length≤((l.map V.ek).flatten).length:=by
 induction l with
 | nil=>simp
 | cons x l ih=>simp only[fH,mo,bG,V.ek,aT];omega
theorem acn(l:List (ByteArray×V)):l.length≤((l.map V.eo).flatten).length:=by
 induction l with
 | nil=>simp
 | cons x l ih=>simp only[fH,mo,bG,V.eo,aT];omega
def cI(v:V):List UInt8×Int:=if v.good≠0 then ([],v.good) else if 96<v.key.length then ([],14) else (v.key,0)
theorem adr{v:V}(h:v.good=0):v.formed=true∧v.depth≤16:=by have:=Lr.1 h;exact⟨this.1,this.2.2.1⟩
end
section
open V
def jw(x:UInt8):UInt8:=UInt8.ofNat (255-x.toNat)
def flip(t:Bool)(b:List UInt8):List UInt8:=if t=true then b.map jw else b
def qJ:List V→Int
 | []=>0
 | v::l=>if (cI v).2≠0 then (cI v).2 else qJ l
def nY:List V→List Bool→List UInt8
 | v::l,t::ts=>flip t v.key++nY l ts
 | _,_=>[]
def j_(l:List V)(ts:List Bool):List UInt8×Int:=
 if l.length≠ts.length then ([],1) else if qJ l≠0 then ([],qJ l) else if 96<(nY l ts).length then ([],14) else (nY l ts,0)
theorem K4{v:V}(h:(cI v).2=0):v.good=0∧v.key.length≤96:=by
 unfold cI at h;split at h
 ·rename_i h0;exact absurd h h0
 split at h
 ·cases h
 exact⟨by omega,by omega⟩
theorem ZT:∀{l:List V},qJ l=0→∀v∈l,(cI v).2=0
 | [],_,v,hv=>by cases hv
 | x::l,h,v,hv=>by
  rw[qJ] at h;split at h
  ·rename_i h0;exact absurd h h0
  rcases je.1 hv with rfl | hv
  ·rename_i h0;simpa using h0
  exact ZT h v hv
theorem adQ{l:List V}{ts:List Bool}{b:List UInt8}(h:j_ l ts=(b,0)):l.length=ts.length∧(∀v∈l,v.good=0)∧nY l ts=b∧b.length≤96:=by
 unfold j_ at h;split at h
 ·cases (CY.1 h).2
 split at h
 ·rename_i h0;exact absurd (CY.1 h).2 h0
 split at h
 ·cases (CY.1 h).2
 rename_i h0 h1 h2;have e:nY l ts=b:=(CY.1 h).1;exact⟨by omega,fun v hv=>(K4 (ZT (by omega) v hv)).1,e,by rw[← e];omega⟩
end
abbrev fG:=@V.zU
section
open Go.RowKit Go.Shelf
theorem pQ(w:World)(b:Int):(callFunc 138 #[.int .u64 b]).run prog w=.ok (.value (.float .f64 b.toNat)) w:=by kernel_rfl
theorem xt(b:Nat)(w:World):Calls prog 140 #[.float .f64 b] w fun e w'=>e=.returned (.bool (dt b))∧w=w':=by
 go_enter func140,ntmps140;go_wp2;go_ret;exact⟨rfl,rfl⟩
theorem I7(f:Nat)(n:Int)(h:floatToIntVal .f64 f .i64=some n)(w:World):(convert 186 2 (.float .f64 f)).run prog w=.ok (.int .i64 n) w:=
 run_convert_float_int (P:=prog) w 186 2 .f64 .i64 f n (by kernel_rfl) (by kernel_rfl) h
end
section
open Go.RowKit
structure Kept (S:Nat→Prop) (w w':World):Prop where
 os:w'.os=w.os
 tape:w'.tape=w.tape
 output:w'.output=w.output
 size:w.heap.size≤w'.heap.size
 block:∀k,k<w.heap.size→¬ S k→w'.heap[k]?=w.heap[k]?
theorem Kept.refl(S:Nat→Prop)(w:World):Kept S w w:=⟨rfl,rfl,rfl,ay _,fun _ _ _=>rfl⟩
theorem Kept.trans{S:Nat→Prop}{a b c:World}(h:Kept S a b)(k:Kept S b c):Kept S a c:=
 ⟨k.os.trans h.os,k.tape.trans h.tape,k.output.trans h.output,bn h.size k.size,fun i hi hs=>(k.block i (df hi h.size) hs).trans (h.block i hi hs)⟩
theorem Kept.mono{S S':Nat→Prop}{a b:World}(h:Kept S a b)(hs:∀q,S q→S' q):Kept S' a b:=
 ⟨h.os,h.tape,h.output,h.size,fun k hk hn=>h.block k hk (fun q=>hn (hs k q))⟩
theorem Kept.grow{S:Nat→Prop}{a b:World}(h:Grow a b):Kept S a b:=⟨h.os,h.tape,h.output,h.size,fun k hk _=>h.below.block k hk⟩
theorem Kept.set{S:Nat→Prop}{a w:World}(h:Kept S a w){p:Addr}(hp:S p.block)(u:Value):Kept S a (w.setCell p u):=
 ⟨h.os,h.tape,h.output,by rw[show (w.setCell p u).heap.size=w.heap.size by simp[World.setCell]];exact h.size,fun k hk hs=>(Ap w p u k (fun e=>hs (e ▸ hp))).trans (h.block k hk hs)⟩
theorem Kept.below{S:Nat→Prop}{a b:World}{B:Nat}(h:Kept S a b)(hB:B≤a.heap.size)(hs:∀q,S q→B≤q):Below B a b:=
 ⟨h.os,h.tape,h.output,h.size,fun k hk=>h.block k (by omega) (fun q=>by have:=hs k q;omega)⟩
theorem Kept.blk{S:Nat→Prop}{a b:World}{g:Nat}{t:TypeId}{cs:Array Value}(h:Kept S a b)(hb:Blk a g t cs)(hs:¬ S g):Blk b g t cs:=(h.block g hb.lt hs).trans hb
end
abbrev dU:=@Kept.refl
abbrev gJ:=@Kept.grow
abbrev qW:=@Kept.set
section
open Go.RowKit
abbrev cells2(c d:Cv):Array Value:=#[.int .i64 c.k,.int .u64 c.n,.slice c.aB c.nB c.cB,.slice c.aL c.nL c.cL,.slice c.aF c.nF c.cF,.int .i64 d.k,.int .u64 d.n,.slice d.aB d.nB d.cB,.slice d.aL d.nL d.cL,.slice d.aF d.nF d.cF]
theorem InL.row2{w:World}{u v:V}{c d:Cv}(h:In w u c)(k:In w v d):InL (w.alloc (.cells (cells2 c d) 27)) (some ⟨w.heap.size,0,none⟩) 2 [u,v]:=by
 have hg:=(ah w).alloc (.cells (cells2 c d) 27);have hB:=aD w 27 (cells2 c d);have h':=h.grow hg;have k':=k.grow hg;have hlt:=hB.lt;unfold InL In;rw[IsV];refine⟨rfl,rfl,rfl,rfl,rfl,by decide,by decide,by decide,by simp,by simp,by simp,by simp,by simp,by simp,⟨rfl,fun h=>by simp at h⟩,fun i hi=>?_,fun i hi=>by simp at hi⟩;have hi2:i=0∨i=1:=by simp at hi;omega
 rcases hi2 with rfl | rfl
 ·exact⟨w.heap.size,0,c,rfl,⟨⟨hB.cell 0,ba _,hlt⟩,⟨hB.cell 1,ba _,hlt⟩,⟨hB.cell 2,ba _,hlt⟩,⟨hB.cell 3,ba _,hlt⟩,⟨hB.cell 4,ba _,hlt⟩⟩,h'⟩
 exact⟨w.heap.size,0,d,rfl,⟨⟨hB.cell 5,ba _,hlt⟩,⟨hB.cell 6,ba _,hlt⟩,⟨hB.cell 7,ba _,hlt⟩,⟨hB.cell 8,ba _,hlt⟩,⟨hB.cell 9,ba _,hlt⟩⟩,k'⟩
end
section
open Ieee Go
def rv(r:Nat):Nat:=if r<4503599627370496 then r else (4503599627370496+r % 4503599627370496)*2 ^ (r / 4503599627370496-1)
theorem ZU(r:Nat):rv r<rv (r+1):=by
 unfold rv;by_cases h1:r+1<4503599627370496
 ·rw[aw (by omega),aw h1];omega
 by_cases h2:r<4503599627370496
 ·obtain rfl:r=4503599627370495:=by omega
  rw[aw (by omega),ai (by omega)];decide
 rw[ai h2,ai h1];obtain⟨e,he⟩:∃e,r / 4503599627370496=e+1:=⟨r / 4503599627370496-1,by omega⟩;have hp:0<2 ^ e:=js (by omega);by_cases h3:r % 4503599627370496+1<4503599627370496
 ·rw[show (r+1) / 4503599627370496=e+1 by omega,show (r+1) % 4503599627370496=r % 4503599627370496+1 by omega,he,Fx];exact vI (by omega) hp
 rw[show (r+1) / 4503599627370496=e+2 by omega,show (r+1) % 4503599627370496=0 by omega,he,Fx,show e+2-1=e+1 by omega,vE];have:(4503599627370496+r % 4503599627370496)*2 ^ e<(4503599627370496*2)*2 ^ e:=vI (by omega) hp;rw[gf,← vJ,Nat.mul_right_comm];exact this
theorem EJ{a b:Nat}(h:a<b):rv a<rv b:=by
 obtain⟨d,rfl⟩:∃d,b=a+1+d:=⟨b-a-1,by omega⟩;clear h
 induction d with
 | zero=>exact ZU a
 | succ d ih=>exact Fm ih (ZU _)
theorem Mu{a b:Nat}:rv a<rv b↔a<b:=by
 constructor
 ·intro h;rcases FA a b with h1 | h1 | h1
  ·exact h1
  ·subst h1;omega
  have:=EJ h1;omega
 exact EJ
theorem R6:rv 0=0:=rfl
theorem ahI{r:Nat}(h:0<r):0<rv r:=by have:=EJ h;rwa [R6] at this
def sv(n:Nat):Int:=if n<9223372036854775808 then (rv n:Int) else -(rv (n-9223372036854775808):Int)
def sm(n:Nat):Int:=if n<9223372036854775808 then (n:Int) else -((n-9223372036854775808:Nat):Int)
theorem uY(a b:Nat):sv a<sv b↔sm a<sm b:=by
 unfold sv sm;by_cases ha:a<9223372036854775808
 ·rw[aw ha,aw ha];by_cases hb:b<9223372036854775808
  ·rw[aw hb,aw hb];have:=@Mu a b;omega
  rw[ai hb,ai hb];omega
 rw[ai ha,ai ha];by_cases hb:b<9223372036854775808
 ·rw[aw hb,aw hb];have h1:=@Mu 0 (a-9223372036854775808);have h2:=@Mu 0 b;rw[R6] at h1 h2;omega
 rw[ai hb,ai hb];have:=@Mu (b-9223372036854775808) (a-9223372036854775808);omega
theorem Mv(a b:Nat):sv a=sv b↔sm a=sm b:=by
 have h1:=uY a b;have h2:=uY b a;omega
theorem I8{n:Nat}(hn:n<18446744073709551616)(hf:n % 9223372036854775808<9218868437227405312) :
 ∃m p,Ieee.double.read n=.number (decide (9223372036854775808≤n)) m p∧-1074≤p∧m*2 ^ (p+1074).toNat=rv (n % 9223372036854775808)∧m<9007199254740992∧(-1074<p→4503599627370496≤m):=by
 have hs:(n / 9223372036854775808 % 2==1)=decide (9223372036854775808≤n):=by
  by_cases h:9223372036854775808≤n
  ·rw[bW h,show n / 9223372036854775808 % 2=1 by omega];rfl
  rw[bX h,show n / 9223372036854775808 % 2=0 by omega];rfl
 unfold Format.read;simp only[tW,FY,AU,FZ,hs];generalize n % 9223372036854775808=r at hf;unfold rv;by_cases h:r<4503599627370496
 ·rw[aw h,aw h];exact⟨_,_,rfl,by omega,by simp,by omega,fun hh=>by omega⟩
 rw[ai h,ai h,aw hf];refine⟨_,_,rfl,by omega,?_,by omega,fun _=>by omega⟩;rw[show (-1074+((r / 4503599627370496-1:Nat):Int)+1074).toNat=r / 4503599627370496-1 by omega]
theorem R7{n:Nat}(hn:n<18446744073709551616)(hf:n % 9223372036854775808=9218868437227405312):Ieee.double.read n=.infinity (decide (9223372036854775808≤n)):=by
 have hs:(n / 9223372036854775808 % 2==1)=decide (9223372036854775808≤n):=by
  by_cases h:9223372036854775808≤n
  ·rw[bW h,show n / 9223372036854775808 % 2=1 by omega];rfl
  rw[bX h,show n / 9223372036854775808 % 2=0 by omega];rfl
 unfold Format.read;simp only[tW,FY,AU,FZ,hs];rw[hf,ai (by omega),ai (by omega),aw rfl]
theorem ahJ{n:Nat}(hf:9218868437227405312<n % 9223372036854775808):∃s t,Ieee.double.read n=.nan s t:=by
 unfold Format.read;simp only[tW,FY,AU,FZ];rw[ai (by omega),ai (by omega),ai (by omega)];exact⟨_,_,rfl⟩
theorem ahK(a b:Int)(c:Nat)(hc:0<c):compare (a*(c:Int)) (b*(c:Int))=compare a b:=by
 have hc':(0:Int)<(c:Int):=by omega
 rcases qw a b with h | h | h
 ·rw[vP h,vP (FE h hc')]
 ·rw[yX h,yX (by rw[h])]
 rw[vQ h,vQ (FE h hc')]
theorem ZV(s:Bool)(m:Nat)(p base:Int)(h1:-1074≤base)(h2:base≤p):signed s m (p-base).toNat*((2 ^ (base+1074).toNat:Nat):Int)=if s then -((m*2 ^ (p+1074).toNat:Nat):Int) else ((m*2 ^ (p+1074).toNat:Nat):Int):=by
 have e:m*2 ^ (p-base).toNat*2 ^ (base+1074).toNat=m*2 ^ (p+1074).toNat:=by
  rw[vJ,← jE,show (p-base).toNat+(base+1074).toNat=(p+1074).toNat by omega]
 unfold signed;rw[yM]
 cases s
 ·simp only[lI,iN];rw[← mV,e]
 simp only[iD];rw[qx,← mV,e]
theorem Mw{n:Nat}(hn:n<18446744073709551616):sv n=if decide (9223372036854775808≤n)=true then -(rv (n % 9223372036854775808):Int) else (rv (n % 9223372036854775808):Int):=by
 unfold sv;by_cases h:9223372036854775808≤n
 ·rw[ai (by omega),bW h,aw rfl,show n % 9223372036854775808=n-9223372036854775808 by omega]
 rw[aw (by omega),bX h,ai (by decide),show n % 9223372036854775808=n by omega]
theorem Mx{a b:Nat}(ha:a<18446744073709551616)(hb:b<18446744073709551616)(na:a % 9223372036854775808≤9218868437227405312)(nb:b % 9223372036854775808≤9218868437227405312) :
 Ieee.double.order a b=some (compare (sv a) (sv b)):=by
 unfold Format.order;rw[Mw ha,Mw hb];rcases xa na with na | na
 ·obtain⟨m,p,h1,h2,h3,-,-⟩:=I8 ha na;rw[h1];rcases xa nb with nb | nb
  ·obtain⟨m',p',k1,k2,k3,-,-⟩:=I8 hb nb;rw[k1];unfold Datum.order;simp only;have hc:=ahK (signed (decide (9223372036854775808≤a)) m (p-min p p').toNat) (signed (decide (9223372036854775808≤b)) m' (p'-min p p').toNat) (2 ^ (min p p'+1074).toNat) (js (by omega));rw[ZV _ _ _ _ (by omega) (by omega),ZV _ _ _ _ (by omega) (by omega),h3,k3] at hc;rw[← hc]
  rw[R7 hb nb,nb];have:=EJ na;unfold Datum.order;simp only;generalize decide (9223372036854775808≤a)=s;generalize decide (9223372036854775808≤b)=t
  cases t
  ·simp only[lI,iN];rw[vP (by split<;>omega)]
  simp only[iD];rw[vQ (by split<;>omega)]
 rw[R7 ha na,na];rcases xa nb with nb | nb
 ·obtain⟨m',p',k1,k2,k3,-,-⟩:=I8 hb nb;rw[k1];have:=EJ nb;unfold Datum.order;simp only;generalize decide (9223372036854775808≤a)=s;generalize decide (9223372036854775808≤b)=t
  cases s
  ·simp only[lI,iN];rw[vQ (by split<;>omega)]
  simp only[iD];rw[vP (by split<;>omega)]
 rw[R7 hb nb,nb];unfold Datum.order;simp only;have:=ahI (show 0<9218868437227405312 by omega);generalize decide (9223372036854775808≤a)=s;generalize decide (9223372036854775808≤b)=t;generalize rv 9218868437227405312=x at this ⊢
 cases s<;>cases t<;>simp only[lI,iN,iD]
 ·rw[yX rfl];rfl
 ·rw[vQ (by omega)];rfl
 ·rw[vP (by omega)];rfl
 rw[yX rfl];rfl
theorem ahL{a b:Nat}(na:9218868437227405312<a % 9223372036854775808):Ieee.double.order a b=none:=by
 obtain⟨s,t,h⟩:=ahJ na;unfold Format.order;rw[h];rfl
theorem exU(j:Nat):∃u:Nat,∀k,k=j→u=2 ^ k:=⟨2 ^ j,fun k h=>by rw[h]⟩
theorem ZW:∃u:Nat,∀k,k=1074→u=2 ^ k:=exU 1074
noncomputable def U1:Nat:=Classical.choose ZW
theorem I9(k:Nat)(h:k=1074):2 ^ k=U1:=(xd ZW k h).symm
theorem My:0<U1:=by
 obtain⟨k,hk⟩:∃k,k=1074:=⟨_,rfl⟩;rw[← I9 k hk];exact js (by decide)
theorem ZX(e t:Nat)(h1:4503599627370496≤t)(h2:t≤9007199254740992):rv (e*4503599627370496+t)=t*2 ^ e:=by
 unfold rv;rw[ai (by omega)];rcases xa h2 with h | rfl
 ·rw[show (e*4503599627370496+t) / 4503599627370496=e+1 by omega,show (e*4503599627370496+t) % 4503599627370496=t-4503599627370496 by omega,Fx,show 4503599627370496+(t-4503599627370496)=t by omega]
 rw[show (e*4503599627370496+9007199254740992) / 4503599627370496=e+2 by omega,show (e*4503599627370496+9007199254740992) % 4503599627370496=0 by omega,show e+2-1=e+1 by omega,vE];omega
theorem R8(neg:Bool)(r:Nat)(h:r<9223372036854775808):sv (Ieee.double.word neg r)=if neg then -(rv r:Int) else (rv r:Int):=by
 unfold sv Format.word;rw[tW]
 cases neg
 ·simp only[lI,iN];rw[aw h]
 simp only[iD];rw[ai (by omega),show 9223372036854775808+r-9223372036854775808=r by omega]
theorem Mz(neg:Bool)(r:Nat)(h:r<9223372036854775808):sm (Ieee.double.word neg r)=if neg then -(r:Int) else (r:Int):=by
 unfold sm Format.word;rw[tW]
 cases neg
 ·simp only[lI,iN];rw[aw h]
 simp only[iD];rw[ai (by omega),show 9223372036854775808+r-9223372036854775808=r by omega]
theorem ZY(neg:Bool)(aN:Nat)(h0:aN≠0)(hL:aN.log2≤52):sv (Ieee.double.nearest neg aN 0)=if neg then -((aN*U1:Nat):Int) else ((aN*U1:Nat):Int):=by
 have hlt:=vH (n:=aN);have hge:=Ki h0;have hp:0<2 ^ (52-aN.log2):=js (by omega);have ha:4503599627370496≤aN*2 ^ (52-aN.log2):=by
  have:=iB (2 ^ (52-aN.log2)) hge;rwa [← jE,show aN.log2+(52-aN.log2)=52 by omega,F5] at this
 have hb:aN*2 ^ (52-aN.log2)<9007199254740992:=by
  have:=vI hlt hp;rwa [← jE,show aN.log2+1+(52-aN.log2)=53 by omega,tX] at this
 rw[F4 neg aN h0 hL,R8 _ _ (by omega),ZX _ _ ha (by omega),vJ,← jE,I9 (52-aN.log2+(aN.log2+1022)) (by omega)]
theorem zV(neg:Bool)(t d:Nat)(hd2:d≤11)(h1:4503599627370496≤t)(h2:t≤9007199254740992):sv (Ieee.double.word neg ((d+1074)*4503599627370496+t))=if neg then -((t*2 ^ d*U1:Nat):Int) else ((t*2 ^ d*U1:Nat):Int):=by
 rw[R8 _ _ (by omega),ZX _ _ h1 h2,jE,← vJ,I9 _ rfl]
structure Under (i:Int) (g rest:Nat):Prop where
 bits:g<18446744073709551616
 fin:g % 9223372036854775808<9218868437227405312
 val:sv g=(i-(rest:Int))*(U1:Int)
 top:∀f:Nat,sv f≤i*(U1:Int)→sv f≤sv g
theorem MA{i:Int}{g:Nat}(hb:g<18446744073709551616)(hf:g % 9223372036854775808<9218868437227405312)(h:sv g=i*(U1:Int)):Under i g 0:=
 ⟨hb,hf,by rw[h];simp,fun f hf=>by rw[h];exact hf⟩
theorem zW(neg:Bool)(r:Nat)(h:r<9223372036854775808):Ieee.double.word neg r % 9223372036854775808=r:=U3 r h neg
theorem EK(neg:Bool)(r:Nat)(h:r<9223372036854775808):Ieee.double.word neg r<18446744073709551616:=by
 unfold Format.word;rw[tW];cases neg<;>simp<;>omega
theorem MB(i:Int)(h1:-9223372036854775808≤i)(h2:i≤9223372036854775807):Under i (fl i).1 (fl i).2:=by
 by_cases hz:i=0
 ·subst hz;have e1:fl 0=(0,0):=by decide
  rw[e1];exact MA (by decide) (by decide) (by simp[sv,rv])
 have hm0:i.natAbs≠0:=by omega
 by_cases hL:i.natAbs.log2≤52
 ·have hsh:sh i.natAbs=0:=by unfold sh;omega
  have hfl:fl i=(Ieee.double.nearest (decide (i<0)) i.natAbs 0,0):=by
   unfold fl;by_cases hi:0≤i
   ·have e:i.toNat=i.natAbs:=by omega
    rw[aw hi,e,hsh];simp only[AG,Fs,rM,Nat.mod_one,bX (show ¬ i<0 by omega)]
   rw[ai hi,hsh];simp only[AG,Fs,rM,AE,gf,bW (show i<0 by omega)]
  have hlt:=vH (n:=i.natAbs);have hp:0<2 ^ (52-i.natAbs.log2):=js (by omega);have hb:i.natAbs*2 ^ (52-i.natAbs.log2)<9007199254740992:=by
   have:=vI hlt hp;rwa [← jE,show i.natAbs.log2+1+(52-i.natAbs.log2)=53 by omega,tX] at this
  have hs:=ZY (decide (i<0)) i.natAbs hm0 hL;have hr:(i.natAbs.log2+1022)*4503599627370496+i.natAbs*2 ^ (52-i.natAbs.log2)<9218868437227405312:=by omega
  rw[hfl];refine MA ?_ ?_ ?_
  ·rw[F4 _ _ hm0 hL];exact EK _ _ (by omega)
  ·rw[F4 _ _ hm0 hL,zW _ _ (by omega)];exact hr
  show sv (Ieee.double.nearest (decide (i<0)) i.natAbs 0)=_;rw[hs,mV];by_cases hi:i<0
  ·rw[bW hi,aw rfl,← qx];congr 1;omega
  rw[bX hi,ai (by decide)];congr 1;omega
 obtain⟨d,hd⟩:∃d,i.natAbs.log2=52+d:=⟨i.natAbs.log2-52,by omega⟩;have hsh:sh i.natAbs=d:=by unfold sh;omega
 have hlt:=vH (n:=i.natAbs);have hge:=Ki hm0;have hd1:1≤d:=by omega
 have hd2:d≤11:=by
  rcases fh d 12 with h | h
  ·omega
  have:2 ^ 64≤2 ^ i.natAbs.log2:=mq (by omega) (by omega);have e:(2:Nat) ^ 64=18446744073709551616:=by decide
  omega
 have hp:0<2 ^ d:=js (by omega);obtain⟨t,ht⟩:∃t,i.natAbs / 2 ^ d=t:=⟨_,rfl⟩;obtain⟨r,hr⟩:∃r,i.natAbs % 2 ^ d=r:=⟨_,rfl⟩;have mX:i.natAbs=t*2 ^ d+r:=by rw[← ht,← hr,qs];exact(xb _ _).symm
 have hrl:r<2 ^ d:=by rw[← hr];exact yN _ hp
 have ht1:4503599627370496≤t:=by
  rw[← ht,NU hp,← F5,← jE,← hd];exact hge
 have ht2:t<9007199254740992:=by
  rw[← ht,CX hp,← tX,← jE,show 53+d=i.natAbs.log2+1 by omega];exact hlt
 have e1:(t+1)*2 ^ d=t*2 ^ d+2 ^ d:=CV _ _;have hu1:=My;by_cases hmin:i=-9223372036854775808
 ·subst hmin;have e1:fl (-9223372036854775808)=(Ieee.double.word true ((11+1074)*4503599627370496+4503599627370496),0):=by kernel_rfl
  rw[e1];have hw:=EK true ((11+1074)*4503599627370496+4503599627370496) (by omega);have hm:=zW true ((11+1074)*4503599627370496+4503599627370496) (by omega);refine MA hw (by rw[hm];omega) ?_;rw[show ((Ieee.double.word true ((11+1074)*4503599627370496+4503599627370496),0):Nat×Nat).1=Ieee.double.word true ((11+1074)*4503599627370496+4503599627370496) from rfl,zV true 4503599627370496 11 (by omega) (by omega) (by omega),aw rfl,mV,← qx];rfl
 have xm:d≤10:=by
  rcases fh d 11 with h | h
  ·omega
  have:2 ^ 63≤2 ^ i.natAbs.log2:=mq (by omega) (by omega);have e:(2:Nat) ^ 63=9223372036854775808:=by decide
  omega
 by_cases hi:0≤i
 ·have e:i.toNat=i.natAbs:=by omega
  have hfl:fl i=(Ieee.double.word false ((d+1074)*4503599627370496+t),r):=by
   unfold fl;rw[aw hi,e,hsh,ht,hr,F6 false t d hd1 xm ht1 (by omega)]
  have iX:=zV false t d hd2 ht1 (by omega);have I_:=zV false (t+1) d hd2 (by omega) (by omega);rw[ai (by decide),mV] at iX I_;rw[hfl];have hw:=EK false ((d+1074)*4503599627370496+t) (by omega);have hm:=zW false ((d+1074)*4503599627370496+t) (by omega);refine⟨hw,by rw[hm];omega,?_,fun f hf=>?_⟩
  ·show sv (Ieee.double.word false ((d+1074)*4503599627370496+t))=_;rw[iX];congr 1;omega
  show sv f≤sv (Ieee.double.word false ((d+1074)*4503599627370496+t));rcases Int.lt_or_le (sv (Ieee.double.word false ((d+1074)*4503599627370496+t))) (sv f) with eO | hle
  ·rw[uY,Mz _ _ (by omega),ai (by decide)] at eO;have h3:¬ sv f<sv (Ieee.double.word false ((d+1074)*4503599627370496+(t+1))):=by
    rw[uY,Mz _ _ (by omega),ai (by decide)];omega
   rw[I_] at h3;have h4:i*(U1:Int)<(((t+1)*2 ^ d:Nat):Int)*(U1:Int):=FE (by omega) (by omega);omega
  exact hle
 obtain⟨u,hu⟩:∃u,(i.natAbs+(2 ^ d-1)) / 2 ^ d=u:=⟨_,rfl⟩;have hu2:u=if r=0 then t else t+1:=by
  rw[← hu,mX,show t*2 ^ d+r+(2 ^ d-1)=(r+(2 ^ d-1))+t*2 ^ d by omega,Nat.add_mul_div_right _ _ hp];split
  ·rw[Fw (by omega)];omega
  rw[Nat.div_eq_of_lt_le (k:=1) (by omega) (by omega)];omega
 have xo:t≤u∧u≤t+1:=by rw[hu2];split<;>omega
 have hfl:fl i=(Ieee.double.word true ((d+1074)*4503599627370496+u),u*2 ^ d-i.natAbs):=by
  unfold fl;rw[ai hi,hsh,hu,F6 true u d hd1 xm (by omega) (by omega)]
 have Ve:i.natAbs≤u*2 ^ d:=by
  rw[hu2];split
  ·rename_i h;rw[h] at mX;omega
  omega
 have iX:=zV true u d hd2 (by omega) (by omega);rw[aw rfl,mV,← qx] at iX;rw[hfl];by_cases rW:r=0
 ·have xo:u=t:=by rw[hu2,aw rW]
  rw[xo] at iX Ve ⊢;have hz:t*2 ^ d-i.natAbs=0:=by rw[mX,rW];omega
  rw[hz];have hw:=EK true ((d+1074)*4503599627370496+t) (by omega);have hm:=zW true ((d+1074)*4503599627370496+t) (by omega);exact MA hw (by rw[hm];omega) (by rw[show ((Ieee.double.word true ((d+1074)*4503599627370496+t),0):Nat×Nat).1=Ieee.double.word true ((d+1074)*4503599627370496+t) from rfl,iX];congr 1;omega)
 have xo:u=t+1:=by rw[hu2,ai rW]
 subst xo;have I_:=zV true t d hd2 (by omega) (by omega);rw[aw rfl,mV,← qx] at I_;have hw:=EK true ((d+1074)*4503599627370496+(t+1)) (by omega);have hm:=zW true ((d+1074)*4503599627370496+(t+1)) (by omega);refine⟨hw,by rw[hm];omega,?_,fun f hf=>?_⟩
 ·show sv (Ieee.double.word true ((d+1074)*4503599627370496+(t+1)))=_;rw[iX];congr 1;simp only;omega
 show sv f≤sv (Ieee.double.word true ((d+1074)*4503599627370496+(t+1)));rcases Int.lt_or_le (sv (Ieee.double.word true ((d+1074)*4503599627370496+(t+1)))) (sv f) with eO | hle
 ·rw[uY,Mz _ _ (by omega),aw rfl] at eO;have h3:¬ sv f<sv (Ieee.double.word true ((d+1074)*4503599627370496+t)):=by
   rw[uY,Mz _ _ (by omega),aw rfl];omega
  rw[I_] at h3;have h4:i*(U1:Int) < -((t*2 ^ d:Nat):Int)*(U1:Int):=FE (by omega) (by omega);omega
 exact hle
theorem R9(neg:Bool)(aN:Nat)(h:aN.log2≤52∨∃t d,1≤d∧d≤10∧4503599627370496≤t∧t≤9007199254740992∧aN=t*2 ^ d)(hr:aN≤9223372036854775808)(hn:neg=false→aN<9223372036854775808) :
 Ieee.double.nearest neg aN 0<18446744073709551616∧Ieee.double.nearest neg aN 0 % 9223372036854775808<9218868437227405312 ∧
 sv (Ieee.double.nearest neg aN 0)=(if neg then -(aN:Int) else (aN:Int))*(U1:Int)∧floatToIntVal .f64 (Ieee.double.nearest neg aN 0) .i64=some (if neg then -(aN:Int) else (aN:Int)):=by
 by_cases h0:aN=0
 ·subst h0;have e:Ieee.double.nearest neg 0 0=Ieee.double.word neg 0:=by unfold Format.nearest;rw[aw rfl]
  rw[e];refine⟨EK _ _ (by omega),by rw[zW _ _ (by omega)];omega,by rw[R8 _ _ (by omega),R6];cases neg<;>simp,?_⟩;have hr:Ieee.double.read (Ieee.double.word neg 0)=.number neg 0 (-1074):=by cases neg<;>decide
  exact Dh hr (by cases neg<;>decide) (by cases neg<;>simp) (by cases neg<;>simp)
 by_cases hL:aN.log2≤52
 ·obtain⟨a1,a2,-,-⟩:=Vd neg aN h0 hL _ rfl _ rfl;have hs:=ZY neg aN h0 hL;have hlt:=vH (n:=aN);have hp:0<2 ^ (52-aN.log2):=js (by omega);have hb:aN*2 ^ (52-aN.log2)<9007199254740992:=by
   have:=vI hlt hp;rwa [← jE,show aN.log2+1+(52-aN.log2)=53 by omega,tX] at this
  have hm:=zW neg ((aN.log2+1022)*4503599627370496+aN*2 ^ (52-aN.log2)) (by omega);refine⟨a1,by rw[F4 _ _ h0 hL,hm];omega,?_,a2⟩;rw[hs,mV]
  cases neg
  ·simp only[lI,iN]
  simp only[iD];rw[qx]
 obtain⟨t,d,hd1,hd2,ht1,ht2,rfl⟩:=h.resolve_left hL;rw[F6 neg t d hd1 hd2 ht1 ht2];have hs:=zV neg t d (by omega) ht1 ht2;have hm:=zW neg ((d+1074)*4503599627370496+t) (by omega);obtain⟨-,v2,v3,v4⟩:=F7 neg t d hd2 ht1 ht2 hr _ rfl _ rfl;refine⟨v2,by rw[hm];omega,?_,?_⟩
 ·rw[hs,mV]
  cases neg
  ·simp only[lI,iN]
  simp only[iD];rw[qx]
 cases neg
 ·simp only[lI,iN];exact((v4 rfl).2 (hn rfl)).1
 simp only[iD];exact(v3 rfl).1
theorem ahM(m q:Nat):Toward.down.cut false m q*2 ^ q≤m∧m<(Toward.down.cut false m q+1)*2 ^ q:=by
 have hc:Toward.down.cut false m q=m / 2 ^ q:=by
  unfold Toward.cut;simp only[Bool.false_and,AH,gf,F3];rcases fh (m.log2+2) q with hq | hq
  ·have:=vH (n:=m);rw[FH (by omega),Fw (df this (mq (by omega) (by omega))),Fw (df this (mq (by omega) (by omega)))]
  rw[qu (by omega)]
 have hp:0<2 ^ q:=js (by omega);rw[hc];exact⟨Nat.div_mul_le_self _ _,by rw[CV];have:=xb m (2 ^ q);have:=yN m hp;rw[qs];omega⟩
theorem ahN(m q:Nat):m≤Toward.down.cut true m q*2 ^ q∧Toward.down.cut true m q*2 ^ q<m+2 ^ q:=by
 have hp:0<2 ^ q:=js (by omega);by_cases hq:m.log2+2<q
 ·have hlt:=vH (n:=m);have h1:m<2 ^ (m.log2+2):=df hlt (mq (by omega) (by omega));have h2:m<2 ^ q:=df hlt (mq (by omega) (by omega));have hc:Toward.down.cut true m q=(m != 0).toNat:=by
   unfold Toward.cut;simp only[rN,F3,FH (show m.log2+2≤q by omega)];rw[Fw h1,Nat.mod_eq_of_lt h1,dY]
  rw[hc];by_cases h0:m=0
  ·subst h0;simp;exact hp
  have:(m != 0)=true:=by simpa using h0
  rw[this];simp only[Kj,rO];omega
 have hc:Toward.down.cut true m q=m / 2 ^ q+(m % 2 ^ q != 0).toNat:=by
  unfold Toward.cut;simp only[rN,F3,qu (show q≤m.log2+2 by omega)]
 rw[hc,mn];have h1:=xb m (2 ^ q);have h2:=yN m hp;rw[qs] at h1;by_cases h0:m % 2 ^ q=0
 ·have:(m % 2 ^ q != 0)=false:=by simp[h0]
  rw[this];simp only[AH,Nat.zero_mul];omega
 have:(m % 2 ^ q != 0)=true:=by simpa using h0
 rw[this];simp only[Kj,rO];omega
def mQ(f:Nat):Nat:=Ieee.double.write ((Ieee.double.read f).integral .down)
theorem R_(c:Nat)(h:c<9007199254740992):c.log2≤52:=by
 by_cases h0:c=0
 ·subst h0;decide
 have:=(Nat.log2_lt h0 (k:=53)).2 (by rw[tX];exact h);omega
theorem ahO(f:Nat)(hf:f<18446744073709551616)(fin:f % 9223372036854775808<9218868437227405312)(hlo:-9223372036854775808*(U1:Int)≤sv f)(hhi:sv f<9223372036854775808*(U1:Int)) :
 ∃k:Int,mQ f<18446744073709551616∧mQ f % 9223372036854775808<9218868437227405312∧sv (mQ f)=k*(U1:Int)∧floatToIntVal .f64 (mQ f) .i64=some k∧k*(U1:Int)≤sv f∧sv f<(k+1)*(U1:Int):=by
 have hu:=My;obtain⟨m,p,h1,h2,h3,h4,h5⟩:=I8 hf fin;have iX:=Mw hf;rw[← h3] at iX;generalize decide (9223372036854775808≤f)=s at h1 iX;unfold mQ;rw[h1];unfold Datum.integral;simp only;unfold Format.write;simp only;rcases Int.lt_or_le p 0 with hp | hp
 ·obtain⟨q,rfl⟩:∃q:Nat,p=-(q:Int):=⟨(-p).toNat,by omega⟩;have e1:(-(q:Int)).toNat=0:=by omega
  have e2:(- -(q:Int)).toNat=q:=by omega
  rw[e1,e2,NR];obtain⟨P,hP⟩:∃P,2 ^ (-(q:Int)+1074).toNat=P:=⟨_,rfl⟩;have ZZ:0<P:=by rw[← hP];exact js (by omega)
  have hU:U1=2 ^ q*P:=by rw[← hP,← jE,I9 _ (by omega)]
  rw[hP] at iX;have hq:2 ^ 1≤2 ^ q:=mq (by omega) (by omega)
  cases s
  ·have hc:=ahM m q;obtain⟨c,hcc⟩:∃c,Toward.down.cut false m q=c:=⟨_,rfl⟩;rw[hcc] at hc ⊢;have hc2:c<9007199254740992:=by
    rcases fh c 9007199254740992 with h | h
    ·exact h
    have:=Nat.mul_le_mul h hq;omega
   obtain⟨w1,w2,w3,w4⟩:=R9 false c (.inl (R_ c hc2)) (by omega) (fun _=>by omega);simp only[lI,iN] at w3 w4 iX;refine⟨c,w1,w2,w3,w4,?_,?_⟩
   ·rw[iX,hU,← mV];have:=iB P hc.1;rw[vJ] at this;omega
   rw[iX,hU];have:=vI hc.2 ZZ;rw[vJ] at this;have e:((c:Int)+1)*((2 ^ q*P:Nat):Int)=(((c+1)*(2 ^ q*P):Nat):Int):=by rw[mV];rfl
   rw[e];omega
  have hc:=ahN m q;obtain⟨c,hcc⟩:∃c,Toward.down.cut true m q=c:=⟨_,rfl⟩;rw[hcc] at hc ⊢;have hc2:c<9007199254740992:=by
   rcases fh c 9007199254740992 with h | h
   ·exact h
   have h3:=iB (2 ^ q) h;have:9007199254740991*2 ^ q+2 ^ q=9007199254740992*2 ^ q:=by omega
   have:=Nat.mul_le_mul_left 9007199254740991 hq;omega
  obtain⟨w1,w2,w3,w4⟩:=R9 true c (.inl (R_ c hc2)) (by omega) (fun h=>by cases h);simp only[iD] at w3 w4 iX;refine⟨-(c:Int),w1,w2,w3,w4,?_,?_⟩
  ·rw[iX,hU,qx,← mV];have:=iB P hc.1;rw[vJ] at this;omega
  rw[iX,hU,Int.add_mul,qx,← mV,Int.one_mul];have:=vI hc.2 ZZ;rw[vJ,mn] at this;omega
 obtain⟨d,rfl⟩:∃d:Nat,p=(d:Int):=⟨p.toNat,by omega⟩;have e1:((d:Int)).toNat=d:=by omega
 have e2:(-(d:Int)).toNat=0:=by omega
 have e3:((d:Int)+1074).toNat=d+1074:=by omega
 have hm:=h5 (by omega);rw[e1,e2,Ot,yM];rw[e3,jE,← vJ,I9 _ rfl,mV] at iX;obtain⟨x,hx⟩:∃x,m*2 ^ d=x:=⟨_,rfl⟩;rw[hx] at iX ⊢;have hx1:x≤9223372036854775808:=by
  cases s
  ·simp only[lI,iN] at iX;rw[iX] at hhi;have:=Int.lt_of_mul_lt_mul_right hhi (by omega);omega
  simp only[iD] at iX;rw[iX,← qx] at hlo;have:=Int.le_of_mul_le_mul_right hlo (by omega);omega
 have hx2:s=false→x<9223372036854775808:=by
  intro e;subst e;simp only[lI,iN] at iX;rw[iX] at hhi;have:=Int.lt_of_mul_lt_mul_right hhi (by omega);omega
 have hd:d≤11:=by
  rcases fh d 12 with h | h
  ·omega
  have h6:2 ^ 12≤2 ^ d:=mq (by omega) h;have h7:=Nat.mul_le_mul hm h6;have e12:(2:Nat) ^ 12=4096:=by decide
  rw[hx] at h7;omega
 have hform:x.log2≤52∨∃t d,1≤d∧d≤10∧4503599627370496≤t∧t≤9007199254740992∧x=t*2 ^ d:=by
  by_cases hd0:d=0
  ·subst hd0;refine .inl (R_ x ?_);rw[← hx];simp;omega
  by_cases ahP:d=11
  ·subst ahP;have e11:(2:Nat) ^ 11=2048:=by decide
   refine .inr ⟨9007199254740992,10,by omega,by omega,by omega,by omega,?_⟩;have e10:(2:Nat) ^ 10=1024:=by decide
   omega
  exact .inr ⟨m,d,by omega,by omega,hm,by omega,hx.symm⟩
 obtain⟨w1,w2,w3,w4⟩:=R9 s x hform hx1 hx2;refine⟨_,w1,w2,w3,w4,?_,?_⟩
 ·rw[iX];cases s
  ·simp only[lI,iN];omega
  simp only[iD];rw[qx];omega
 rw[iX];cases s
 ·simp only[lI,iN];rw[Int.add_mul,Int.one_mul];omega
 simp only[iD];rw[Int.add_mul,qx,Int.one_mul];omega
end
section
open Ieee Go
def sg(a b:Int):Int:=if a<b then -1 else if b<a then 1 else 0
theorem nO{a b:Int}(h:a<b):sg a b=-1:=by unfold sg;rw[aw h]
theorem oC{a b:Int}(h:b<a):sg a b=1:=by unfold sg;rw[ai (by omega),aw h]
theorem jV{a b:Int}(h:a=b):sg a b=0:=by unfold sg;rw[ai (by omega),ai (by omega)]
noncomputable def tq(i:Int)(f:Nat):Int:=if i*(U1:Int)<sv f then -1 else if sv f<i*(U1:Int) then 1 else if f=9223372036854775808 then 1 else -1
noncomputable def dw(k:Int)(n:Nat)(k':Int)(n':Nat):Int:=
 if k=3 then (if k'=3 then sg (i64 n) (i64 n') else if dt n'=true then 1 else tq (i64 n) n')
 else if dt n=true then (if k'=3 then -1 else if dt n'=true then sg n n' else -1)
 else if k'=3 then -(tq (i64 n') n)
 else if dt n'=true then 1
 else if sv n<sv n' then -1 else if sv n'<sv n then 1 else sg ((n' / 9223372036854775808:Nat):Int) ((n / 9223372036854775808:Nat):Int)
def dM(a b:Int):Int:=if a=0 then b else a
def wR:List Int→Int
 | []=>0
 | x::r=>dM x (wR r)
def cls(k:Int):Int:=if k=4 then 3 else k
namespace V
noncomputable def cmp:V→V→Int
 | mk k n b l f,mk k' n' b' l' f' =>
  if cls k≠cls k' then sg (cls k) (cls k')
  else if k=2 then sg n n'
  else if k=3∨k=4 then dw k n k' n'
  else if k=5∨k=6 then Lib.compareBytes b b'
  else dM (dM (wR (((l.attach).zip l').map fun p=>cmp p.1.1 p.2)) (wR (((f.attach).zip f').map fun p=>dM (Lib.compareBytes p.1.1.1.data.toList p.2.1.data.toList) (cmp p.1.1.2 p.2.2)))) (sg ((l.length+f.length:Nat):Int) ((l'.length+f'.length:Nat):Int))
termination_by v=>SizeOf.sizeOf v
decreasing_by
 ·exact rR p.1.2
 exact rS p.1.2
noncomputable def cmpL(l l':List V):Int:=wR ((l.zip l').map fun p=>cmp p.1 p.2)
noncomputable def rB(x y:ByteArray×V):Int:=dM (Lib.compareBytes x.1.data.toList y.1.data.toList) (cmp x.2 y.2)
noncomputable def l_(f f':List (ByteArray×V)):Int:=wR ((f.zip f').map fun p=>rB p.1 p.2)
theorem Z0{α β γ:Type}(g:α→β→γ)(l:List α)(l':List β):((l.attach.zip l').map fun p=>g p.1.1 p.2)=(l.zip l').map fun p=>g p.1 p.2:=by
 have h:l.zip l'=(l.attach.map Subtype.val).zip l':=by rw[List.attach_map_subtype_val]
 rw[h,List.zip_map_left,lG];rfl
theorem zX(k:Int)(n:Nat)(b:List UInt8)(l:List V)(f:List (ByteArray×V))(k':Int)(n':Nat)(b':List UInt8)(l':List V)(f':List (ByteArray×V)):cmp (mk k n b l f) (mk k' n' b' l' f') =
 if cls k≠cls k' then sg (cls k) (cls k')
 else if k=2 then sg n n'
 else if k=3∨k=4 then dw k n k' n'
 else if k=5∨k=6 then Lib.compareBytes b b'
 else dM (dM (cmpL l l') (l_ f f')) (sg ((l.length+f.length:Nat):Int) ((l'.length+f'.length:Nat):Int)):=by
 rw[cmp];have e1:(((l.attach).zip l').map fun p=>cmp p.1.1 p.2)=(l.zip l').map fun p=>cmp p.1 p.2:=Z0 cmp l l'
 have e2:(((f.attach).zip f').map fun p=>dM (Lib.compareBytes p.1.1.1.data.toList p.2.1.data.toList) (cmp p.1.1.2 p.2.2))=(f.zip f').map fun p=>rB p.1 p.2:=Z0 rB f f'
 rw[e1,e2];rfl
end V
def Diff(c:Int)(a b:List UInt8):Prop:=∃p x y a' b',a=p++x::a'∧b=p++y::b'∧x≠y∧c=sg (x.toNat:Int) (y.toNat:Int)
theorem Diff.right{c:Int}{a b:List UInt8}(h:Diff c a b)(r s:List UInt8):Diff c (a++r) (b++s):=by
 obtain⟨p,x,y,a',b',rfl,rfl,h1,h2⟩:=h;exact⟨p,x,y,a'++r,b'++s,by simp,by simp,h1,h2⟩
theorem Diff.left{c:Int}{a b:List UInt8}(h:Diff c a b)(q:List UInt8):Diff c (q++a) (q++b):=by
 obtain⟨p,x,y,a',b',rfl,rfl,h1,h2⟩:=h;exact⟨q++p,x,y,a',b',by simp,by simp,h1,h2⟩
theorem Diff.cons{c:Int}{a b:List UInt8}(h:Diff c a b)(q:UInt8):Diff c (q::a) (q::b):=h.left [q]
theorem Diff.here{x y:UInt8}(h:x≠y)(a b:List UInt8):Diff (sg (x.toNat:Int) (y.toNat:Int)) (x::a) (y::b):=⟨[],x,y,a,b,rfl,rfl,h,rfl⟩
theorem toNat_ne{x y:UInt8}(h:x≠y):x.toNat≠y.toNat:=fun e=>h (tF.1 e)
theorem ahQ(a b:Int):sg b a=-(sg a b):=by
 unfold sg;repeat' split
 all_goals omega
theorem Z4{a b:Int}(h:a≠b):sg a b≠0:=by
 unfold sg;repeat' split
 all_goals omega
theorem ahR(a b:Int):sg a b=-1∨sg a b=0∨sg a b=1:=by
 unfold sg;repeat' split
 all_goals omega
theorem Diff.swap{c:Int}{a b:List UInt8}(h:Diff c a b):Diff (-c) b a:=by
 obtain⟨p,x,y,a',b',rfl,rfl,h1,rfl⟩:=h;exact⟨p,y,x,b',a',rfl,rfl,fun e=>h1 e.symm,(ahQ _ _).symm⟩
theorem Diff.xB{c:Int}{a b:List UInt8}(h:Diff c a b):c≠0:=by
 obtain⟨p,x,y,a',b',rfl,rfl,h1,rfl⟩:=h;have:=toNat_ne h1;exact Z4 (by omega)
theorem DJ(p a b:List UInt8):Lib.compareBytes (p++a) (p++b)=Lib.compareBytes a b:=by
 induction p with
 | nil=>rfl
 | cons x p ih=>rw[CL,CL,Lib.compareBytes,ai (by simp),ai (by simp),ih]
theorem Diff.cmp{c:Int}{a b:List UInt8}(h:Diff c a b):Lib.compareBytes a b=c:=by
 obtain⟨p,x,y,a',b',rfl,rfl,h1,rfl⟩:=h;rw[DJ,Lib.compareBytes];have:=toNat_ne h1;simp only[AJ];by_cases h:x.toNat<y.toNat
 ·rw[aw h,nO (by omega)]
 rw[ai h,aw (show y.toNat<x.toNat by omega),oC (by omega)]
theorem Diff.uniq{c c':Int}{a b:List UInt8}(h:Diff c a b)(h':Diff c' a b):c=c':=h.cmp.symm.trans h'.cmp
theorem Diff.irrefl{c:Int}{a:List UInt8}(h:Diff c a a):False:=by
 obtain⟨p,x,y,a',b',e1,e2,h1,rfl⟩:=h;rw[e1] at e2;have:=List.append_cancel_left e2;injection this with h _;exact h1 h
theorem MC(x:UInt8):(jw x).toNat=255-x.toNat:=by unfold jw;exact za _ (by have:=x.toNat_lt;omega)
theorem ahS{x y:UInt8}(h:x≠y):jw x≠jw y:=by
 intro e;have:=cT UInt8.toNat e;rw[MC,MC] at this;have h1:=x.toNat_lt;have h2:=y.toNat_lt;have:=toNat_ne h;omega
theorem Diff.flip{c:Int}{a b:List UInt8}(h:Diff c a b):Diff (-c) (a.map jw) (b.map jw):=by
 obtain⟨p,x,y,a',b',rfl,rfl,h1,rfl⟩:=h;refine⟨p.map jw,jw x,jw y,a'.map jw,b'.map jw,by simp,by simp,ahS h1,?_⟩;rw[MC,MC];have h1:=x.toNat_lt;have h2:=y.toNat_lt;unfold sg
 repeat' split
 all_goals omega
theorem Z5(k a:Nat):be k (a % 256 ^ k)=be k a:=by
 unfold be j5;congr 1;refine List.map_congr_left fun i hi=>?_
 have hik:i<k:=Kp.1 hi;apply tF.1;rw[Au,Au];have e:256 ^ k=256 ^ i*256 ^ (k-i):=by rw[← jE,show i+(k-i)=k by omega]
 rw[e,Nat.mod_mul_right_div_self];have e2:256 ^ (k-i)=256*256 ^ (k-i-1):=by rw[qs,← vE,show (k-i-1).succ=k-i by omega]
 show a / 256 ^ i % 256 ^ (k-i) % 256=a / 256 ^ i % 256;rw[e2,Nat.mod_mul_right_mod]
theorem EL:∀(k a b:Nat),a<256 ^ k→b<256 ^ k→a<b→Diff (-1) (be k a) (be k b)
 | 0,a,b,ha,hb,h=>by simp at ha hb;omega
 | k+1,a,b,ha,hb,h=>by
  rw[ZR,ZR];have hp:0<256 ^ k:=js (by omega);have h1:a / 256 ^ k<256:=by rw[CX hp,qs,← vE];exact ha
  have h2:b / 256 ^ k<256:=by rw[CX hp,qs,← vE];exact hb
  have hle:a / 256 ^ k≤b / 256 ^ k:=Nat.div_le_div_right (by omega);have ea:=xb a (256 ^ k);have eb:=xb b (256 ^ k);by_cases he:a / 256 ^ k=b / 256 ^ k
  ·rw[he];have hm:a % 256 ^ k<b % 256 ^ k:=by rw[he] at ea;omega
   have ih:=EL k (a % 256 ^ k) (b % 256 ^ k) (yN _ hp) (yN _ hp) hm;rw[Z5,Z5] at ih;exact ih.cons _
  have hlt:a / 256 ^ k<b / 256 ^ k:=by omega
  have e1:(UInt8.ofNat (a / 256 ^ k)).toNat=a / 256 ^ k:=za _ h1;have e2:(UInt8.ofNat (b / 256 ^ k)).toNat=b / 256 ^ k:=za _ h2;have hd:=Diff.here (x:=UInt8.ofNat (a / 256 ^ k)) (y:=UInt8.ofNat (b / 256 ^ k)) (fun e=>by have:=cT UInt8.toNat e;omega) (be k a) (be k b);rw[e1,e2,nO (by omega)] at hd;exact hd
theorem ahT(k a b:Nat)(ha:a<256 ^ k)(hb:b<256 ^ k)(h:a≠b):Diff (sg a b) (be k a) (be k b):=by
 rcases fh a b with h1 | h1
 ·rw[nO (by omega)];exact EL k a b ha hb h1
 rw[oC (by omega)];have:=(EL k b a hb ha (by omega)).swap;simpa using this
theorem MD:(256:Nat) ^ 8=18446744073709551616:=by decide
theorem Sa{n:Nat}(hn:n<18446744073709551616):dt n=decide (9218868437227405312<n % 9223372036854775808):=by
 unfold dt;by_cases h:9218868437227405312<n % 9223372036854775808
 ·rw[ahL h,bW h];rfl
 rw[Mx hn hn (by omega) (by omega),yX rfl,bX h];rfl
theorem Ja{a b:Nat}(ha:a<18446744073709551616)(hb:b<18446744073709551616)(h:sm a<sm b):fq a<fq b:=by
 unfold sm at h;unfold fq
 repeat' split
 all_goals (repeat' split at h)
 all_goals omega
theorem ME{a b:Nat}(ha:a<18446744073709551616)(hb:b<18446744073709551616)(h:sm a=sm b)(hne:a≠b):(a=9223372036854775808∧b=0)∨(a=0∧b=9223372036854775808):=by
 unfold sm at h
 repeat' split at h
 all_goals omega
theorem Jb{a b:Nat}(ha:a<18446744073709551616)(hb:b<18446744073709551616)(hlt:fq a<fq b):Diff (-1) (be 8 (fq a)) (be 8 (fq b)):=
 EL 8 _ _ (by rw[MD];exact AY a ha) (by rw[MD];exact AY b hb) hlt
theorem MF{a b:Nat}(ha:a<18446744073709551616)(hb:b<18446744073709551616)(hlt:fq b<fq a):Diff 1 (be 8 (fq a)) (be 8 (fq b)):=by
 have:=(Jb hb ha hlt).swap;simpa using this
theorem ahU:sv 9223372036854775808=0:=by unfold sv;rw[ai (by omega)];decide
theorem Sc:fq 9223372036854775808<fq 0:=by decide
theorem ahV(i:Int)(h:0≤i):(fl i).1<9223372036854775808:=by
 unfold fl;rw[aw h];show Ieee.double.nearest false _ 0<_;unfold Format.nearest;split
 ·unfold Format.word;simp
 unfold Format.word;simp only[lI,iN,AU];exact Nat.lt_of_le_of_lt (Nat.min_le_right _ _) (by omega)
theorem EM{i j:Int}(h:i<j):i*(U1:Int)<j*(U1:Int):=FE h (by have:=My;omega)
theorem Z6{i j:Int}(h:i*(U1:Int)=j*(U1:Int)):i=j:=by
 rcases qw i j with h1 | h1 | h1
 ·have:=EM h1;omega
 ·exact h1
 have:=EM h1;omega
theorem Sd(i:Int)(h1:-9223372036854775808≤i)(h2:i≤9223372036854775807):(fl i).1≠9223372036854775808:=by
 intro e;by_cases h:0≤i
 ·have:=ahV i h;omega
 have hu:=MB i h1 h2;have hv:=hu.val;rw[e,ahU] at hv;have:=Z6 (i:=0) (j:=i-((fl i).2:Int)) (by rw[Int.zero_mul];exact hv);omega
theorem Z7(a b:Nat)(ha:a<18446744073709551616)(hb:b<18446744073709551616)(h:i64 a<i64 b):Diff (-1) (mZ a) (mZ b):=by
 have ra:=AX a ha;have rb:=AX b hb;have ua:=MB _ ra.1 ra.2;have ub:=MB _ rb.1 rb.2;have na:=Sd _ ra.1 ra.2;have nb:=Sd _ rb.1 rb.2;have sa:=(Di _ ra.1 ra.2).small;have sb:=(Di _ rb.1 rb.2).small;unfold mZ;generalize (fl (i64 a)).1=F at ua na ⊢;generalize (fl (i64 a)).2=r at ua sa ⊢;generalize (fl (i64 b)).1=G at ub nb ⊢;generalize (fl (i64 b)).2=s at ub sb ⊢;refine Diff.cons ?_ 1;have h1:sv F≤sv G:=ub.top F (by rw[ua.val];have:=EM h;have:(i64 a-(r:Int))*(U1:Int)≤i64 a*(U1:Int):=Kq (by omega) (by omega);omega);rcases Kr h1 with h1 | h1
 ·exact(Jb ua.bits ub.bits (Ja ua.bits ub.bits ((uY _ _).1 h1))).right _ _
 have hFG:F=G:=by
  refine tH fun hne=>?_
  rcases ME ua.bits ub.bits ((Mv _ _).1 h1) hne with ⟨e,_⟩ | ⟨_,e⟩
  ·exact na e
  exact nb e
 subst hFG;have e:=Z6 (ua.val.symm.trans ub.val);refine Diff.left (Diff.right (EL 2 r s (by omega) (by omega) (by omega)) _ _) _
theorem Z8(a f:Nat)(ha:a<18446744073709551616)(hf:f<18446744073709551616):Diff (tq (i64 a) f) (mZ a) (1::(be 8 (fq f)++[0,0,1])):=by
 have ra:=AX a ha;have ua:=MB _ ra.1 ra.2;have na:=Sd _ ra.1 ra.2;have sa:=(Di _ ra.1 ra.2).small;unfold mZ;generalize i64 a=i at ua na sa ra ⊢;generalize (fl i).1=F at ua na ⊢;generalize (fl i).2=r at ua sa ⊢;refine Diff.cons ?_ 1;have hle:sv F≤i*(U1:Int):=by rw[ua.val];exact Kq (by omega) (by omega)
 unfold tq;by_cases c1:i*(U1:Int)<sv f
 ·rw[aw c1];exact(Jb ua.bits hf (Ja ua.bits hf ((uY _ _).1 (by omega)))).right _ _
 rw[ai c1];have hfF:=ua.top f (by omega);by_cases c2:sv f<sv F
 ·have hd:=(MF ua.bits hf (Ja hf ua.bits ((uY _ _).1 c2)));rw[aw (by omega)];exact hd.right _ _
 have heq:sv f=sv F:=by omega
 by_cases c3:f=F
 ·subst c3;by_cases hr:r=0
  ·subst hr;have:sv f=i*(U1:Int):=by rw[ua.val];simp
   rw[ai (by omega),ai na];have e:(be 2 0++[0]:List UInt8)=[0,0]++[0]:=by decide
   rw[e];exact Diff.left (Diff.left (Diff.here (x:=0) (y:=1) (by decide) [] []) [0,0]) _
  have hlt:sv f<i*(U1:Int):=by rw[ua.val];exact EM (by omega)
  rw[aw hlt];have hd:=(EL 2 0 r (by omega) (by omega) (by omega)).swap;have e:be 2 0=[0,0]:=by decide
  rw[e] at hd;have:=(Diff.right hd [0] [1]).left (be 8 (fq f));simpa using this
 rcases ME hf ua.bits ((Mv _ _).1 heq) c3 with ⟨e1,e2⟩ | ⟨_,e⟩
 ·subst e1 e2;have hd:=(MF ua.bits hf Sc).right (be 2 r++[0]) [0,0,1];split
  ·exact hd
  rw[aw rfl];exact hd
 exact absurd e na
theorem ahW(a b:Nat)(ha:a<18446744073709551616)(hb:b<18446744073709551616)(hne:a≠b) :
 Diff (if sv a<sv b then -1 else if sv b<sv a then 1 else sg ((b / 9223372036854775808:Nat):Int) ((a / 9223372036854775808:Nat):Int)) (be 8 (fq a)++[0,0,1]) (be 8 (fq b)++[0,0,1]):=by
 by_cases c1:sv a<sv b
 ·rw[aw c1];exact(Jb ha hb (Ja ha hb ((uY _ _).1 c1))).right _ _
 rw[ai c1];by_cases c2:sv b<sv a
 ·rw[aw c2];exact(MF ha hb (Ja hb ha ((uY _ _).1 c2))).right _ _
 rw[ai c2];rcases ME ha hb ((Mv _ _).1 (by omega)) hne with ⟨e1,e2⟩ | ⟨e1,e2⟩
 ·subst e1 e2;exact(Jb ha hb Sc).right _ _
 subst e1 e2;exact(MF ha hb Sc).right _ _
def MG(k:Int)(n:Nat):List UInt8:=if k=3 then mZ n else kJ n
theorem ahX{a b:Nat}(ha:a<18446744073709551616)(hb:b<18446744073709551616)(h:i64 a=i64 b):a=b:=by
 unfold i64 at h
 repeat' split at h
 all_goals omega
theorem ahY(k k':Int)(a b:Nat)(hk:k=3∨k=4)(hk':k'=3∨k'=4)(ha:a<18446744073709551616)(hb:b<18446744073709551616) :
 (k=k'∧a=b∧dw k a k' b=0)∨Diff (dw k a k' b) (MG k a) (MG k' b):=by
 have h43:¬ (4:Int)=3:=by decide
 have hneg:sg 1 0=1:=by decide
 unfold dw MG;rcases hk with rfl | rfl
 ·simp only[iD];rcases hk' with rfl | rfl
  ·simp only[iD];rcases qw (i64 a) (i64 b) with h | h | h
   ·rw[nO h];exact .inr (Z7 a b ha hb h)
   ·exact .inl ⟨trivial,ahX ha hb h,jV h⟩
   rw[oC h];right;have:=(Z7 b a hb ha h).swap;simpa using this
  simp only[ai h43];right;unfold kJ
  by_cases hn:dt b=true
  ·simp only[aw hn];exact Diff.here (x:=1) (y:=0) (by decide) _ _
  simp only[ai hn];exact Z8 a b ha hb
 simp only[ai h43];unfold kJ
 by_cases hn:dt a=true
 ·simp only[aw hn];rcases hk' with rfl | rfl
  ·simp only[iD];right;exact Diff.here (x:=0) (y:=1) (by decide) _ _
  simp only[ai h43];by_cases hm:dt b=true
  ·simp only[aw hm];by_cases hab:a=b
   ·subst hab;exact .inl ⟨trivial,rfl,jV rfl⟩
   right;exact(ahT 8 a b (by rw[MD];exact ha) (by rw[MD];exact hb) hab).cons 0
  simp only[ai hm];right;exact Diff.here (x:=0) (y:=1) (by decide) _ _
 simp only[ai hn];rcases hk' with rfl | rfl
 ·simp only[iD];right;exact(Z8 b a hb ha).swap
 simp only[ai h43];by_cases hm:dt b=true
 ·simp only[aw hm];right;exact Diff.here (x:=1) (y:=0) (by decide) _ _
 simp only[ai hm];by_cases hab:a=b
 ·subst hab;refine .inl ⟨trivial,rfl,?_⟩;rw[ai (by omega),ai (by omega)];exact jV rfl
 right;exact(ahW a b ha hb hab).cons 1
theorem iR(b:Int):dM 0 b=b:=rfl
theorem nu{a:Int}(b:Int)(h:a≠0):dM a b=a:=by unfold dM;rw[ai h]
theorem GW:∀a:List UInt8,Lib.compareBytes a a=0
 | []=>rfl
 | x::a=>by rw[Lib.compareBytes,ai (by simp),ai (by simp),GW a]
theorem Sg:∀(a b:List UInt8),a≠b→Diff (Lib.compareBytes a b) (dC a) (dC b)
 | [],[],h=>absurd rfl h
 | [],y::b,_=>by
  have e:dC ([]:List UInt8)=[0,0]:=rfl;rw[e];unfold dC;rw[fY];split
  ·rename_i h;subst h;exact(Diff.here (x:=0) (y:=255) (by decide) [] _).cons 0
  rename_i h;have hy:0<y.toNat:=Fv (fun e=>h (tF.1 e));have:=Diff.here (x:=0) (y:=y) (fun e=>h e.symm) [0] (fY b++[0,0]);rw[show ((0:UInt8).toNat:Int)=0 from rfl,nO (by omega)] at this;exact this
 | x::a,[],_=>by
  have e:dC ([]:List UInt8)=[0,0]:=rfl;rw[e];unfold dC;rw[fY];split
  ·rename_i h;subst h;exact(Diff.here (x:=255) (y:=0) (by decide) _ []).cons 0
  rename_i h;have hy:0<x.toNat:=Fv (fun e=>h (tF.1 e));have:=Diff.here (x:=x) (y:=0) h (fY a++[0,0]) [0];rw[show ((0:UInt8).toNat:Int)=0 from rfl,oC (by omega)] at this;exact this
 | x::a,y::b,h=>by
  by_cases hxy:x=y
  ·subst hxy;have hab:a≠b:=fun e=>h (by rw[e])
   have ih:=Sg a b hab;have e:Lib.compareBytes (x::a) (x::b)=Lib.compareBytes a b:=DJ [x] a b;rw[e];unfold dC at ih ⊢;rw[fY,fY];split
   ·exact(ih.cons 255).cons 0
   exact ih.cons x
  have hc:Lib.compareBytes (x::a) (y::b)=sg (x.toNat:Int) (y.toNat:Int):=(Diff.here hxy a b).cmp;rw[hc];unfold dC;rw[fY,fY];by_cases hx:x=0
  ·subst hx;rw[aw rfl,ai (fun e=>hxy e.symm)];exact Diff.here hxy _ _
  rw[ai hx];by_cases hy:y=0
  ·subst hy;rw[aw rfl];exact Diff.here hxy _ _
  rw[ai hy];exact Diff.here hxy _ _
namespace V
def KD(u v:V):Prop:=(u=v∧cmp u v=0)∨Diff (cmp u v) u.key v.key
theorem Z9:∀(l l':List V),(∀x∈l,∀y∈l',KD x y) →
 (l=l'∧cmpL l l'=0)∨Diff (dM (cmpL l l') (sg (l.length:Int) (l'.length:Int))) ((l.map ek).flatten++[0]) ((l'.map ek).flatten++[0])
 | [],[],_=>.inl ⟨rfl,rfl⟩
 | [],y::l',_=>by
  right;have e:dM (cmpL [] (y::l')) (sg (([]:List V).length:Int) ((y::l').length:Int))=-1:=by
   show dM 0 _=_;rw[iR];exact nO (by simp)
  rw[e];exact Diff.here (x:=0) (y:=1) (by decide) [] _
 | x::l,[],_=>by
  right;have e:dM (cmpL (x::l) []) (sg ((x::l).length:Int) (([]:List V).length:Int))=1:=by
   show dM 0 _=_;rw[iR];exact oC (by simp)
  rw[e];exact Diff.here (x:=1) (y:=0) (by decide) _ []
 | x::l,y::l',h=>by
  have e:cmpL (x::l) (y::l')=dM (cmp x y) (cmpL l l'):=rfl;have k1:((x::l).map ek).flatten++[0]=1::(x.key++((l.map ek).flatten++[0])):=by simp[ek]
  have k2:((y::l').map ek).flatten++[0]=1::(y.key++((l'.map ek).flatten++[0])):=by simp[ek]
  rw[e,k1,k2];rcases h x vK y vK with ⟨rfl,h0⟩ | hd
  ·rw[h0,iR];rcases Z9 l l' (fun a ha b hb=>h a (tK _ ha) b (tK _ hb)) with ⟨rfl,h1⟩ | hd
   ·exact .inl ⟨rfl,h1⟩
   right;have e:sg ((x::l).length:Int) ((x::l').length:Int)=sg (l.length:Int) (l'.length:Int):=by unfold sg;simp
   rw[e];exact(hd.left x.key).cons 1
  right;rw[nu _ hd.xB,nu _ hd.xB];exact(hd.right _ _).cons 1
theorem toList_inj{a b:ByteArray}(h:a.data.toList=b.data.toList):a=b:=by
 cases a;cases b;simp at h;rw[h]
theorem Z_:∀(l l':List (ByteArray×V)),(∀x∈l,∀y∈l',KD x.2 y.2) →
 (l=l'∧l_ l l'=0)∨Diff (dM (l_ l l') (sg (l.length:Int) (l'.length:Int))) ((l.map eo).flatten++[0]) ((l'.map eo).flatten++[0])
 | [],[],_=>.inl ⟨rfl,rfl⟩
 | [],y::l',_=>by
  right;have e:dM (l_ [] (y::l')) (sg (([]:List (ByteArray×V)).length:Int) ((y::l').length:Int))=-1:=by
   show dM 0 _=_;rw[iR];exact nO (by simp)
  rw[e];exact Diff.here (x:=0) (y:=1) (by decide) [] _
 | x::l,[],_=>by
  right;have e:dM (l_ (x::l) []) (sg ((x::l).length:Int) (([]:List (ByteArray×V)).length:Int))=1:=by
   show dM 0 _=_;rw[iR];exact oC (by simp)
  rw[e];exact Diff.here (x:=1) (y:=0) (by decide) _ []
 | (s,x)::l,(t,y)::l',h=>by
  have e:l_ ((s,x)::l) ((t,y)::l')=dM (dM (Lib.compareBytes s.data.toList t.data.toList) (cmp x y)) (l_ l l'):=rfl;have k1:(((s,x)::l).map eo).flatten++[0]=1::(dC s.data.toList++(x.key++((l.map eo).flatten++[0]))):=by simp[eo]
  have k2:(((t,y)::l').map eo).flatten++[0]=1::(dC t.data.toList++(y.key++((l'.map eo).flatten++[0]))):=by simp[eo]
  rw[e,k1,k2];by_cases hst:s.data.toList=t.data.toList
  ·obtain rfl:=toList_inj hst;rw[GW,iR];rcases h (s,x) vK (s,y) vK with ⟨h00,h0⟩ | hd
   ·simp only at h00 h0;subst h00;rw[h0,iR];rcases Z_ l l' (fun a ha b hb=>h a (tK _ ha) b (tK _ hb)) with ⟨rfl,h1⟩ | hd
    ·exact .inl ⟨rfl,h1⟩
    right;have e:sg (((s,x)::l).length:Int) (((s,x)::l').length:Int)=sg (l.length:Int) (l'.length:Int):=by unfold sg;simp
    rw[e];exact((hd.left x.key).left (dC s.data.toList)).cons 1
   right;simp only at hd;rw[nu _ hd.xB,nu _ hd.xB];exact((hd.right _ _).left (dC s.data.toList)).cons 1
  right;have hd:=Sg _ _ hst;rw[nu (cmp x y) hd.xB,nu _ hd.xB,nu _ hd.xB];exact(hd.right _ _).cons 1
theorem aaa{x y:UInt8}{a b:List UInt8}{c:Int}(h:x≠y)(hc:c=sg (x.toNat:Int) (y.toNat:Int)):Diff c (x::a) (y::b):=hc ▸ Diff.here h a b
theorem ahZ{a b:Nat}(ha:a<256)(hb:b<256)(h:UInt8.ofNat a=UInt8.ofNat b):a=b:=by
 have:=cT UInt8.toNat h;rwa [za a ha,za b hb] at this
def hd(k:Int):UInt8:=if k=1 then 16 else if k=2 then 32 else if k=3 then 48 else if k=4 then 48 else if k=5 then 64 else if k=6 then 80 else if k=7 then 96 else 112
theorem aab{k:Int}{n:Nat}{b:List UInt8}{l:List V}{f:List (ByteArray×V)}(h:(mk k n b l f).formed=true):(1≤k∧k≤8)∧∃r,(mk k n b l f).key=hd k::r:=by
 rcases FQ h with h | ⟨n',hn',h⟩ | ⟨n',h⟩ | ⟨n',h⟩ | ⟨b',hb',h⟩ | ⟨b',h⟩ | ⟨l',hl',h⟩ | ⟨f',hf',hnd,h⟩<;>cases h<;>exact⟨by decide,_,by rw[zU];rfl⟩
theorem ah0{k k':Int}(h:1≤k∧k≤8)(h':1≤k'∧k'≤8)(hne:cls k≠cls k'):hd k≠hd k'∧sg (cls k) (cls k')=sg ((hd k).toNat:Int) ((hd k').toNat:Int):=by
 have a:k=1∨k=2∨k=3∨k=4∨k=5∨k=6∨k=7∨k=8:=by omega
 have b:k'=1∨k'=2∨k'=3∨k'=4∨k'=5∨k'=6∨k'=7∨k'=8:=by omega
 rcases a with rfl | rfl | rfl | rfl | rfl | rfl | rfl | rfl<;>rcases b with rfl | rfl | rfl | rfl | rfl | rfl | rfl | rfl<;>first | exact absurd rfl hne | exact⟨by decide,by decide⟩
theorem aac{k:Int}(hk:k=3∨k=4)(n:Nat):(mk k n [] [] []).key=48::MG k n:=by
 rcases hk with rfl | rfl
 ·rw[zU];rfl
 rw[zU];rfl
theorem Sh{k k':Int}(hk:k=3∨k=4)(hk':k'=3∨k'=4)(n n':Nat):cmp (mk k n [] [] []) (mk k' n' [] [] [])=dw k n k' n':=by
 rw[zX,ai,ai (by omega),aw hk];rcases hk with rfl | rfl<;>rcases hk' with rfl | rfl<;>decide
theorem ah1{k k':Int}(hk:k=3∨k=4)(hk':k'=3∨k'=4){n n':Nat}(ha:n<18446744073709551616)(hb:n'<18446744073709551616):KD (mk k n [] [] []) (mk k' n' [] [] []):=by
 unfold KD;rw[aac hk,aac hk',Sh hk hk'];rcases ahY k k' n n' hk hk' ha hb with ⟨rfl,rfl,h⟩ | h
 ·exact .inl ⟨rfl,h⟩
 exact .inr (h.cons 48)
theorem ah2{k:Int}(hk:k=5∨k=6)(b b':List UInt8):KD (mk k 0 b [] []) (mk k 0 b' [] []):=by
 have e:∀b,(mk k 0 b [] []).key=hd k::dC b:=by intro b;rcases hk with rfl | rfl<;>rw[zU]<;>rfl
 have c:cmp (mk k 0 b [] []) (mk k 0 b' [] [])=Lib.compareBytes b b':=by
  rw[zX,ai (by simp),ai (by omega),ai (by omega),aw hk]
 unfold KD;rw[e,e,c];by_cases h:b=b'
 ·subst h;exact .inl ⟨rfl,GW b⟩
 exact .inr ((Sg b b' h).cons _)
theorem GV(u:V):∀v:V,u.formed=true→u.fit→v.formed=true→v.fit→KD u v:=by
 induction u using V.ind with
 | h k n b l f hl hf =>
  intro v hu fu hv fv;obtain⟨k',n',b',l',f'⟩:=v;by_cases hcl:cls k≠cls k'
  ·obtain⟨r1,q1,e1⟩:=aab hu;obtain⟨r2,q2,e2⟩:=aab hv;obtain⟨h1,h2⟩:=ah0 r1 r2 hcl;right;rw[zX,aw hcl,e1,e2];exact aaa h1 h2
  have hcl:cls k=cls k':=tH hcl;have hu':=hu;have hv':=hv;rw[V.fit] at fu fv;rcases FQ hu with h | ⟨m,hm,h⟩ | ⟨m,h⟩ | ⟨m,h⟩ | ⟨m,hm,h⟩ | ⟨m,h⟩ | ⟨m,hm,h⟩ | ⟨m,hm,hnd,h⟩<;>cases h <;>
  rcases FQ hv with h | ⟨m',hm',h⟩ | ⟨m',h⟩ | ⟨m',h⟩ | ⟨m',hm',h⟩ | ⟨m',h⟩ | ⟨m',hm',h⟩ | ⟨m',hm',hnd',h⟩<;>cases h <;>
  first
  | exact absurd hcl (by decide)
  | exact ah1 (by decide) (by decide) fu.1 fv.1
  | exact ah2 (by decide) _ _
  | skip
  ·exact .inl ⟨rfl,by rw[zX];rfl⟩
  ·have e:∀n:Nat,(mk 2 n [] [] []).key=[32,UInt8.ofNat n]:=by intro n;rw[zU];rfl
   have c:cmp (mk 2 n [] [] []) (mk 2 n' [] [] [])=sg n n':=by rw[zX];rfl
   unfold KD;rw[e,e,c];by_cases h:n=n'
   ·subst h;exact .inl ⟨rfl,jV rfl⟩
   right;refine Diff.cons (aaa (fun e=>h (ahZ (by omega) (by omega) e)) ?_) 32;rw[za n (by omega),za n' (by omega)]
  ·have e:∀l:List V,(mk 7 0 [] l []).key=96::((l.map ek).flatten++[0]):=by intro l;rw[zU];rfl
   have c:cmp (mk 7 0 [] l []) (mk 7 0 [] l' [])=dM (cmpL l l') (sg (l.length:Int) (l'.length:Int)):=by
    rw[zX,ai (by simp),ai (by decide),ai (by decide),ai (by decide)];have:l_ [] []=0:=rfl;rw[this];simp only[bz,gf];congr 1;unfold dM;split<;>simp_all
   unfold KD;rw[e,e,c];rcases Z9 l l' (fun x hx y hy=>hl x hx y (hm x hx) (fu.2.1 x hx) (hm' y hy) (fv.2.1 y hy)) with ⟨rfl,h⟩ | h
   ·left;refine⟨rfl,?_⟩;rw[h,iR];exact jV rfl
   exact .inr (h.cons 96)
  have e:∀l:List (ByteArray×V),(mk 8 0 [] [] l).key=112::((l.map eo).flatten++[0]):=by intro l;rw[zU];rfl
  have c:cmp (mk 8 0 [] [] f) (mk 8 0 [] [] f')=dM (l_ f f') (sg (f.length:Int) (f'.length:Int)):=by
   rw[zX,ai (by simp),ai (by decide),ai (by decide),ai (by decide)];have:cmpL [] []=0:=rfl;rw[this,iR];simp only[bz,dY]
  unfold KD;rw[e,e,c];rcases Z_ f f' (fun x hx y hy=>hf x hx y.2 (hm x hx).2 (fu.2.2 x hx) (hm' y hy).2 (fv.2.2 y hy)) with ⟨rfl,h⟩ | h
  ·left;refine⟨rfl,?_⟩;rw[h,iR];exact jV rfl
  exact .inr (h.cons 112)
end V
end
abbrev ah3:=@Diff.here
abbrev tu:=@V.zX
section
open Go.RowKit
section
variable {P:Program} {ops:Array Oper} {a:Act}
theorem MH{S:World→Prop}{ty t:TypeId}{x:Operand}{d:Option Tmp}{p:String}{af:Array Edge}{g o:Nat}{c:Cv}{td:TypeDesc}(hu:P.underlying ty=some td)(hd:td.isRow=true)(hx:a.eval x=.pointer (some ⟨g,o,none⟩))(hi:(P.info? ty).map (·.size)=some 5)
 (hget:∀w,S w→∀j v,c.cells.toList[j]?=some v→w.cell? ⟨g,o+j,none⟩=some v):YieldsIf P ops S ⟨d,.load ty x,t,p,af,none⟩ c.agg a:=
 yieldsIf_load_mid (by simp[Region.wanted]) ty x rfl g o hx c.cells.toList td (fun w hS j v hv=>hget w hS j v hv) hu hd hi
end
section
variable {P:Program} {ops:Array Oper} {Q:Exit→Act→World→Prop} {a:Act} {w:World} {K:Act→World→Prop} {E:Prop}
theorem ah4(w:World)(g:Nat)(cs:Array Value):w.grownBy (w.setRow g cs) (some g):=
 ⟨rfl,rfl,rfl,by simp[World.setRow],fun k _ hk=>by
  have:¬ g=k:=fun e=>hk (by rw[e])
  simp[World.setRow,Ff,this]⟩
theorem Blk.ah5{w:World}{g:Nat}{t:TypeId}{cs:Array Value}(h:Blk w g t cs)(cs':Array Value):Blk (w.setRow g cs') g t cs':=by
 unfold Blk at h ⊢;simp[World.setRow,Ff,h]
theorem ah6{ty t:TypeId}{x y:Operand}{p:String}{af:Array Edge}{g n:Nat}{cells old:Array Value}(hx:a.eval x=.pointer (some ⟨g,0,none⟩))(hy:a.eval y=.agg cells)(hB:Blk w g ty old)(hi:(P.info? ty).map (·.size)=some n)
 (hold:old.size=n) (hn:cells.size=n) (h1:cells.all (·.oneCell')=true)
 (h:∀w',Blk w' g ty cells→w.grownBy w' (some g)→w'.heap.size=w.heap.size→K a w'):if Region.wanted ⟨none,.store ty x y,t,p,af,none⟩ (yielded ops a.tmps)=true then Oper.wp P ⟨none,.store ty x y,t,p,af,none⟩ a w K Q else E:=by
 rw[aw (by simp[Region.wanted])];exact wp_store_row ty x y rfl g cells hx hy ty old hB (by rw[hn];exact hi) (by omega) h1 (h _ (hB.ah5 cells) (ah4 w g cells) (by simp[World.setRow]))
end
abbrev MI(ck cl ch cx:Cv):Array Value:=#[.int .i64 ck.k,.int .u64 ck.n,.slice ck.aB ck.nB ck.cB,.slice ck.aL ck.nL ck.cL,.slice ck.aF ck.nF ck.cF,.int .i64 cl.k,.int .u64 cl.n,.slice cl.aB cl.nB cl.cB,.slice cl.aL cl.nL cl.cL,.slice cl.aF cl.nF cl.cF,.int .i64 ch.k,.int .u64 ch.n,.slice ch.aB ch.nB ch.cB,.slice ch.aL ch.nL ch.cL,.slice ch.aF ch.nF ch.cF,.int .i64 cx.k,.int .u64 cx.n,.slice cx.aB cx.nB cx.cB,.slice cx.aL cx.nL cx.cL,.slice cx.aF cx.nF cx.cF]
abbrev MJ:Array Value:=#[.int .i64 0,.int .u64 0,.slice none 0 0,.slice none 0 0,.slice none 0 0,.int .i64 0,.int .u64 0,.slice none 0 0,.slice none 0 0,.slice none 0 0,.int .i64 0,.int .u64 0,.slice none 0 0,.slice none 0 0,.slice none 0 0,.int .i64 0,.int .u64 0,.slice none 0 0,.slice none 0 0,.slice none 0 0]
theorem MK:(prog.info? 27).map (·.size)=some 5:=by kernel_rfl
theorem ah7:(prog.info? 85).map (·.size)=some 20:=by kernel_rfl
theorem ah8(ck cl ch cx:Cv):(MI ck cl ch cx).all (·.oneCell')=true:=by simp[MI,Value.oneCell']
theorem ah9{w:World}{g:Nat}{t:TypeId}{ck cl ch cx:Cv}{a b c d:V}(h:Blk w g t (MI ck cl ch cx))(h1:In w a ck)(h2:In w b cl)(h3:In w c ch)(h4:In w d cx):InL w (some ⟨g,0,none⟩) 4 [a,b,c,d]:=by
 have hlt:=h.lt;unfold InL In;rw[IsV];refine⟨rfl,rfl,rfl,rfl,rfl,by decide,by decide,by decide,by simp,by simp,by simp,by simp,by simp,by simp,⟨rfl,fun h=>by simp at h⟩,fun i hi=>?_,fun i hi=>by simp at hi⟩;have hi4:i<4:=hi;have QA:i=0∨i=1∨i=2∨i=3:=by omega
 rcases QA with rfl | rfl | rfl | rfl
 ·exact⟨g,0,ck,rfl,⟨⟨h.cell 0,ba _,hlt⟩,⟨h.cell 1,ba _,hlt⟩,⟨h.cell 2,ba _,hlt⟩,⟨h.cell 3,ba _,hlt⟩,⟨h.cell 4,ba _,hlt⟩⟩,h1⟩
 ·exact⟨g,0,cl,rfl,⟨⟨h.cell 5,ba _,hlt⟩,⟨h.cell 6,ba _,hlt⟩,⟨h.cell 7,ba _,hlt⟩,⟨h.cell 8,ba _,hlt⟩,⟨h.cell 9,ba _,hlt⟩⟩,h2⟩
 ·exact⟨g,0,ch,rfl,⟨⟨h.cell 10,ba _,hlt⟩,⟨h.cell 11,ba _,hlt⟩,⟨h.cell 12,ba _,hlt⟩,⟨h.cell 13,ba _,hlt⟩,⟨h.cell 14,ba _,hlt⟩⟩,h3⟩
 exact⟨g,0,cx,rfl,⟨⟨h.cell 15,ba _,hlt⟩,⟨h.cell 16,ba _,hlt⟩,⟨h.cell 17,ba _,hlt⟩,⟨h.cell 18,ba _,hlt⟩,⟨h.cell 19,ba _,hlt⟩⟩,h4⟩
def vX(w:World)(A:Option Addr)(l:List Rq):Prop:=∀i (hi:i<l.length),∃(bk o:Nat) (ck cl ch cx:Cv),A=some ⟨bk,o,none⟩∧bk<w.heap.size ∧
 (∀k v,(dm l[i].bj l[i].aA l[i].index l[i].path l[i].unique ck cl ch cx l[i].n)[k]?=some v→w.cell? ⟨bk,o+i*26+k,none⟩=some v)∧In w l[i].key ck∧In w l[i].low cl∧In w l[i].high ch∧In w l[i].doc cx
theorem vX.grow{w w':World}{A:Option Addr}{l:List Rq}(h:vX w A l)(hg:Grow w w'):vX w' A l:=fun i hi=>by
 obtain⟨bk,o,ck,cl,ch,cx,ha,hb,hc,h1,h2,h3,h4⟩:=h i hi;exact⟨bk,o,ck,cl,ch,cx,ha,df hb hg.size,fun k v hv=>(hg.below.cell (p:=⟨bk,_,none⟩) hb).trans (hc k v hv),h1.grow hg,h2.grow hg,h3.grow hg,h4.grow hg⟩
def rC(l:List Rq):Nat:=(l.map fun q=>([q.key,q.low,q.high,q.doc].map V.count).sum).sum
theorem aad(l:List Rq)(m:Nat)(h:m<l.length):rC (l.take (m+1))=rC (l.take m)+([l[m].key,l[m].low,l[m].high,l[m].doc].map V.count).sum:=De (fun q:Rq=>([q.key,q.low,q.high,q.doc].map V.count).sum) l m h
theorem aae(l:List Rq)(m:Nat):rC (l.take m)≤rC l:=AP (fun q:Rq=>([q.key,q.low,q.high,q.doc].map V.count).sum) l m
theorem ah_{l:List Rq}{q:Rq}(h:q∈l):q.key.count+q.low.count+q.high.count+q.doc.count≤rC l:=by
 obtain⟨i,hi,rfl⟩:=tG.1 h;have h1:=aad l i hi;have h2:=aae l (i+1);simp only[fH,pF,pG,CT] at h1;omega
theorem aaf:∀(l:List Rq),4*l.length≤rC l
 | []=>by simp[rC]
 | q::r=>by
  have ih:=aaf r;have h1:=AQ q.key;have h2:=AQ q.low;have h3:=AQ q.high;have h4:=AQ q.doc;simp only[rC,fH,pF,pG,CT,aT] at ih ⊢;omega
theorem aia{d n:Int}{c i p:ByteArray}{u:Bool}{ck cl ch cx:Cv}{j:Nat}{v:Value}(h:ck.cells.toList[j]?=some v):(dm d c i p u ck cl ch cx n)[5+j]?=some v:=by
 rcases j with _ | _ | _ | _ | _ | j
 ·exact h
 ·exact h
 ·exact h
 ·exact h
 ·exact h
 simp at h
theorem aib{d n:Int}{c i p:ByteArray}{u:Bool}{ck cl ch cx:Cv}{j:Nat}{v:Value}(h:cl.cells.toList[j]?=some v):(dm d c i p u ck cl ch cx n)[10+j]?=some v:=by
 rcases j with _ | _ | _ | _ | _ | j
 ·exact h
 ·exact h
 ·exact h
 ·exact h
 ·exact h
 simp at h
theorem aic{d n:Int}{c i p:ByteArray}{u:Bool}{ck cl ch cx:Cv}{j:Nat}{v:Value}(h:ch.cells.toList[j]?=some v):(dm d c i p u ck cl ch cx n)[15+j]?=some v:=by
 rcases j with _ | _ | _ | _ | _ | j
 ·exact h
 ·exact h
 ·exact h
 ·exact h
 ·exact h
 simp at h
theorem aid{d n:Int}{c i p:ByteArray}{u:Bool}{ck cl ch cx:Cv}{j:Nat}{v:Value}(h:cx.cells.toList[j]?=some v):(dm d c i p u ck cl ch cx n)[20+j]?=some v:=by
 rcases j with _ | _ | _ | _ | _ | j
 ·exact h
 ·exact h
 ·exact h
 ·exact h
 ·exact h
 simp at h
theorem aie(l:List Rq)(A:Option Addr)(cap:Nat)(w:World)(hq:vX w A l)(hl:l.length≤140737488355328) :
 Calls prog 16 #[.slice A l.length cap] w fun e w'=>e=.returned (.bool (decide (20000≤rC l)))∧Grow w w':=by
 have HQ:=aa hq;clear hq;go_enter func16,ntmps16;go_wp2_with fail;go_loopg [3,4] (l.length+1) (fun gk t i wr=>∃(m:Nat) (T:Int),m≤l.length∧gk+m=l.length+1∧i=.int .i64 m∧t=.int .i64 T∧1≤T∧T≤20000∧T+(rC (l.take m):Nat)=20000∧Grow w wr);exact⟨0,20000,by omega,by omega,rfl,rfl,by omega,by omega,by simp[rC],ah w⟩;rename World=>w1;obtain⟨m,T,hm,hg,rfl,rfl,hT0,FW,qG,hw⟩:=hrel;have rD:=aa hw;have gh:=aa qG;clear qG;obtain⟨gk0,rfl⟩:∃g,gk=g+1:=⟨gk-1,by omega⟩;by_cases jn:m<l.length
 ·have h1:=aad l m jn;have h2:=aae l (m+1);rw[h1] at h2;have hqm:=HQ.o.grow hw m jn;obtain⟨q,hqq⟩:∃q,l[m]=q:=⟨_,rfl⟩;rw[hqq] at hqm h1 h2;obtain⟨g,o,ck,cl,ch,cx,rfl,hgl,hcell,h3,h4,h5,h6⟩:=hqm;have Si:=aa h2;have HQT:=aa h1;have HC:=aa (fun(w':World) (hg':Grow w1 w') k v (hv:(dm q.bj q.aA q.index q.path q.unique ck cl ch cx q.n)[k]?=some v)=>(hg'.below.cell (p:=⟨g,o+m*26+k,none⟩) hgl).trans (hcell k v hv));have H1:=aa h3;have H2:=aa h4;have H3:=aa h5;have H4:=aa h6;clear h1 h2 h3 h4 h5 h6 hcell hqq hw;go_wp2_with fail;refine dN ?_;refine dO (S:=fun W=>∀k v,(dm q.bj q.aA q.index q.path q.unique ck cl ch cx q.n)[k]?=some v→W.cell? ⟨g,o+m*26+k,none⟩=some v) (by kernel_rfl) (HC.o _ (ah _).drew) (fun hHeld=>?_)
  refine aj 0 ?_;refine aj 1 ?_;refine aj 2 ?_;refine aj 3 ?_;refine mr (i:=4) (v:=ck.agg) (by simp only[pJ,pK,pL];rfl) (by kernel_rfl) (by kernel_rfl) (by kernel_rfl) (fun _ _ _ h=>h) (MH (g:=g) (o:=o+m*26+5) (c:=ck) underlying27 rfl rfl MK (fun w' hS j v hv=>by
   have:=hS (5+j) v (aia hv);rwa [← kU] at this)) (by assumption) ?_
  try simp only[ak]
  refine aj 5 ?_;refine aj 6 ?_;refine aj 7 ?_;refine aj 8 ?_;refine mr (i:=9) (v:=cl.agg) (by simp only[pJ,pK,pL];rfl) (by kernel_rfl) (by kernel_rfl) (by kernel_rfl) (fun _ _ _ h=>h) (MH (g:=g) (o:=o+m*26+10) (c:=cl) underlying27 rfl rfl MK (fun w' hS j v hv=>by
   have:=hS (10+j) v (aib hv);rwa [← kU] at this)) (by assumption) ?_
  try simp only[ak]
  refine aj 10 ?_;refine aj 11 ?_;refine aj 12 ?_;refine aj 13 ?_;refine mr (i:=14) (v:=ch.agg) (by simp only[pJ,pK,pL];rfl) (by kernel_rfl) (by kernel_rfl) (by kernel_rfl) (fun _ _ _ h=>h) (MH (g:=g) (o:=o+m*26+15) (c:=ch) underlying27 rfl rfl MK (fun w' hS j v hv=>by
   have:=hS (15+j) v (aic hv);rwa [← kU] at this)) (by assumption) ?_
  try simp only[ak]
  refine aj 15 ?_;refine aj 16 ?_;refine aj 17 ?_;refine aj 18 ?_;refine mr (i:=19) (v:=cx.agg) (by simp only[pJ,pK,pL];rfl) (by kernel_rfl) (by kernel_rfl) (by kernel_rfl) (fun _ _ _ h=>h) (MH (g:=g) (o:=o+m*26+20) (c:=cx) underlying27 rfl rfl MK (fun w' hS j v hv=>by
   have:=hS (20+j) v (aid hv);rwa [← kU] at this)) (by assumption) ?_
  try simp only[ak]
  refine aj 20 ?_;refine aK 21 (fun K hK=>?_);replace hK:=aa hK;go_simp;have HG2:=aa (((ah w1).alloc (.cells MJ 85)).drew);have zO:=aa (show Blk (w1.alloc (.cells MJ 85)).drew w1.heap.size 85 MJ from aD w1 _ _);generalize (w1.alloc (.cells MJ 85)).drew=w2 at HG2 zO ⊢;refine aU hK (HC.o _ HG2.o) (fun hHeld=>?_);clear hK K;refine aK 22 (fun K hK=>?_);replace hK:=aa hK;refine ah6 (g:=w1.heap.size) (n:=20) (cells:=MI ck cl ch cx) rfl rfl zO.o ah7 rfl rfl (ah8 _ _ _ _) (fun w3 fZ hg3 hz3=>?_);have aP:=aa (show Grow w1 w3 from HG2.o.grown hg3 (fun k e=>by injection e with e;omega));have HL:=aa (show InL w3 (some ⟨w1.heap.size,0,none⟩) 4 [q.key,q.low,q.high,q.doc] from ah9 fZ (H1.o.grow aP.o) (H2.o.grow aP.o) (H3.o.grow aP.o) (H4.o.grow aP.o))
  refine hK.out _ _ (HC.o _ aP.o) (fun hHeld=>?_);clear hK K fZ hg3 hz3 HG2 zO
  try simp only[ak]
  refine cz ?_;clear hHeld;obtain⟨L,hL⟩:∃L,[q.key,q.low,q.high,q.doc]=L:=⟨_,rfl⟩;have hL4:L.length=4:=by rw[← hL];rfl
  rw[hL] at HL Si HQT;have HL4:=aa hL4;clear hL hL4;go_wp2_with fail;go_loopg [3,6] 5 (fun gk t i w4=>∃(j:Nat) (T':Int),j≤4∧gk+j=5∧i=.int .i64 j∧t=.int .i64 T'∧1≤T'∧T'≤20000∧T'+((((L.take j).map V.count).sum:Nat):Int)=T∧Grow w3 w4);exact⟨0,T,by omega,by omega,rfl,rfl,by omega,by omega,by simp,ah w3⟩;obtain⟨j,T',hj,hg,rfl,rfl,amn,amo,aag,hw⟩:=hrel;have HW:=aa hw;have Sj:=aa aag;clear aag;by_cases hlt:j<4
  ·obtain⟨gk',rfl⟩:=bS gk (by omega);have hlt':j<L.length:=by rw[HL4.o];exact hlt
   obtain⟨v,hv⟩:∃v,L[j]=v:=⟨_,rfl⟩;obtain⟨bk,o2,x,ha,hbk,e0,e1,e2,e3,e4,hx⟩:=In.fO (HL.o.grow hw) j hlt';obtain⟨rfl,rfl⟩:w1.heap.size=bk∧0=o2:=by simpa using ha
   simp only[dY] at e0 e1 e2 e3 e4;rw[hv] at hx;have hs:=De V.count L j hlt';rw[hv] at hs;have HS:=aa hs;have hle:=AP V.count L (j+1);rw[hs] at hle;have wL:=aa hle;have Dg:=AQ v;have iJ:=aa (UZ v T' wr x (by omega) (by omega) hx);clear hw hx hs hle ha hbk hv hlt';go_wp2_with fail;refine iJ.o.mono ?_;rintro e w5 ⟨r,rfl,hr,hb2⟩;have aH:=aa hb2;clear hb2;by_cases eO:((v.count:Nat):Int)<T'
   ·have hd:decide (((v.count:Nat):Int)<T')=true:=bW eO;have HR:=aa (hr eO);clear hr;go_wp2_with fail;go_roundg gk';have h1:=HR.o;have h2:=Sj.o;have h3:=HS.o;exact⟨j+1,r,by omega,by omega,by go_num,rfl,by omega,by omega,by rw[h3];push_cast;omega,HW.o.trans aH.o⟩;omega
   have hd:decide (((v.count:Nat):Int)<T')=false:=bX eO;clear hr;go_wp2_with fail;go_ret;have h2:=Sj.o;have h3:=wL.o;have h4:=gh.o;have h5:=Si.o;exact⟨dE (bW (by omega)).symm,rD.o.trans (aP.o.trans (HW.o.trans aH.o))⟩
  obtain rfl:j=4:=by omega
  have h2:=Sj.o;rw[show L.take 4=L from jD (by rw[HL4.o];omega)] at h2;have H2':=aa h2;clear hw h2;go_wp2_with fail;go_roundg gk0;have h2:=H2'.o;have h4:=gh.o;have h5:=Si.o;have h6:=HQT.o;exact⟨m+1,T',by omega,by omega,by go_num,rfl,by omega,by omega,by omega,rD.o.trans (aP.o.trans HW.o)⟩;omega
 obtain rfl:m=l.length:=by omega
 have h2:=gh.o;rw[fS] at h2;have H2:=aa h2;clear h2 hw;go_wp2_with fail;go_ret;exact⟨dE (bX (by have:=H2.o;omega)).symm,rD.o⟩
end
section
open Go.RowKit
section
variable {P:Program} {ops:Array Oper} {Q:Exit→Act→World→Prop} {rest:List Oper} {a:Act} {w:World}
theorem agn(ty:TypeId){x y:Operand}{t:TypeId}{p:String}{af:Array Edge}(h:wpList P ops Q (⟨none,.store ty x y,t,p,af,none⟩::rest) a w):wpList P ops Q (⟨none,.store ty x y,t,p,af,none⟩::rest) a w:=h
theorem aah(ty:TypeId){d:Option Tmp}{x:Operand}{t:TypeId}{p:String}{af:Array Edge}(h:wpList P ops Q (⟨d,.load ty x,t,p,af,none⟩::rest) a w):wpList P ops Q (⟨d,.load ty x,t,p,af,none⟩::rest) a w:=h
theorem aai{ty t:TypeId}{x:Operand}{d:Option Tmp}{p:String}{af:Array Edge}{g n:Nat}{cells:Array Value}{td:TypeDesc}(hu:P.underlying ty=some td)(hd:(match td with | .struct _ | .array _ _=>true | _=>false)=true)(hx:a.eval x=.pointer (some ⟨g,0,none⟩))(hB:Blk w g ty cells)(hi:(P.info? ty).map (·.size)=some n)
 (hn:cells.size=n) (h:wpList P ops Q rest (a.put d (.agg cells)) w):wpList P ops Q (⟨d,.load ty x,t,p,af,none⟩::rest) a w:=
 wpList_load_row rfl ty x rfl g hx ty cells (0,0) td hB hu hd (by rw[hn];exact hi) h
end
end
end Go.Proofs.YtndjopkdbdcmdaaGreatDoor
