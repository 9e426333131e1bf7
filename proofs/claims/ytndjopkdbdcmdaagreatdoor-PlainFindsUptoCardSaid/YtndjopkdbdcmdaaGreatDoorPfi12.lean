/- Part 12 of the proof of pfinds_card. -/
import Derived.Test.YtndjopkdbdcmdaaGreatDoorPfi11
import Derived.Deep.Onto
set_option linter.unusedVariables false
set_option linter.unusedSimpArgs false
set_option maxRecDepth 100000
set_option maxHeartbeats 12800000
open Go.Proofs.Tryz
namespace Go.Proofs.YtndjopkdbdcmdaaGreatDoor
section
open Go.RowKit
theorem PA{cf:Nat→Int}{n p:Nat}(h1:∀j,j<p→cf j<0)(h2:∀j,p≤j→j<n→0≤cf j):∀(g i j:Nat),j-i≤g→i≤p→p≤j→j≤n→gA cf g i j=p
 | 0,i,j,hg,hi,hj,hn=>by rw[gA];omega
 | g+1,i,j,hg,hi,hj,hn=>by
  rw[gA];split
  ·rename_i hij;split
   ·rename_i hc;have hp:(i+j) / 2<p:=by
     rcases fh ((i+j) / 2) p with h | h
     ·exact h
     have:=h2 _ h (by omega);omega
    exact PA h1 h2 g _ j (by omega) (by omega) hj hn
   rename_i hc;have hp:p≤(i+j) / 2:=by
    rcases fh ((i+j) / 2) p with h | h
    ·exact absurd (h1 _ h) hc
    exact h
   exact PA h1 h2 g i _ (by omega) hi hp (by omega)
  omega
theorem adK{cf:Nat→Int}{n p:Nat}(hp:p≤n)(h1:∀j,j<p→cf j<0)(h2:∀j,p≤j→j<n→0≤cf j):ja cf n=p:=PA h1 h2 n 0 n (by omega) (ba _) hp (ay _)
theorem PB{cf cg:Nat→Int}{n:Nat}(h:∀j,j<n→cf j=cg j):∀(g i j:Nat),j≤n→gA cf g i j=gA cg g i j
 | 0,i,j,hj=>rfl
 | g+1,i,j,hj=>by
  rw[gA,gA];split
  ·rw[h _ (by omega),PB h g _ j hj,PB h g i _ (by omega)]
  rfl
theorem PC{cf cg:Nat→Int}{n:Nat}(h:∀j,j<n→cf j=cg j):ja cf n=ja cg n:=PB h n 0 n (ay _)
theorem Ws{cf cg:Nat→Int}{n:Nat}(h:∀j,j<n→cf j=cg j):iq cf n=iq cg n:=by
 unfold iq;rw[PC h];by_cases hn:ja cg n<n
 ·rw[h _ hn]
 simp[hn]
theorem adL{a b:List UInt8}(h:cQ a b=true):cQ b a=false:=by
 rcases vL (cQ b a) with k | k
 ·have:=xE a b a h k;rw[xG] at this;cases this
 exact k
theorem PD{a b:List UInt8}:cQ a b=true↔Lib.compareBytes a b<0:=by simp[cQ]
theorem Le{a b:List UInt8}:Lib.compareBytes a b=0↔a=b:=by
 constructor
 ·intro h;refine GZ a b (by simp[cQ,h]) ?_;rcases vL (cQ b a) with k | k
  ·rw[PD] at k;have:=(Wb b a b (by omega) (by omega)).2 k;have h2:=xG b;simp[cQ] at h2;omega
  exact k
 rintro rfl;have h:=xG a;rcases adp a a with e | e | e
 ·simp[cQ,e] at h
 ·exact e
 exfalso
 induction a with
 | nil=>simp[Lib.compareBytes] at e
 | cons x a ih=>rw[Lib.compareBytes] at e;simp at e;exact ih (xG a) e
def fI(l:List (List UInt8)):Prop:=l.Pairwise fun a b=>cQ a b=true
def eV(keys:List (List UInt8))(k:List UInt8):Nat:=keys.countP fun x=>cQ x k
def kN(keys:List (List UInt8))(k:List UInt8):Nat:=ja (fun j=>Lib.compareBytes (keys.getD j []) k) keys.length
def kF(keys:List (List UInt8))(k:List UInt8):Bool:=iq (fun j=>Lib.compareBytes (keys.getD j []) k) keys.length
theorem fI.lt{l:List (List UInt8)}(h:fI l){i j:Nat}(hij:i<j)(hj:j<l.length):cQ (l[i]'(by omega)) l[j]=true:=(FM.1 h) i j (by omega) hj hij
theorem PE(keys:List (List UInt8))(k:List UInt8):eV keys k≤keys.length:=List.countP_le_length
theorem Bg:∀{keys:List (List UInt8)} {k:List UInt8},fI keys→∀{j:Nat} (hj:j<keys.length),j<eV keys k↔cQ keys[j] k=true
 | [],k,h,j,hj=>by simp at hj
 | x::r,k,h,j,hj=>by
  have hr:fI r:=(mW.1 h).2;have hx:=(mW.1 h).1;by_cases hxk:cQ x k=true
  ·have e:eV (x::r) k=eV r k+1:=by unfold eV;rw[List.countP_cons_of_pos (by simpa using hxk)]
   rw[e];rcases j with _ | j
   ·simp[hxk]
   have:=Bg (k:=k) hr (j:=j) (by simpa using hj);simp only[Fq];rw[← this];omega
  have e:eV (x::r) k=0:=by
   unfold eV;rw[List.countP_eq_zero];intro y hy hyk;rcases je.1 hy with rfl | hy
   ·exact hxk hyk
   exact hxk (xE x y k (hx y hy) hyk)
  rw[e];constructor
  ·intro h0;omega
  intro h0;exfalso;have:(x::r)[j]∈x::r:=aW _;rcases je.1 this with e1 | e1
  ·rw[e1] at h0;exact hxk h0
  exact hxk (xE _ _ _ (hx _ e1) h0)
theorem G0{keys:List (List UInt8)}{k:List UInt8}(h:fI keys):kN keys k=eV keys k:=by
 refine adK (PE _ _) (fun j hj=>?_) (fun j hj hn=>?_)
 ·have hl:j<keys.length:=df hj (PE _ _);rw[jf,cJ hl,rP];exact PD.1 ((Bg h hl).1 hj)
 rw[jf,cJ hn,rP];have:¬ cQ keys[j] k=true:=fun hc=>by have:=(Bg h hn).2 hc;omega
 rw[PD] at this;omega
theorem Lf{keys:List (List UInt8)}{k:List UInt8}(h:fI keys):kF keys k=true↔k∈keys:=by
 unfold kF iq;rw[show ja (fun j=>Lib.compareBytes (keys.getD j []) k) keys.length=eV keys k from G0 h];simp only[il,iC,Fj];constructor
 ·rintro⟨h1,h2⟩;rw[jf,cJ h1,rP,Le] at h2;rw[← h2];exact aW _
 intro hm;obtain⟨j,hj,e⟩:=lH hm;have hle:eV keys k=j:=by
  have h1:¬ j<eV keys k:=fun hc=>by have:=(Bg h hj).1 hc;rw[e,xG] at this;cases this
  rcases fh (eV keys k) j with h2 | h2
  ·have h3:cQ (keys[eV keys k]'(by omega)) k=true:=by have h4:=h.lt h2 hj;rwa [e] at h4
   have:=(Bg h (by omega)).2 h3;omega
  omega
 rw[hle];refine⟨hj,?_⟩;rw[jf,cJ hj,rP,e,Le]
theorem PF{keys:List (List UInt8)}{k:List UInt8}(h:kF keys k=true):keys[kN keys k]?=some k:=by
 unfold kF iq at h;simp only[il,iC,Fj] at h;obtain⟨h1,h2⟩:=h;unfold kN;rw[jf,cJ h1,rP,Le] at h2;rw[cJ h1,h2]
abbrev gG(names:List ByteArray):List (List UInt8):=names.map fun s=>s.data.toList
theorem Wt(names:List ByteArray)(j:Nat):(names.getD j ⟨#[]⟩).data.toList=(gG names).getD j []:=by
 rw[jf,jf,tL]
 cases names[j]?<;>rfl
theorem G3(names:List ByteArray)(s:ByteArray):bV names s=kN (gG names) s.data.toList:=by
 unfold bV kN mI;rw[dZ];exact PC fun j _=>by rw[Wt]
theorem Wu(names:List ByteArray)(s:ByteArray):cK names s=kF (gG names) s.data.toList:=by
 unfold cK kF mI;rw[dZ];exact Ws fun j _=>by rw[Wt]
abbrev ko(ag:List V):List (List UInt8):=ag.map fun d=>(bM d).1
theorem Wv(ag:List V){j:Nat}(h:j<ag.length):(bM (ag.getD j V.zero)).1=(ko ag).getD j []:=by
 rw[jf,jf,tL,cJ h];rfl
theorem Lg(ag:List V)(k:List UInt8):iP ag k=kN (ko ag) k:=by
 unfold iP kN;rw[dZ];exact PC fun j h=>by unfold vZ;rw[Wv ag h]
theorem G5(ag:List V)(k:List UInt8):jm ag k=kF (ko ag) k:=by
 unfold jm kF;rw[dZ];exact Ws fun j h=>by unfold vZ;rw[Wv ag h]
theorem PG{a b:ByteArray}(h:a.data.toList=b.data.toList):a=b:=by
 cases a;cases b;simp only[ByteArray.mk.injEq];exact Array.toList_inj.1 h
theorem PH{names:List ByteArray}{s:ByteArray}:s.data.toList∈gG names↔s∈names:=by
 rw[j3];constructor
 ·rintro⟨x,hx,e⟩;rw[← PG e];exact hx
 intro h;exact⟨s,h,rfl⟩
theorem Bh{names:List ByteArray}(h:fI (gG names))(s:ByteArray):cK names s=true↔s∈names:=by rw[Wu,Lf h,PH]
theorem PI{names:List ByteArray}{s:ByteArray}(h:cK names s=true):names[bV names s]?=some s:=by
 rw[Wu] at h;have:=PF h;rw[← G3,tL] at this
 cases hx:names[bV names s]? with
 | none=>rw[hx] at this;cases this
 | some y=>rw[hx] at this;injection this with this;rw[PG this]
theorem Lh{names:List ByteArray}{s:ByteArray}(h:cK names s=true):bV names s<names.length:=(kC.1 (PI h)).1
theorem PJ(names:List ByteArray)(s:ByteArray):bV names s≤names.length:=F8 _ _
theorem Ww(ag:List V)(k:List UInt8):iP ag k≤ag.length:=F8 _ _
theorem zx{ag:List V}{k:List UInt8}(h:jm ag k=true):iP ag k<ag.length:=by
 unfold jm iq at h;simp only[il,iC] at h;exact h.1
theorem fI.ins{keys:List (List UInt8)}{k:List UInt8}(h:fI keys)(hk:k ∉ keys):fI (cZ keys (kN keys k) k):=by
 rw[G0 h,cZ];have hlt:∀x∈keys.take (eV keys k),cQ x k=true:=fun x hx=>by
  obtain⟨j,hj,e⟩:=lH hx;rw[dS] at hj;rw[AA] at e;rw[← e];exact(Bg h (by omega)).1 (by omega)
 have hgt:∀x∈keys.drop (eV keys k),cQ k x=true:=fun x hx=>by
  obtain⟨j,hj,e⟩:=lH hx;rw[iM] at hj;rw[NZ] at e;have h1:cQ x k=false:=by
   rcases vL (cQ x k) with h1 | h1
   ·rw[← e] at h1;have:=(Bg h (by omega)).2 h1;omega
   exact h1
  rcases vL (cQ k x) with h2 | h2
  ·exact h2
  have:=GZ x k h1 h2;subst this;exact absurd (rQ hx) hk
 refine List.pairwise_append.2 ⟨h.sublist (List.take_sublist _ _),mW.2 ⟨hgt,h.sublist (N0 _ _)⟩,fun a ha b hb=>?_⟩;rcases je.1 hb with rfl | hb
 ·exact hlt a ha
 exact xE _ _ _ (hlt a ha) (hgt b hb)
theorem fI.del{keys:List (List UInt8)}(h:fI keys)(i:Nat):fI (gD keys i):=by
 refine List.pairwise_append.2 ⟨h.sublist (List.take_sublist _ _),h.sublist (N0 _ _),fun a ha b hb=>?_⟩;obtain⟨x,hx,ex⟩:=lH ha;obtain⟨y,hy,ey⟩:=lH hb;rw[dS] at hx;rw[iM] at hy;rw[AA] at ex;rw[NZ] at ey;rw[← ex,← ey];exact h.lt (by omega) (by omega)
theorem fI.inj{keys:List (List UInt8)}(h:fI keys){i j:Nat}(hi:i<keys.length)(hj:j<keys.length)(e:keys[i]=keys[j]):i=j:=by
 rcases FA i j with h1 | h1 | h1
 ·have:=h.lt h1 hj;rw[e,xG] at this;cases this
 ·exact h1
 have:=h.lt h1 hi;rw[e,xG] at this;cases this
theorem PK{α β:Type}(f:α→β)(l:List α)(i:Nat)(x:α):(cZ l i x).map f=cZ (l.map f) i (f x):=by simp[cZ,List.map_take,List.map_drop]
theorem PL{α β:Type}(f:α→β)(l:List α)(i:Nat):(gD l i).map f=gD (l.map f) i:=by simp[gD,List.map_take,List.map_drop]
theorem zy{α:Type}{l:List α}{i:Nat}{x y:α}:y∈cZ l i x↔y=x∨y∈l:=by
 unfold cZ;rw[tI,je];constructor
 ·rintro(h | h | h)
  ·exact .inr (yP h)
  ·exact .inl h
  exact .inr (rQ h)
 rintro(h | h)
 ·exact .inr (.inl h)
 rw[← qq i l,tI] at h;rcases h with h | h
 ·exact .inl h
 exact .inr (.inr h)
theorem Bi{α:Type}{l:List α}{i:Nat}{y:α}(h:y∈gD l i):y∈l:=by
 rcases tI.1 h with h | h
 ·exact yP h
 exact rQ h
theorem uw{α:Type}{l:List α}{i:Nat}{x:α}:(cZ l i x).length=l.length+1:=by
 unfold cZ;rw[bG,aT,dS,iM];omega
theorem PM(x:EN):∀l,(uo x l).Perm (x::l)
 | []=>Kt _
 | y::r=>by
  rw[uo];split
  ·exact((PM x r).cons y).trans (List.Perm.swap x y r)
  exact Kt _
theorem Wx:∀(l a:List EN),(l.foldl (fun a x=>uo x a) a).Perm (l++a)
 | [],a=>Kt _
 | x::r,a=>by
  rw[J5];exact(Wx r _).trans (((Kt r).append (PM x a)).trans List.perm_middle)
theorem DR(l:List EN):(zm l).Perm l:=by
 have:=Wx l [];rwa [ml] at this
def zz(l:List EN):Prop:=l.Pairwise fun a b=>cQ b.1 a.1=false
theorem Wy{x:EN}:∀{l:List EN},zz l→zz (uo x l)
 | [],h=>List.pairwise_singleton _ _
 | y::r,h=>by
  rw[uo];have hr:=(mW.1 h).2;have hy:=(mW.1 h).1;split
  ·rename_i hc;refine mW.2 ⟨fun b hb=>?_,Wy hr⟩;rcases je.1 ((PM x r).mem_iff.1 hb) with e | e
   ·rw[e];exact adL hc
   exact hy b e
  rename_i hc;have hc':cQ y.1 x.1=false:=by rcases vL (cQ y.1 x.1) with k | k;exact absurd k hc;exact k
  refine mW.2 ⟨fun b hb=>?_,h⟩;rcases je.1 hb with e | e
  ·rw[e];exact hc'
  exact adM.ntrans _ _ _ (hy b e) hc'
theorem Wz:∀(l a:List EN),zz a→zz (l.foldl (fun a x=>uo x a) a)
 | [],a,h=>h
 | x::r,a,h=>by rw[J5];exact Wz r _ (Wy h)
theorem PN(l:List EN):zz (zm l):=Wz l [] List.Pairwise.nil
end
section
open Go.RowKit
theorem adN{k:Int}{n:Nat}{b:List UInt8}{l:List V}{f:List (ByteArray×V)}(h:(V.mk k n b l f).fit):∀x∈l,x.fit:=by rw[V.fit] at h;exact h.2.1
theorem WA{k:Int}{n:Nat}{b:List UInt8}{l:List V}{f:List (ByteArray×V)}(h:(V.mk k n b l f).fit):∀x∈f,x.2.fit:=by rw[V.fit] at h;exact h.2.2
theorem adO{v u:V}{s:ByteArray}(h:jl v s=some u)(hf:v.fit):u.fit:=by
 obtain⟨k,n,b,l,f⟩:=v;by_cases hk:k=7
 ·subst hk;rw[zl] at h;split at h
  ·exact adN hf u (yO h)
  cases h
 rw[vY hk,CZ] at h;obtain⟨x,h1,rfl⟩:=h;exact WA hf x (C0 h1)
theorem WC:∀{l:List ByteArray} {v u:V},lf v l=some u→v.fit→u.fit
 | [],v,u,h,hf=>by rw[lf] at h;injection h with h;rw[← h];exact hf
 | s::r,v,u,h,hf=>by
  rw[lf,Kn] at h;obtain⟨x,h1,h2⟩:=h;exact WC h2 (adO h1 hf)
theorem WD:∀{l:List ByteArray} {v u:V},lf v l=some u→v.formed=true→u.formed=true
 | [],v,u,h,hf=>by rw[lf] at h;injection h with h;rw[← h];exact hf
 | s::r,v,u,h,hf=>by
  rw[lf,Kn] at h;obtain⟨x,h1,h2⟩:=h;exact WD h2 (K9 h1 hf)
theorem adP{v u:V}{s:ByteArray}(h:g_ v s=some u)(hf:v.fit):Fine u:=by
 unfold g_ at h;split at h
 ·rename_i hg;have fF:=(lR hg).1;split at h
  ·injection h with h;rw[← h];exact⟨fF,hf⟩
  exact⟨WD h fF,WC h hf⟩
 cases h
structure fC (d:V):Prop where
 key:(bM d).2=0
 fit:d.fit
 count:d.count≤20000
theorem fC.id{d:V}(h:fC d):∃i,gI d=some i∧V.Keyed i∧bM d=(i.key,0)∧d.good=0∧d.k=8:=by
 have hk:=h.key;unfold bM at hk ⊢;by_cases h0:d.good=0
 ·rw[ai (by simpa using h0)] at hk ⊢;by_cases h8:d.k=8
  ·rw[ai (by simpa using h8)] at hk ⊢
   cases hi:gI d with
   | none=>rw[hi] at hk;simp at hk
   | some i =>
    rw[hi] at hk;dsimp only at hk ⊢;obtain⟨s,hs⟩:=VY hi;have hfi:i.fit:=by
     obtain⟨k,n,b,l,f⟩:=d;exact WA h.fit (s,i) hs
    have hK:=V.Keyed.of hk hfi;exact⟨i,rfl,hK,hK.cI,h0,h8⟩
  rw[aw h8] at hk;simp at hk
 rw[aw h0] at hk;exact absurd hk h0
theorem WE{path:ByteArray}{d:V}(h:fC d)(hp:g_ d path=none):eu path d=([],false,0)∧um path d=none:=by
 have e:eu path d=([],false,0):=by unfold eu;rw[ai (by simpa using h.key),hp]
 exact⟨e,by unfold um;rw[e];rfl⟩
theorem PO{path:ByteArray}{d u:V}(h:fC d)(hp:g_ d path=some u)(he:(eu path d).2.2=0) :
 ∃i,gI d=some i∧Fine u∧V.Keyed i∧bM d=(i.key,0)∧eu path d=(u.key++i.key,true,0)∧um path d=some (u.key++i.key,(u.key.length:Int),d):=by
 obtain⟨i,hi,hK,hkey,-,-⟩:=h.id;have hu:=adP hp h.fit;have e:eu path d=(u.key++i.key,true,0):=by
  unfold eu at he ⊢;rw[ai (by simpa using h.key),hp] at he ⊢;dsimp only at he ⊢;rw[hi,rP] at he ⊢;by_cases h0:(j_ [u,i] [false,false]).2=0
  ·rw[ai (by simpa using h0)];have:=adQ (b:=(j_ [u,i] [false,false]).1) (by rw[← h0]);have h3:=this.2.2.1;rw[← h3];simp[nY,flip]
  rw[aw h0] at he;exact absurd he h0
 refine⟨i,hi,hu,hK,hkey,e,?_⟩;unfold um;rw[e,hi,rP,hK.cI];simp only[iD,bG];congr 3;omega
theorem WH{u v i j:V}(hu:Fine u)(hv:Fine v)(hi:Fine i)(hj:Fine j):Lib.compareBytes (u.key++i.key) (v.key++j.key)=dM (V.cmp u v) (V.cmp i j):=by
 have:=V.ads false false hu hi hv hj;simpa [flip,V.DI] using this
theorem key_inj{u v:V}(hu:Fine u)(hv:Fine v)(h:u.key=v.key):u=v:=by
 rw[← V.Wc hu hv,V.adq hu hv,h,Le]
def wu(path:ByteArray)(ag:List V):Prop:=ag.Pairwise fun a b=>∀u,g_ a path=some u→g_ b path≠some u
structure Li (path:ByteArray) (ag:List V) (e:EN) (u i:V):Prop where
 mem:e.2.2∈ag
 path:g_ e.2.2 path=some u
 id:gI e.2.2=some i
 fu:Fine u
 fi:Fine i
 b:e.1=u.key++i.key
 sz:e.2.1=(u.key.length:Int)
 key:(bM e.2.2).1=i.key
theorem Li.part{path:ByteArray}{ag:List V}{e:EN}{u i:V}(h:Li path ag e u i):e.1.take e.2.1.toNat=u.key:=by
 rw[h.b,h.sz];simp
theorem sw{path:ByteArray}:∀{ag:List V},jd path ag=0↔∀d∈ag,(eu path d).2.2=0
 | []=>by simp[jd]
 | d::r=>by
  rw[jd,N1];split
  ·rename_i h;constructor
   ·intro h';exact absurd h' h
   rintro⟨h',-⟩;exact absurd h' h
  rename_i h;rw[sw (ag:=r)];exact⟨fun h'=>⟨by simpa using h,h'⟩,fun h'=>h'.2⟩
theorem WI{path:ByteArray}{ag:List V}(hd:∀d∈ag,fC d)(he:jd path ag=0):∀e∈np path ag,∃u i,Li path ag e u i:=by
 intro e hm;unfold np at hm;rw[N2] at hm;obtain⟨d,mX,hx⟩:=hm;have hz:=sw.1 he d mX
 cases hp:g_ d path with
 | none=>rw[(WE (hd d mX) hp).2] at hx;cases hx
 | some u =>
  obtain⟨i,hi,hu,hK,hkey,-,hent⟩:=PO (hd d mX) hp hz;rw[hent] at hx;injection hx with hx;subst hx;exact⟨u,i,mX,hp,hi,hu,hK.toFine,rfl,rfl,by dsimp only;rw[hkey]⟩
theorem WJ{path:ByteArray}{ag:List V}:∀{l:List EN},(∀e∈l,∃u i,Li path ag e u i)→zz l→(se l=false↔l.Pairwise fun a b=>a.1.take a.2.1.toNat≠b.1.take b.2.1.toNat)
 | [],_,_=>by simp[se]
 | [a],_,_=>by simp[se]
 | a::b::r,hok,ho=>by
  have ih:=WJ (l:=b::r) (fun e he=>hok e (tK _ he)) (mW.1 ho).2;rw[se,lF,j4,ih,mW (a:=a)];constructor
  ·rintro⟨h1,h2⟩;refine⟨fun c hc=>?_,h2⟩;rcases je.1 hc with rfl | hc
   ·exact h1
   intro heq;obtain⟨ua,ia,ha⟩:=hok a (by simp);obtain⟨ub,ib,hb⟩:=hok b (by simp);obtain⟨uc,ic,hcc⟩:=hok c (by simp[hc]);rw[ha.part,hcc.part] at heq;rw[ha.part,hb.part] at h1;have G6:ua=uc:=key_inj ha.fu hcc.fu heq;subst G6;have hne:V.cmp ua ub≠0:=fun h0=>h1 (by rw[(V.Wc ha.fu hb.fu).1 h0])
   have o1:cQ b.1 a.1=false:=(mW.1 ho).1 b (by simp);have o2:cQ c.1 b.1=false:=(mW.1 (mW.1 ho).2).1 c hc;rw[ha.b,hb.b] at o1;rw[hcc.b,hb.b] at o2;have e1:Lib.compareBytes (ub.key++ib.key) (ua.key++ia.key)=V.cmp ub ua:=by
    rw[WH hb.fu ha.fu hb.fi ha.fi,dM,ai (by rw[V.Wd ha.fu hb.fu];omega)]
   have e2:Lib.compareBytes (ua.key++ic.key) (ub.key++ib.key)=V.cmp ua ub:=by
    rw[WH ha.fu hb.fu hcc.fi hb.fi,dM,ai hne]
   simp only[cQ,e1,e2,j4,V.Wd ha.fu hb.fu] at o1 o2;omega
  rintro⟨h1,h2⟩;exact⟨h1 b (by simp),h2⟩
theorem WK{path:ByteArray}:∀{ag:List V},(∀d∈ag,fC d)→jd path ag=0→((np path ag).Pairwise (fun a b=>a.1.take a.2.1.toNat≠b.1.take b.2.1.toNat)↔wu path ag)
 | [],_,_=>by simp[np,wu]
 | d::r,hd,he=>by
  have hdr:∀x∈r,fC x:=fun x hx=>hd x (tK _ hx)
  have hz:∀x∈d::r,(eu path x).2.2=0:=sw.1 he;have her:jd path r=0:=sw.2 fun x hx=>hz x (tK _ hx)
  have ih:=WK (path:=path) hdr her;unfold wu at ih ⊢;rw[mW,← ih];have hlist:np path (d::r)=(um path d).toList++np path r:=by
   unfold np;rw[List.filterMap_cons];cases um path d<;>rfl
  rw[hlist]
  cases hp:g_ d path with
  | none =>
   rw[(WE (hd d vK) hp).2];simp
  | some u =>
   obtain⟨i,hi,hu,hK,hkey,-,hent⟩:=PO (hd d vK) hp (hz d vK);rw[hent];simp only[Option.toList_some,List.singleton_append,mW];refine and_congr_left fun _=>⟨fun h b hb v hv hbv=>?_,fun h e hm=>?_⟩
   ·injection hv with hv;subst hv;obtain⟨j,hj,hv',hK',hkey',-,adR⟩:=PO (hdr b hb) hbv (hz b (tK _ hb));have:=h _ (show (u.key++j.key,(u.key.length:Int),b)∈np path r from N2.2 ⟨b,hb,adR⟩);simp at this
   obtain⟨v,j,hok⟩:=WI hdr her e hm;rw[hok.part];simp only[yL,FJ];intro heq;have e2:u=v:=key_inj hu hok.fu heq;exact h _ hok.mem u rfl (e2 ▸ hok.path)
theorem Lj{α:Type}{R:α→α→Prop}(hs:∀a b,R a b→R b a){l m:List α}(hp:l.Perm m)(h:l.Pairwise R):m.Pairwise R:=(hp.pairwise_iff (fun {a b}=>hs a b)).1 h
theorem Ll{path:ByteArray}{ag:List V}(hd:∀d∈ag,fC d)(he:jd path ag=0):se (pS path ag)=false↔wu path ag:=by
 unfold pS;rw[aw he,WJ (fun e hm=>WI hd he e ((DR _).mem_iff.1 hm)) (PN _),← WK hd he];exact⟨Lj (fun a b h e=>h e.symm) (DR _),Lj (fun a b h e=>h e.symm) (DR _).symm⟩
structure Bj (N:Nat) (c:Co):Prop where
 nm:V.name c.name=true
 keys:fI (ko c.ag)
 ag:∀d∈c.ag,fC d
 nd:c.ag.length≤N
 aq:fI (gG (gj c))
 nx:c.aq.length≤8
 path:∀x∈c.aq,x.path.size≤200
 DT:∀x∈c.aq,jd x.path c.ag=0
 uniq:∀x∈c.aq,x.uniq=true→wu x.path c.ag
 gj:∀x∈c.aq,V.name x.name=true
structure dX (N:Nat) (st:List Co):Prop where
 nz:fI (gG (bh st))
 n:st.length≤16
 co:∀c∈st,Bj N c
theorem dX.nil:dX 0 []:=⟨List.Pairwise.nil,ba _,fun c h=>by simp at h⟩
theorem Bj.mono{N M:Nat}{c:Co}(h:Bj N c)(hm:N≤M):Bj M c:={ h with nd:=bn h.nd hm }
theorem dX.mono{N M:Nat}{st:List Co}(h:dX N st)(hm:N≤M):dX M st:=⟨h.nz,h.n,fun c hc=>(h.co c hc).mono hm⟩
theorem lU{st:List Co}{s:ByteArray}(h:cK (bh st) s=true):st[bV (bh st) s]?=some (bD st s)∧bD st s∈st∧(bD st s).name=s∧bV (bh st) s<st.length:=by
 have h1:=PI h;have hl:bV (bh st) s<st.length:=by have:=Lh h;rwa [dZ] at this
 have e:st[bV (bh st) s]?=some (bD st s):=by
  unfold bD;rw[jf,cJ hl,rP]
 refine⟨e,yO e,?_,hl⟩;rw[tL,e] at h1;injection h1
theorem dX.set{N:Nat}{st:List Co}(h:dX N st){s:ByteArray}(hf:cK (bh st) s=true){c:Co}(hc:Bj (N+1) c)(hn:c.name=(bD st s).name):dX (N+1) (st.set (bV (bh st) s) c):=by
 obtain⟨h1,h2,h3,h4⟩:=lU hf;refine⟨?_,by rw[kD];exact h.n,fun x hx=>?_⟩
 ·have e:bh (st.set (bV (bh st) s) c)=bh st:=by
   rw[bh,List.map_set,hn];have hg:(st.map Co.name)[bV (bh st) s]?=some (bD st s).name:=by rw[tL,h1];rfl
   rw[kC] at hg;obtain⟨hg1,hg2⟩:=hg;rw[← hg2,List.set_getElem_self]
  rw[e];exact h.nz
 rcases List.mem_or_eq_of_mem_set hx with hx | hx
 ·exact(h.co x hx).mono (fD _)
 rw[hx];exact hc
theorem wu.sub{path:ByteArray}{l m:List V}(h:wu path m)(hs:List.Sublist l m):wu path l:=List.Pairwise.sublist hs h
theorem DU{α:Type}(l:List α)(i:Nat):List.Sublist (gD l i) l:=by
 unfold gD
 conv=>rhs;rw[← qq i l]
 refine List.Sublist.append_left ?_ _;rw[← Ka];exact N0 _ _
theorem DV{d:V}:∀{aq:List Ix},uq d aq=0↔∀x∈aq,(eu x.path d).2.2=0
 | []=>by simp[uq]
 | x::r=>by
  rw[uq,N1];split
  ·rename_i h;constructor
   ·intro h';exact absurd h' h
   rintro⟨h',-⟩;exact absurd h' h
  rename_i h;rw[DV (aq:=r)];exact⟨fun h'=>⟨by simpa using h,h'⟩,fun h'=>h'.2⟩
theorem Lm{ag:List V}:∀{aq:List Ix},zn ag aq=false↔∀x∈aq,x.uniq=true→se (pS x.path ag)=false
 | []=>by simp[zn]
 | x::r=>by
  rw[zn,lF,Lm (aq:=r),N1];refine and_congr_left fun _=>?_
  cases x.uniq<;>simp
theorem DW{ag:List V}{d x:V}(h:x∈gm ag d):x=d∨x∈ag:=by
 unfold gm at h;split at h
 ·rcases List.mem_or_eq_of_mem_set h with h | h
  ·exact .inr h
  exact .inl h
 exact zy.1 h
theorem adS{ag:List V}{d:V}(h:fI (ko ag)):fI (ko (gm ag d)):=by
 unfold gm;split
 ·rename_i hf;rw[G5] at hf;have h1:=PF hf;rw[← Lg] at h1;rw[ko,List.map_set];obtain⟨hg1,hg2⟩:=kC.1 h1;obtain⟨m,hm⟩:∃m,iP ag (bM d).1=m:=⟨_,rfl⟩;simp only[hm] at hg1 hg2 ⊢;rw[← hg2];show fI ((ko ag).set m (ko ag)[m]);rw[List.set_getElem_self];exact h
 rename_i hf;rw[ko,PK,Lg];refine fI.ins h fun hm=>hf ?_
 rw[G5];exact(Lf h).2 hm
theorem adT(ag:List V)(d:V):(gm ag d).length≤ag.length+1:=by
 unfold gm;split
 ·rw[kD];omega
 rw[uw];omega
theorem Bk{N:Nat}{st:List Co}{q:Rq}(h:dX N st)(hf:q.doc.fit)(hc:q.doc.count≤20000){st':List Co}{n:Int}{ag:List V}(he:kf st q=.ok (st',n,ag)):dX (N+1) st':=by
 unfold kf at he;split at he
 ·unfold nZ at he;split at he;· cases he
  rename_i h1;split at he;· cases he
  rename_i h2;split at he;· cases he
  rename_i h3;injection he with he;injection he with he _;subst he;have hname:V.name q.aA=true:=by simpa using h1
  refine⟨?_,by rw[uw];omega,fun c hc=>?_⟩
  ·rw[bh,gG,lG,PK];have e1:st.map ((fun s:ByteArray=>s.data.toList) ∘ Co.name)=gG (bh st):=by rw[gG,bh,lG]
   rw[e1,G3];refine fI.ins h.nz fun hm=>h2 ?_
   rw[Bh h.nz];exact PH.1 hm
  rcases zy.1 hc with rfl | hc
  ·exact⟨hname,List.Pairwise.nil,fun d hd=>by simp at hd,ba _,List.Pairwise.nil,ba _,fun x hx=>by simp at hx,fun x hx=>by simp at hx,fun x hx=>by simp at hx,fun x hx=>by simp at hx⟩
  exact(h.co c hc).mono (fD _)
 split at he
 ·unfold GM at he;split at he;· cases he
  injection he with he;injection he with he _;subst he;refine⟨?_,bn (DU _ _).length_le h.n,fun c hc=>(h.co c (Bi hc)).mono (fD _)⟩;rw[bh,gG,lG,PL];have e1:st.map ((fun s:ByteArray=>s.data.toList) ∘ Co.name)=gG (bh st):=by rw[gG,bh,lG]
  rw[e1];exact h.nz.del _
 have hput:pT st q=.ok (st',n,ag)→dX (N+1) st':=fun he=>by
  unfold pT at he;split at he;· cases he
  rename_i h1;split at he;· cases he
  rename_i h2;split at he;· cases he
  rename_i h3;split at he;· cases he
  rename_i h4;split at he;· cases he
  rename_i h5;injection he with he;injection he with he _;subst he;have hF:cK (bh st) q.aA=true:=by simpa using h1
  have aR:=h.co _ (lU hF).2.1;have hd:fC q.doc:=⟨by simpa using h2,hf,hc⟩;have zA:∀d∈gm (bD st q.aA).ag q.doc,fC d:=fun d hm=>by
   rcases DW hm with rfl | hm
   ·exact hd
   exact aR.ag d hm
  have hne:∀x∈(bD st q.aA).aq,jd x.path (gm (bD st q.aA).ag q.doc)=0:=fun x hx=>by
   refine sw.2 fun d hm=>?_
   rcases DW hm with rfl | hm
   ·exact DV.1 (by simpa using h3) x hx
   exact sw.1 (aR.DT x hx) d hm
  refine h.set hF (c:=⟨_,_,_⟩) ⟨aR.nm,adS aR.keys,zA,?_,aR.aq,aR.nx,aR.path,hne,fun x hx hu=>?_,aR.gj⟩ rfl
  ·have:=adT (bD st q.aA).ag q.doc;have:=aR.nd;dsimp only;omega
  exact(Ll zA (hne x hx)).1 (Lm.1 (by simpa using h5) x hx hu)
 split at he;· exact hput he
 split at he;· exact hput he
 split at he
 ·unfold GN at he;split at he;· cases he
  rename_i h1;split at he;· cases he
  split at he;· cases he
  injection he with he;injection he with he _;subst he;have hF:cK (bh st) q.aA=true:=by simpa using h1
  have aR:=h.co _ (lU hF).2.1;refine h.set hF (c:=⟨_,_,_⟩) ⟨aR.nm,?_,fun d hm=>aR.ag d (Bi hm),?_,aR.aq,aR.nx,aR.path,fun x hx=>?_,fun x hx hu=>(aR.uniq x hx hu).sub (DU _ _),aR.gj⟩ rfl
  ·rw[ko,PL];exact aR.keys.del _
  ·exact bn (DU _ _).length_le (N3 aR.nd)
  exact sw.2 fun d hm=>sw.1 (aR.DT x hx) d (Bi hm)
 split at he
 ·unfold Po at he;split at he;· cases he
  split at he;· cases he
  split at he;· cases he
  injection he with he;injection he with he _;subst he;exact h.mono (fD _)
 split at he
 ·unfold GP at he;split at he;· cases he
  rename_i h1;split at he;· cases he
  rename_i h2;split at he;· cases he
  rename_i h3;split at he;· cases he
  rename_i h4;split at he;· cases he
  rename_i h5;split at he;· cases he
  rename_i h6;split at he;· cases he
  rename_i h7;injection he with he;injection he with he _;subst he;have hF:cK (bh st) q.aA=true:=by simpa using h3
  have aR:=h.co _ (lU hF).2.1;have h6':jd q.path (bD st q.aA).ag=0:=by simpa using h6
  refine h.set hF (c:=⟨_,_,_⟩) ⟨aR.nm,aR.keys,aR.ag,N3 aR.nd,?_,?_,fun x hx=>?_,fun x hx=>?_,fun x hx hu=>?_,fun x hx=>?_⟩ rfl
  ·rw[gj,gG,lG,PK];have e1:(bD st q.aA).aq.map ((fun s:ByteArray=>s.data.toList) ∘ Ix.name)=gG (gj (bD st q.aA)):=by rw[gG,gj,lG]
   rw[e1,G3];refine fI.ins aR.aq fun hm=>h4 ?_
   rw[Bh aR.aq];exact PH.1 hm
  ·dsimp only;rw[uw];omega
  ·rcases zy.1 hx with rfl | hx
   ·dsimp only;omega
   exact aR.path x hx
  ·rcases zy.1 hx with rfl | hx
   ·exact h6'
   exact aR.DT x hx
  ·rcases zy.1 hx with rfl | hx
   ·refine(Ll aR.ag h6').1 ?_;rcases vL (se (pS q.path (bD st q.aA).ag)) with k | k
    ·exact absurd ⟨hu,k⟩ h7
    exact k
   exact aR.uniq x hx hu
  rcases zy.1 hx with rfl | hx
  ·simpa using h1
  exact aR.gj x hx
 split at he
 ·unfold GQ at he;split at he;· cases he
  rename_i h1;split at he;· cases he
  injection he with he;injection he with he _;subst he;have hF:cK (bh st) q.aA=true:=by simpa using h1
  have aR:=h.co _ (lU hF).2.1;refine h.set hF (c:=⟨_,_,_⟩) ⟨aR.nm,aR.keys,aR.ag,N3 aR.nd,?_,bn (DU _ _).length_le aR.nx,fun x hx=>aR.path x (Bi hx),fun x hx=>aR.DT x (Bi hx),fun x hx=>aR.uniq x (Bi hx),fun x hx=>aR.gj x (Bi hx)⟩ rfl;rw[gj,gG,lG,PL];have e1:(bD st q.aA).aq.map ((fun s:ByteArray=>s.data.toList) ∘ Ix.name)=gG (gj (bD st q.aA)):=by rw[gG,gj,lG]
  rw[e1];exact aR.aq.del _
 split at he
 ·unfold qK at he;split at he;· cases he
  split at he;· cases he
  split at he;· cases he
  split at he;· cases he
  split at he;· cases he
  injection he with he;injection he with he _;subst he;exact h.mono (fD _)
 split at he
 ·unfold countP at he;split at he;· cases he
  injection he with he;injection he with he _;subst he;exact h.mono (fD _)
 cases he
theorem WL{N:Nat}{st:List Co}{q:Rq}(h:dX N st)(hf:q.doc.fit)(hc:q.doc.count≤20000):dX (N+1) (kg st q).1:=by
 unfold kg;split
 ·exact h.mono (fD _)
 rename_i he;exact Bk h hf hc he
end
section
open Go.RowKit
theorem dW.sx{w:World}{A:Option Addr}{cap:Nat}{st:List Co}(h:dW w A cap st)(i:Nat)(hi:i<st.length):∃bk o e,A=some ⟨bk,o,none⟩∧bk<w.heap.size∧su w e st[i]∧(∀k v,e.cells.toList[k]?=some v→k<3→w.cell? ⟨bk,o+i*3+k,none⟩=some v):=by
 obtain⟨hc,es,h1,h2⟩:=h;have hel:i<es.length:=by rw[h1.1];exact hi
 obtain⟨bk,o,hA,hcell⟩:=h2.2 (by omega);have hf:∀k v,es[i].cells.toList[k]?=some v→k<3→bK w 0 w.heap.size ⟨bk,o+(i*3+k),none⟩ v:=fun k v hv hk =>
  hcell (i*3+k) v (by rw[dK,qL _ 3 (fun _=>rfl) es i k hk es[i] (cJ hel)];exact hv)
 refine⟨bk,o,es[i],hA,(hf 0 _ rfl (by omega)).2.2,h1.at_ hel hi,fun k v hv hk=>?_⟩;rw[kU];exact(hf k v hv hk).1
theorem kK.sx{w:World}{A:Option Addr}{xs:List Ix}(h:kK w A xs)(i:Nat)(hi:i<xs.length):∃bk o,A=some ⟨bk,o,none⟩∧bk<w.heap.size∧w.cell? ⟨bk,o+i*3,none⟩=some (.string xs[i].name)∧w.cell? ⟨bk,o+i*3+1,none⟩=some (.string xs[i].path)∧w.cell? ⟨bk,o+i*3+2,none⟩=some (.bool xs[i].uniq):=by
 obtain⟨bk,o,hA,hcell⟩:=h.2 (by omega);have hf:∀k v,xs[i].cells.toList[k]?=some v→k<3→bK w 0 w.heap.size ⟨bk,o+(i*3+k),none⟩ v:=fun k v hv hk =>
  hcell (i*3+k) v (by rw[fU,qL _ 3 (fun _=>rfl) xs i k hk xs[i] (cJ hi)];exact hv)
 refine⟨bk,o,hA,(hf 0 _ rfl (by omega)).2.2,(hf 0 _ rfl (by omega)).1,?_,?_⟩
 ·have:=(hf 1 _ rfl (by omega)).1;rwa [← kU] at this
 have:=(hf 2 _ rfl (by omega)).1;rwa [← kU] at this
def sy(names:List ByteArray)(s:ByteArray):Int:=if cK names s=true then (bV names s:Int) else -1
theorem WM{names:List ByteArray}(hr:fI (gG names)){j:Nat}(hj:j<names.length){s:ByteArray}(he:names[j]=s):sy names s=j:=by
 have hF:cK names s=true:=(Bh hr s).2 (he ▸ aW hj);have h1:=PI hF;have h2:=Lh hF;rw[cJ h2] at h1;injection h1 with h1;have:bV names s=j:=hr.inj (i:=bV names s) (j:=j) (by rw[dZ];exact h2) (by rw[dZ];exact hj) (by rw[iZ,iZ,h1,he]);unfold sy;rw[aw hF,this]
theorem WN{names:List ByteArray}(hr:fI (gG names)){s:ByteArray}(h:∀i (hi:i<names.length),names[i]≠s):sy names s=-1:=by
 unfold sy;rw[ai];intro hF;obtain⟨i,hi,e⟩:=lH ((Bh hr s).1 hF);exact h i hi e
theorem Lp{a b:ByteArray}(h:a≠b):(a.toList==b.toList)=false:=by rw[NP];exact fun k=>h ((yU _ _).1 k)
theorem Lq(st:List Co)(s:ByteArray)(A:Option Addr)(cap:Nat)(w:World)(hst:dW w A cap st)(hr:fI (gG (bh st)))(hn:st.length≤1000000) :
 Calls prog 69 #[.agg #[.slice A st.length cap],.string s] w fun e w'=>e=.returned (.int .i64 (sy (bh st) s))∧Grow w w':=by
 have HST:=aa hst;have HR:=aa hr;have HB:=aa (aD w 44 #[.slice A st.length cap]);have HG:=aa ((ah w).alloc (.cells #[.slice A st.length cap] 44));obtain⟨iH,hA⟩:∃a,sy (bh st) s=a:=⟨_,rfl⟩;rw[hA];have HA:=aa hA;have fP:=HB.o.cell;clear hst hr hA;go_enter func69,ntmps69;go_wp2_with fail;clear fP;go_loopg [5] (st.length+1) (fun gk i wr=>∃j:Nat,j≤st.length∧gk+j=st.length+1∧i=.int .i64 j∧(∀i (hi:i<st.length),i<j→st[i].name≠s)∧Grow w wr∧Blk wr w.heap.size 44 #[.slice A st.length cap]);exact⟨0,ba _,rfl,rfl,fun _ _ h=>absurd h (by omega),HG.o,HB.o⟩;obtain⟨j,hj,hg,rfl,hne,hgr,hb⟩:=hrel;obtain⟨gk',rfl⟩:=bS gk (by omega);have HN:=aa hne;have aH:=aa hgr;have pV:=aa hb;have fP:=hb.cell;clear hne hb;by_cases hlt:j<st.length
 ·obtain⟨bk,o,e,rfl,hbk,aR,hcell⟩:=(HST.o.grow hgr).sx j hlt;have h0:=hcell 0 _ rfl (by omega);rw[gf,aR.nm] at h0;obtain⟨q,hq⟩:∃q,st[j].name=q:=⟨_,rfl⟩;rw[hq] at h0;have HQ:=aa hq;clear hcell aR hgr hq;by_cases he:q=s
  ·have nU:(q.toList==s.toList)=true:=(yU _ _).2 he;have HE:=aa he;clear he;go_wp2_with fail;go_ret;refine⟨?_,aH.o⟩;rw[← HA.o,WM HR.o (j:=j) (by rw[dZ];exact hlt) (by rw[iZ,HQ.o,HE.o])];rfl
  have nU:(q.toList==s.toList)=false:=Lp he;have HE:=aa he;clear he;go_wp2_with fail;go_roundg gk';refine⟨j+1,by omega,by omega,by go_num,fun i hi hij=>?_,aH.o,pV.o⟩;by_cases ir:i=j
  ·subst ir;rw[HQ.o];exact HE.o
  exact HN.o i hi (by omega);omega
 have hjl:j=st.length:=by omega
 subst hjl;clear hgr;go_wp2_with fail;go_ret;refine⟨?_,aH.o⟩;rw[← HA.o,WN HR.o fun i hi=>by rw[iZ];exact HN.o i (by simpa using hi) (by simpa using hi)];rfl
theorem G7(nm:ByteArray)(dA:Option Addr)(dn dc:Nat)(xs:List Ix)(s:ByteArray)(A:Option Addr)(cap:Nat)(w:World)(hx:kK w A xs)(hr:fI (gG (xs.map Ix.name)))(hn:xs.length≤1000000) :
 Calls prog 77 #[.agg #[.string nm,.slice dA dn dc,.slice A xs.length cap],.string s] w fun e w'=>e=.returned (.int .i64 (sy (xs.map Ix.name) s))∧Grow w w':=by
 have HX:=aa hx;have HR:=aa hr;have HB:=aa (aD w 48 #[.string nm,.slice dA dn dc,.slice A xs.length cap]);have HG:=aa ((ah w).alloc (.cells #[.string nm,.slice dA dn dc,.slice A xs.length cap] 48));obtain⟨iH,hA⟩:∃a,sy (xs.map Ix.name) s=a:=⟨_,rfl⟩;rw[hA];have HA:=aa hA;have fP:=HB.o.cell;clear hx hr hA;go_enter func77,ntmps77;go_wp2_with fail;clear fP;go_loopg [5] (xs.length+1) (fun gk i wr=>∃j:Nat,j≤xs.length∧gk+j=xs.length+1∧i=.int .i64 j∧(∀i (hi:i<xs.length),i<j→xs[i].name≠s)∧Grow w wr∧Blk wr w.heap.size 48 #[.string nm,.slice dA dn dc,.slice A xs.length cap]);exact⟨0,ba _,rfl,rfl,fun _ _ h=>absurd h (by omega),HG.o,HB.o⟩;obtain⟨j,hj,hg,rfl,hne,hgr,hb⟩:=hrel;obtain⟨gk',rfl⟩:=bS gk (by omega);have HN:=aa hne;have aH:=aa hgr
 have pV:=aa hb;have fP:=hb.cell;clear hne hb;by_cases hlt:j<xs.length
 ·obtain⟨bk,o,rfl,hbk,h0,-,-⟩:=kK.sx (kK.grow HX.o hgr) j hlt;obtain⟨q,hq⟩:∃q,xs[j].name=q:=⟨_,rfl⟩;rw[hq] at h0;have HQ:=aa hq;clear hgr hq;by_cases he:q=s
  ·have nU:(q.toList==s.toList)=true:=(yU _ _).2 he;have HE:=aa he;clear he;go_wp2_with fail;go_ret;refine⟨?_,aH.o⟩;rw[← HA.o,WM HR.o (j:=j) (by rw[dZ];exact hlt) (by rw[iZ,HQ.o,HE.o])];rfl
  have nU:(q.toList==s.toList)=false:=Lp he;have HE:=aa he;clear he;go_wp2_with fail;go_roundg gk';refine⟨j+1,by omega,by omega,by go_num,fun i hi hij=>?_,aH.o,pV.o⟩;by_cases ir:i=j
  ·subst ir;rw[HQ.o];exact HE.o
  exact HN.o i hi (by omega);omega
 have hjl:j=xs.length:=by omega
 subst hjl;clear hgr;go_wp2_with fail;go_ret;refine⟨?_,aH.o⟩;rw[← HA.o,WN HR.o fun i hi=>by rw[iZ];exact HN.o i (by simpa using hi) (by simpa using hi)];rfl
end
section
open Go.RowKit
theorem PQ{v u:V}{s:ByteArray}(h:jl v s=some u):(v.k=7∧u∈v.l)∨(v.k≠7∧∃n,(n,u)∈v.f):=by
 obtain⟨k,n,b,l,f⟩:=v;by_cases hk:k=7
 ·subst hk;rw[zl] at h;split at h
  ·exact .inl ⟨rfl,yO h⟩
  cases h
 rw[vY hk,CZ] at h;obtain⟨⟨a,x⟩,h1,rfl⟩:=h;exact .inr ⟨hk,a,C0 h1⟩
theorem PR{α:Type}(g:α→List UInt8):∀(l:List α) (x:α),x∈l→(g x).length≤((l.map g).flatten).length
 | y::r,x,h=>by
  rw[fH,mo,bG];rcases je.1 h with h | h
  ·rw[h];omega
  have:=PR g r x h;omega
theorem adU{v u:V}{s:ByteArray}(h:jl v s=some u)(hv:v.good=0):u.good=0:=by
 obtain⟨h1,h2,h3,h4⟩:=Lr.1 hv;obtain⟨k,n,b,l,f⟩:=v;have hm:=(Ls k n b l f 64).1 h2;rw[i7] at h4;refine Lr.2 ⟨K9 h h1,?_,?_,?_⟩
 ·rcases PQ h with ⟨-,q⟩ | ⟨-,m,q⟩
  ·exact hm.2.2.1 u q
  exact hm.2.2.2 _ q
 ·rcases PQ h with ⟨-,q⟩ | ⟨-,m,q⟩
  ·exact bn (V.Od q) h3
  exact bn (V.Oe q) h3
 rw[rT] at h1;simp only[il,iC] at h1;have ho:=h1.1.1.1;unfold V.own at ho;simp only[il,iC] at ho;rcases PQ h with ⟨hk,q⟩ | ⟨hk,m,q⟩
 ·have hk':k=7:=hk;subst hk';have:=PR V.bytes l u q;rw[ai (by decide),ai (by decide),ai (by decide),aw rfl] at h4;simp only[aT] at h4;omega
 have h8:k=8:=by
  rcases ho.2 with e | e
  ·exact e
  have q2:(m,u)∈f:=q;rw[Ay.1 e] at q2;simp at q2
 subst h8;have hm:=PR (fun x:ByteArray×V=>V.item x.1 x.2.bytes) f (m,u) q;have hi:(V.item m u.bytes).length=m.size+u.bytes.length+1:=by rw[V.item];simp
 rw[ai (by decide),ai (by decide),ai (by decide),ai (by decide),aw rfl] at h4;simp only[aT] at h4;dsimp only at hm;omega
theorem WO:∀{l:List ByteArray} {v u:V},lf v l=some u→v.good=0→u.good=0
 | [],v,u,h,hg=>by injection h with h;rw[← h];exact hg
 | s::r,v,u,h,hg=>by
  rw[lf,Kn] at h;obtain⟨x,h1,h2⟩:=h;exact WO h2 (adU h1 hg)
theorem Lt{v u:V}{s:ByteArray}(h:g_ v s=some u):u.good=0:=by
 unfold g_ at h;split at h
 ·rename_i hg;split at h
  ·injection h with h;rw[← h];exact hg
  exact WO h hg
 cases h
theorem adV{path:ByteArray}{d:V}(h:fC d)(he:(eu path d).2.2≠0):(eu path d).2.2=14:=by
 obtain⟨i,hi,hK,-,-,-⟩:=h.id;unfold eu at he ⊢;rw[ai (by simpa using h.key)] at he ⊢
 cases hp:g_ d path with
 | none=>rw[hp] at he;simp at he
 | some u =>
  rw[hp] at he;dsimp only at he ⊢;rw[hi,rP] at he ⊢;have Bl:=Lt hp;have e1:(j_ [u,i] [false,false]).2=0∨(j_ [u,i] [false,false]).2=14:=by
   unfold j_;rw[ai (by simp)];split
   ·right;rename_i h0;dsimp only;unfold qJ at h0 ⊢;by_cases hu:(cI u).2=0
    ·rw[ai (by simpa using hu)] at h0;unfold qJ at h0;rw[hK.cI] at h0;simp[qJ] at h0
    rw[aw hu];unfold cI at hu ⊢;rw[ai (by simpa using Bl)] at hu ⊢;split at hu
    ·rename_i h2;rw[aw h2]
    simp at hu
   split
   ·right;rfl
   left;rfl
  rcases e1 with e1 | e1
  ·rw[ai (by simpa using e1)] at he;simp at he
  rw[aw (by rw[e1];decide),e1]
end
section
open Go.RowKit
abbrev Bn(A:Option Addr)(n cap:Nat)(d:Int)(c i p:ByteArray)(u:Bool)(k l h x:Cv)(qn:Int):Array Value:=
 #[.slice A n cap,.int .i64 d,.string c,.string i,.string p,.bool u,.int .i64 k.k,.int .u64 k.n,.slice k.aB k.nB k.cB,.slice k.aL k.nL k.cL,.slice k.aF k.nF k.cF,
  .int .i64 l.k,.int .u64 l.n,.slice l.aB l.nB l.cB,.slice l.aL l.nL l.cL,.slice l.aF l.nF l.cF,.int .i64 h.k,.int .u64 h.n,.slice h.aB h.nB h.cB,.slice h.aL h.nL h.cL,.slice h.aF h.nF h.cF,
  .int .i64 x.k,.int .u64 x.n,.slice x.aB x.nB x.cB,.slice x.aL x.nL x.cL,.slice x.aF x.nF x.cF,.int .i64 qn,.int .i64 0,.int .i64 0,.slice none 0 0,.int .i64 0]
structure fg (w:World) (B mb:Nat) (A:Option Addr) (cap:Nat) (es:List Cc) (st:List Co) (q:Rq) (ck cl ch cx:Cv):Prop where
 lo:B≤mb
 own:Own w B A cap es st
 blk:Blk w mb 96 (Bn A st.length cap q.bj q.aA q.index q.path q.unique ck cl ch cx q.n)
 key:eN w B q.key ck
 low:eN w B q.low cl
 high:eN w B q.high ch
 doc:eN w B q.doc cx
section
variable {w:World} {B mb cap:Nat} {A:Option Addr} {es:List Cc} {st:List Co} {q:Rq} {ck cl ch cx:Cv}
theorem fg.lt(h:fg w B mb A cap es st q ck cl ch cx):mb<w.heap.size:=h.blk.lt
theorem fg.le(h:fg w B mb A cap es st q ck cl ch cx):B≤w.heap.size:=bn h.lo (pI h.lt)
theorem fg.grow{w':World}(h:fg w B mb A cap es st q ck cl ch cx)(hg:Grow w w'):fg w' B mb A cap es st q ck cl ch cx:=
 ⟨h.lo,h.own.grow h.le hg,h.blk.grow hg,h.key.below hg.below h.le (ay _),h.low.below hg.below h.le (ay _),h.high.below hg.below h.le (ay _),h.doc.below hg.below h.le (ay _)⟩
theorem fg.el(h:fg w B mb A cap es st q ck cl ch cx):es.length=st.length:=h.own.two.1
theorem fg.nz(h:fg w B mb A cap es st q ck cl ch cx):(fun j=>(es.getD j Cc.zero).nm)=fun j=>(bh st).getD j ⟨#[]⟩:=by
 funext j;rw[jf,jf,tL];by_cases hj:j<st.length
 ·have hj':j<es.length:=by rw[h.el];exact hj
  rw[cJ hj,cJ hj'];exact(h.own.two.at_ hj' hj).nm
 have hel:=h.el;rw[Kh (show es.length≤j by omega),Kh (show st.length≤j by omega)];rfl
theorem fg.PS(h:fg w B mb A cap es st q ck cl ch cx):rX w A 3 st.length (fun j=>(es.getD j Cc.zero).cells):=fun j hj=>by
 have hj':j<es.length:=by rw[h.el];exact hj
 have hr:=lg (S:=fun _=>False) h.own.row (fun _ _ h=>h);obtain⟨bk,o,e,hc⟩:=hr.2 (by omega);have hc0:=hc 0 _ (cJ (by rw[V_];omega));refine⟨bk,o,e,hc0.2.1,fun i v hi=>?_⟩;have h3:i<3:=by
  rcases fh i 3 with h3 | h3
  ·exact h3
  rw[tD (by simpa using h3)] at hi;cases hi
 have hget:es.getD j Cc.zero=es[j]:=by rw[jf,cJ hj'];rfl
 change (es.getD j Cc.zero).cells[i]?=some v at hi;rw[hget] at hi;have:=hc (j*3+i) v (by rw[dK,qL _ 3 (fun _=>rfl) es j i h3 es[j] (cJ hj')];rw[pH];exact hi);rw[← kU] at this;exact this.1
theorem fg.short{N:Nat}(h:dX N st):st.length≤140737488355328:=bn h.n (by omega)
theorem adW(h:fg w B mb A cap es st q ck cl ch cx)(hs:st.length≤140737488355328) :
 Calls prog 115 #[.pointer (some ⟨mb,0,none⟩)] w fun e w'=>e=.returned (.tuple #[.int .i64 (bV (bh st) q.aA:Nat),.bool (cK (bh st) q.aA)])∧Grow w w':=by
 have h0:w.cell? ⟨mb,0,none⟩=some (.slice A st.length cap):=by rw[h.blk.cell];rfl
 have h2:w.cell? ⟨mb,2,none⟩=some (.string q.aA):=by rw[h.blk.cell];rfl
 have:=Wo st.length cap mb A (fun j=>es.getD j Cc.zero) q.aA w hs h.PS h0 h2 h.lt;rw[h.nz] at this;unfold bV cK;rw[dZ];exact this
theorem WQ(h:fg w B mb A cap es st q ck cl ch cx)(hs:st.length≤140737488355328)(hf:cK (bh st) q.aA=true){gb:Nat}(hA:A=some ⟨gb,0,none⟩) :
 Calls prog 117 #[.pointer (some ⟨mb,0,none⟩)] w fun e w'=>e=.returned (.pointer (some ⟨gb,bV (bh st) q.aA*3,none⟩))∧Grow w w':=by
 subst hA;have h0:w.cell? ⟨mb,0,none⟩=some (.slice (some ⟨gb,0,none⟩) st.length cap):=by rw[h.blk.cell];rfl
 have h2:w.cell? ⟨mb,2,none⟩=some (.string q.aA):=by rw[h.blk.cell];rfl
 have:=adI st.length cap mb gb 0 (fun j=>es.getD j Cc.zero) q.aA w hs h.PS h0 h2 h.lt (by
  rw[h.nz];unfold cK at hf;rw[dZ] at hf;exact hf)
 rw[h.nz,dY] at this;unfold bV;rw[dZ];exact this
theorem fg.gb(h:fg w B mb A cap es st q ck cl ch cx)(hf:cK (bh st) q.aA=true):∃gb,A=some ⟨gb,0,none⟩∧B≤gb∧gb<w.heap.size∧gb≠mb:=by
 have hl:=(lU hf).2.2.2;obtain⟨g,cur,e,hb,hg,-⟩:=kL h.own.row (by omega);refine⟨g,e,hb,(tM.1 hg).1,fun e'=>?_⟩;exact ez h.own.row h.blk (by decide) (by rw[e,← e'];rfl)
theorem fg.co(h:fg w B mb A cap es st q ck cl ch cx)(hf:cK (bh st) q.aA=true){gb:Nat}(hA:A=some ⟨gb,0,none⟩):∃e,es[bV (bh st) q.aA]?=some e∧iQ w B e (bD st q.aA) ∧
 (∀i v,e.cells[i]?=some v→w.cell? ⟨gb,bV (bh st) q.aA*3+i,none⟩=some v):=by
 obtain⟨h1,-,-,hl⟩:=lU hf;have hl':bV (bh st) q.aA<es.length:=by rw[h.el];exact hl
 refine⟨es[bV (bh st) q.aA],cJ hl',h.own.two.2 _ _ _ (cJ hl') h1,fun i v hi=>?_⟩;obtain⟨bk,o,e,-,hc⟩:=h.PS _ hl;rw[hA] at e;injection e with e;injection e with e1 e2;subst e1 e2;have hget:es.getD (bV (bh st) q.aA) Cc.zero=es[bV (bh st) q.aA]:=by rw[jf,cJ hl'];rfl
 have:=hc i v (by dsimp only;rw[hget];exact hi);rwa [dY] at this
end
def qN(w:World)(B mb:Nat)(r:oM)(e:Ending)(w':World):Prop:=
 Below B w w'∧match r with
  | .error k=>e=.panicked (thrown k)
  | .ok (st',n,ag)=>e=.returned (.tuple #[])∧mb<w'.heap.size∧∃A cap dA dc,w'.cell? ⟨mb,0,none⟩=some (.slice A st'.length cap)∧dW w' A cap st' ∧
   w'.cell? ⟨mb,28,none⟩=some (.int .i64 n)∧w'.cell? ⟨mb,29,none⟩=some (.slice dA ag.length dc)∧InL w' dA dc ag
theorem qN.err{w w':World}{B mb:Nat}{r:oM}{k:Int}(hb:Below B w w')(hr:r=.error k):qN w B mb r (.panicked (thrown k)) w':=by subst hr;exact⟨hb,rfl⟩
theorem qN.ok{w w':World}{B mb:Nat}{r:oM}{st':List Co}{n:Int}{ag:List V}(hb:Below B w w')(hr:r=.ok (st',n,ag))(hm:mb<w'.heap.size){A dA:Option Addr}{cap dc:Nat}(h0:w'.cell? ⟨mb,0,none⟩=some (.slice A st'.length cap))(hs:dW w' A cap st')
 (Lu:w'.cell? ⟨mb,28,none⟩=some (.int .i64 n)) (PT:w'.cell? ⟨mb,29,none⟩=some (.slice dA ag.length dc)) (hd:InL w' dA dc ag):qN w B mb r (.returned (.tuple #[])) w':=by
 subst hr;exact⟨hb,rfl,hm,A,cap,dA,dc,h0,hs,Lu,PT,hd⟩
theorem InL.nil(w:World):InL w none 0 []:=by
 unfold InL In;rw[IsV];exact⟨rfl,rfl,rfl,rfl,rfl,by decide,by decide,by decide,by simp,by simp,by simp,by simp,by simp,by simp,⟨rfl,fun h=>by simp at h⟩,fun i hi=>by simp at hi,fun i hi=>by simp at hi⟩
end
abbrev zB:=@qN.err
section
open Go.RowKit
def PU(w:World)(S:Nat→Prop):Prop:=∀q,S q→∃T cs,Blk w q T cs∧T≠27∧T≠64
theorem iQ.far{S:Nat→Prop}{w:World}{B:Nat}{e:Cc}{c:Co}(h:iQ w B e c)(hT:PU w S):(∀g,bw e.dA=some g→¬ S g)∧(∀g,bw e.xA=some g→¬ S g):=by
 obtain⟨cs,h1,h2⟩:=h.ag;refine⟨fun g hg hs=>?_,fun g hg hs=>?_⟩
 ·obtain⟨T,ds,hb,t1,t2⟩:=hT g hs;exact ez h1 hb (fun e=>t1 e.symm) hg
 obtain⟨T,ds,hb,t1,t2⟩:=hT g hs;exact ez h.aq hb (fun e=>t2 e.symm) hg
theorem iQ.lL{w:World}{B:Nat}{e:Cc}{c:Co}(h:iQ w B e c)(hB:B≤w.heap.size)(hl:c.ag.length≤140737488355328):su w e c:=
 (h.r (S:=fun _=>False) hB (fun _ h=>h.elim) (fun _ _ h=>h) (fun _ _ h=>h) hl).mono km
theorem iQ.grow{w w':World}{B:Nat}{e:Cc}{c:Co}(h:iQ w B e c)(hB:B≤w.heap.size)(hg:Grow w w'):iQ w' B e c:=h.keep (gJ (S:=fun _=>False) hg) hB (fun _ h=>h.elim) (fun _ _ h=>h) (fun _ _ h=>h)
theorem WR{S:Nat→Prop}{w w':World}{B cap':Nat}{A':Option Addr}{es':List Cc}{st':List Co}(two:Two (iQ w B) es' st')(hk:Kept S w w')(hB:B≤w.heap.size)(hs:∀q,S q→B≤q)(hT:PU w S)(hl:∀c∈st',c.ag.length≤140737488355328)
 (hrow:w'.ownsRow B 48 3 (.slice A' st'.length cap') st'.length (dK es')):dW w' A' cap' st':=by
 refine⟨(nr hrow).1,es',⟨two.1,fun j e c he hc=>?_⟩,(lg (S:=fun _=>False) hrow (fun _ _ h=>h)).mono km⟩;have ho:=two.2 j e c he hc;have hf:=ho.far hT;exact(ho.keep hk hB hs hf.1 hf.2).lL (bn hB hk.size) (hl c (yO hc))
theorem adX{S:Nat→Prop}{w w':World}{B cap p:Nat}{A:Option Addr}{es:List Cc}{st:List Co}{e':Cc}{c':Co}(h:Own w B A cap es st)(hk:Kept S w w')(hB:B≤w.heap.size)(hs:∀q,S q→B≤q)
 (ho:∀(j:Nat) (e:Cc),j≠p→es[j]?=some e→(∀g,bw e.dA=some g→¬ S g)∧(∀g,bw e.xA=some g→¬ S g)) (hl:∀c∈st,c.ag.length≤140737488355328) (hp:su w' e' c')
 (hrow:w'.ownsRow B 48 3 (.slice A st.length cap) st.length (dK (es.set p e'))):dW w' A cap (st.set p c'):=by
 refine⟨by rw[kD];exact(nr hrow).1,es.set p e',Two.set' h.two.1 p (fun j e c hj he hc=>?_) hp,?_⟩
 ·have wB:=h.two.2 j e c he hc;have hf:=ho j e hj he;exact(wB.keep hk hB hs hf.1 hf.2).lL (bn hB hk.size) (hl c (yO hc))
 rw[kD];exact(lg (S:=fun _=>False) hrow (fun _ _ h=>h)).mono km
section
variable {w:World} {B mb cap:Nat} {A:Option Addr} {es:List Cc} {st:List Co} {q:Rq} {ck cl ch cx:Cv}
theorem fg.adY(h:fg w B mb A cap es st q ck cl ch cx):PU w (fun q=>q=mb):=by
 rintro q rfl;exact⟨_,_,h.blk,by decide,by decide⟩
theorem fg.DX(h:fg w B mb A cap es st q ck cl ch cx):bw A≠some mb:=ez h.own.row h.blk (by decide)
theorem fg.finish(h:fg w B mb A cap es st q ck cl ch cx){w':World}(hk:Kept (fun q=>q=mb) w w')(hl:∀c∈st,c.ag.length≤140737488355328):dW w' A cap st:=
 WR h.own.two hk h.le (fun q hq=>hq ▸ h.lo) h.adY hl (gF h.own.row hk (fun g hg e=>h.DX (e ▸ hg)))
end
theorem dX.dl{N:Nat}{st:List Co}(h:dX N st)(hN:N≤1000000):∀c∈st,c.ag.length≤140737488355328:=fun c hc=>by have:=(h.co c hc).nd;omega
end
section
open Go.RowKit
abbrev Ix.zero:Ix:=⟨⟨#[]⟩,⟨#[]⟩,false⟩
theorem adZ{w:World}{B:Nat}{xA:Option Addr}{xc:Nat}{aq:List Ix}(h:w.ownsRow B 64 3 (.slice xA aq.length xc) aq.length (fU aq)):rX w xA 3 aq.length (fun j=>(aq.getD j Ix.zero).cells):=fun j hj=>by
 have hr:=lg (S:=fun _=>False) h (fun _ _ h=>h);obtain⟨bk,o,e,hc⟩:=hr.2 (by omega);have hc0:=hc 0 _ (cJ (by rw[ado];omega));refine⟨bk,o,e,hc0.2.1,fun i v hi=>?_⟩;have h3:i<3:=by
  rcases fh i 3 with h3 | h3
  ·exact h3
  rw[tD (by simpa using h3)] at hi;cases hi
 have hget:aq.getD j Ix.zero=aq[j]:=by rw[jf,cJ hj];rfl
 change (aq.getD j Ix.zero).cells[i]?=some v at hi;rw[hget] at hi;have:=hc (j*3+i) v (by rw[fU,qL _ 3 (fun _=>rfl) aq j i h3 aq[j] (cJ hj)];rw[pH];exact hi);rw[← kU] at this;exact this.1
theorem ad0(aq:List Ix):(fun j=>(aq.getD j Ix.zero).name)=fun j=>(aq.map Ix.name).getD j ⟨#[]⟩:=by
 funext j;rw[jf,jf,tL]
 cases aq[j]?<;>rfl
section
variable {w:World} {B mb cap gb P:Nat} {A:Option Addr} {es:List Cc} {st:List Co} {q:Rq} {ck cl ch cx:Cv} {e:Cc} {c:Co}
theorem ad1(h:fg w B mb A cap es st q ck cl ch cx)(aR:iQ w B e c)(hcell:∀i v,e.cells[i]?=some v→w.cell? ⟨gb,P*3+i,none⟩=some v)(hgl:gb<w.heap.size)(hx:c.aq.length≤140737488355328) :
 Calls prog 125 #[.pointer (some ⟨mb,0,none⟩),.pointer (some ⟨gb,P*3,none⟩)] w fun r w'=>r=.returned (.tuple #[.int .i64 (bV (gj c) q.index:Nat),.bool (cK (gj c) q.index)])∧Grow w w':=by
 have h2:=hcell 2 (.slice e.xA e.xn e.xc) rfl;have hr:=adZ aR.aq;rw[aR.xn] at h2;have:=adH c.aq.length e.xc mb gb (P*3) e.xA (fun j=>c.aq.getD j Ix.zero) q.index w hx hr h2 (by rw[h.blk.cell];rfl) h.lt hgl;rw[ad0] at this;unfold bV cK;rw[dZ];exact this
theorem iQ.Lc(aR:iQ w B e c)(hB:B≤w.heap.size)(hl:c.ag.length≤140737488355328):InL w e.dA e.dc c.ag:=(aR.lL hB hl).ag
end
def Sx(mb gb:Nat)(R:Option Addr)(q:Nat):Prop:=q=mb∨q=gb∨bw R=some q
end
section
open Go.RowKit
def DY(e:Cc)(R:Option Addr):Prop:=R=none∨R=e.dA∨R=e.xA
section
variable {w:World} {B mb cap gb P:Nat} {A:Option Addr} {es:List Cc} {st:List Co} {q:Rq} {ck cl ch cx:Cv} {e:Cc} {c:Co} {R:Option Addr}
theorem DY.le(hR:DY e R)(aR:iQ w B e c):∀g,bw R=some g→B≤g∧g<w.heap.size:=by
 intro g hg;obtain⟨cs,h1,h2⟩:=aR.ag;rcases hR with rfl | rfl | rfl
 ·cases hg
 ·exact bO h1 g (by rw[bH];exact hg)
 exact bO aR.aq g (by rw[bH];exact hg)
theorem DY.ad2(hR:DY e R)(aR:iQ w B e c){k:Nat}{T:TypeId}{cs:Array Value}(hb:Blk w k T cs)(h1:T≠27)(h2:T≠64):bw R≠some k:=by
 obtain⟨ds,r1,r2⟩:=aR.ag;rcases hR with rfl | rfl | rfl
 ·intro h;cases h
 ·exact ez r1 hb (fun e=>h1 e.symm)
 exact ez aR.aq hb (fun e=>h2 e.symm)
theorem fg.G8(h:fg w B mb A cap es st q ck cl ch cx)(hA:A=some ⟨gb,0,none⟩)(hn:0<st.length):∃cur,Blk w gb 48 cur∧B≤gb:=by
 obtain⟨g,cur,e,hb,hg,-⟩:=kL h.own.row hn;rw[hA] at e
 cases e
 exact⟨cur,hg,hb⟩
theorem ad3(h:fg w B mb A cap es st q ck cl ch cx)(hA:A=some ⟨gb,0,none⟩)(he:es[P]?=some e)(aR:iQ w B e c)(hP:P<st.length)(hR:DY e R){w5:World}{e':Cc}{c':Co}(hk:Kept (Sx mb gb R) w w5)(hl:∀c∈st,c.ag.length≤140737488355328)(hp:su w5 e' c')
 (hrow:w5.ownsRow B 48 3 (.slice A st.length cap) st.length (dK (es.set P e'))):dW w5 A cap (st.set P c'):=by
 obtain⟨cur,hgb,DZ⟩:=h.G8 hA (by omega);refine adX h.own hk h.le ?_ (fun j e2 hj nU=>?_) hl hp hrow
 ·rintro k (rfl | rfl | hk)
  ·exact h.lo
  ·exact DZ
  exact(hR.le aR k hk).1
 have G9:j<st.length:=by rw[← h.el];exact(kC.1 nU).1
 have wB:=h.own.two.2 j e2 st[j] nU (cJ G9);obtain⟨ds,r1,r2⟩:=wB.ag;obtain⟨ds',s1,s2⟩:=aR.ag;refine⟨fun g hg hs=>?_,fun g hg hs=>?_⟩
 ·rcases hs with rfl | rfl | hs
  ·exact ez r1 h.blk (by decide) hg
  ·exact ez r1 hgb (by decide) hg
  rcases hR with rfl | rfl | rfl
  ·cases hs
  ·exact h.own.GS j P e2 e nU he hj g hg hs
  exact K7 r1 aR.aq (by decide) g hg hs
 rcases hs with rfl | rfl | hs
 ·exact ez wB.aq h.blk (by decide) hg
 ·exact ez wB.aq hgb (by decide) hg
 rcases hR with rfl | rfl | rfl
 ·cases hs
 ·exact K7 wB.aq s1 (by decide) g hg hs
 exact h.own.GU j P e2 e nU he hj g hg hs
theorem ad4(h:fg w B mb A cap es st q ck cl ch cx)(hA:A=some ⟨gb,0,none⟩)(he:es[P]?=some e)(aR:iQ w B e c)(hP:P<st.length)(hR:DY e R){w4:World}(hk:Kept (fun k=>k=mb∨bw R=some k) w w4){k:Nat}{v:Value}{e':Cc}(hk3:k<3)(iu:e'.cells.toList=e.cells.toList.set k v) :
 (w4.setCell ⟨gb,P*3+k,none⟩ v).ownsRow B 48 3 (.slice A st.length cap) st.length (dK (es.set P e')):=by
 obtain⟨cur,hgb,DZ⟩:=h.G8 hA (by omega);have hel:=h.el;obtain⟨hPe,hee⟩:=kC.1 he;have h4:=gF h.own.row hk (fun g hg hs=>by
  rw[hA] at hg
  cases hg
  rcases hs with hs | hs
  ·exact h.DX (by rw[hA,← hs];rfl)
  exact hR.ad2 aR hgb (by decide) (by decide) hs)
 subst hA;exact Pr h4 hPe hel hk3 (by rw[hee];exact iu)
theorem ad5{w4 w5:World}{k:Nat}{v:Value}(hk:Kept (fun k=>k=mb∨bw R=some k) w w4)(h5:w5=w4.setCell ⟨gb,k,none⟩ v):Kept (Sx mb gb R) w w5:=by
 subst h5;exact(hk.mono (fun q hq=>hq.elim (fun h=>.inl h) (fun h=>.inr (.inr h)))).set (p:=⟨gb,k,none⟩) (.inr (.inl rfl)) v
end
theorem PV{w:World}{base g n c z D:Nat}{T:TypeId}{xs vs:List Value}(h:w.ownsRow base T z (.slice (some ⟨g,0,none⟩) n c) n xs)(hD:D<n)(hz:vs.length=z) :
 (w.setCells g (D*z) vs).ownsRow base T z (.slice (some ⟨g,0,none⟩) n c) n (xs.take (D*z)++vs++xs.drop ((D+1)*z)):=by
 obtain⟨g',cur,e,hb,hg,h1,h2,h3,ht,hl⟩:=kL h (by omega)
 cases e
 have hDz:D*z+z≤n*z:=by rw[← CV];exact iB z hD
 have hnz:n*z≤cur.size:=by rw[h3];exact iB z h1
 obtain⟨cur',hg',hs',hl'⟩:=xH hg vs (o:=D*z) (by omega);have e1:(D+1)*z=D*z+z:=by rw[mn,rO]
 refine K8 hb hg' h1 h2 (by rw[hs',h3]) ?_ ?_
 ·rw[hl',List.take_append,jD (by simp[hz];omega),← ht,e1,List.drop_take,Ks,qu (by omega)];simp only[bG,dS,yJ,qu (show D*z≤cur.size by omega),hz]
 rw[bG,bG,dS,iM,hl,hz,e1];omega
end
section
open Go.RowKit
section
variable {α:Type} (f:α→List Value) (z:Nat) (hz:∀x,(f x).length=z) (hp:0<z)
include hz hp
theorem ad6(l:List α)(j:Nat)(u:Value)(h:((l.map f).flatten)[j]?=some u):∃i k x,j=i*z+k∧k<z∧l[i]?=some x∧(f x)[k]?=some u:=by
 have hj:j<l.length*z:=by
  have:=(kC.1 h).1;rwa [DA f z hz] at this
 have hd:z*(j / z)+j % z=j:=xb j z;have hk:j % z<z:=yN _ hp;have hi:j / z<l.length:=by rw[CX hp];exact hj
 refine⟨j / z,j % z,l[j / z],by rw[qs];exact hd.symm,hk,cJ hi,?_⟩;rw[← qL f z hz l (j / z) (j % z) hk l[j / z] (cJ hi),qs,hd];exact h
end
theorem ad7{C:Addr→Value→Prop}{k:Int}{n:Nat}{b:List UInt8}{l:List V}{f:List (ByteArray×V)}{c:Cv}(h:IsV C (.mk k n b l f) c)(i:Nat)(hil:i<l.length):∃bk o x,c.aL=some ⟨bk,o,none⟩∧kE C bk (o+i*5) x∧IsV C l[i] x:=by
 rw[IsV] at h;exact h.2.2.2.2.2.2.2.2.2.2.2.2.2.2.2.1 i hil
theorem PW{C:Addr→Value→Prop}{A:Option Addr}{ag:List V}{cap:Nat}(h:IsV C (.mk 7 0 [] ag []) (kH A ag.length cap)) :
 ∃cs,Reads C 5 A ag.length (dG cs)∧Two (fun v c=>IsV C v c) ag cs:=by
 have hx:∀i,∃x:Cv,∀hi:i<ag.length,∃bk o,A=some ⟨bk,o,none⟩∧kE C bk (o+i*5) x∧IsV C ag[i] x:=fun i=>by
  by_cases hi:i<ag.length
  ·obtain⟨bk,o,x,h1,h2,h3⟩:=ad7 h i hi;exact⟨x,fun _=>⟨bk,o,h1,h2,h3⟩⟩
  exact⟨Cv.zero,fun hi'=>absurd hi' hi⟩
 obtain⟨x,hx⟩:=Classical.axiomOfChoice hx;have hget:∀i,i<ag.length→((List.range ag.length).map x)[i]?=some (x i):=fun i hi=>by
  rw[tL,List.getElem?_range hi];rfl
 refine⟨(List.range ag.length).map x,⟨by rw[Pp];simp,fun hn=>?_⟩,by simp,fun i v c hv hc=>?_⟩
 ·obtain⟨bk,o,e,-,-⟩:=hx 0 hn;refine⟨bk,o,e,fun j u hu=>?_⟩;obtain⟨i,k,y,rfl,hk,hy,hu⟩:=ad6 _ 5 (fun _=>rfl) (by decide) _ j u hu;have hi:i<ag.length:=by
   have:=(kC.1 hy).1;simpa using this
  rw[hget i hi] at hy
  cases hy
  obtain⟨tU,o',e',h5,-⟩:=hx i hi;rw[e] at e'
  cases e'
  obtain⟨c0,c1,c2,c3,c4⟩:=h5;rcases k with _ | _ | _ | _ | _ | k
  ·cases hu;exact c0
  ·cases hu;exact c1
  ·cases hu;exact c2
  ·cases hu;exact c3
  ·cases hu;exact c4
  omega
 obtain⟨hi,rfl⟩:=kC.1 hv;rw[hget i hi] at hc
 cases hc
 obtain⟨bk,o,-,-,h3⟩:=hx i hi;exact h3
structure wC (w:World) (B:Nat) (A:Option Addr) (cap:Nat) (kM es:List Cc) (st:List Co) (j:Nat):Prop where
 row:w.ownsRow B 48 3 (.slice A st.length cap) st.length (dK es)
 len:es.length=st.length
 done:∀i a c,i<j→es[i]?=some a→st[i]?=some c→iQ w B a c
 rest:∀i,j≤i→es[i]?=kM[i]?
 GS:∀(i k:Nat) (a b:Cc),i<j→k<j→es[i]?=some a→es[k]?=some b→i≠k→∀g,bw a.dA=some g→bw b.dA≠some g
 GU:∀(i k:Nat) (a b:Cc),i<j→k<j→es[i]?=some a→es[k]?=some b→i≠k→∀g,bw a.xA=some g→bw b.xA≠some g
section
variable {w W:World} {B cap j gb:Nat} {A:Option Addr} {kM es:List Cc} {st:List Co} {e':Cc} {c:Co}
theorem wC.start(h:w.ownsRow B 48 3 (.slice A st.length cap) st.length (dK es))(hl:es.length=st.length):wC w B A cap es es st 0:=
 ⟨h,hl,fun _ _ _ h=>absurd h (Nat.not_lt_zero _),fun _ _=>rfl,fun _ _ _ _ h=>absurd h (Nat.not_lt_zero _),fun _ _ _ _ h=>absurd h (Nat.not_lt_zero _)⟩
theorem wC.finish(h:wC w B A cap kM es st j)(hj:st.length≤j):Own w B A cap es st:=by
 have hlt:∀(i:Nat) (a:Cc),es[i]?=some a→i<j:=fun i a ha=>by
  have:=(kC.1 ha).1;have:=h.len;omega
 exact⟨h.row,⟨h.len,fun i a c ha hc=>h.done i a c (hlt i a ha) ha hc⟩,fun i k a b ha hb=>h.GS i k a b (hlt i a ha) (hlt k b hb) ha hb,fun i k a b ha hb=>h.GU i k a b (hlt i a ha) (hlt k b hb) ha hb⟩
theorem wC.step(h:wC w B A cap kM es st j)(hB:B≤w.heap.size)(hj:j<st.length)(hc:st[j]?=some c)(hA:A=some ⟨gb,0,none⟩)(hgb:B≤gb)(hk:Kept (fun k=>k=gb) w W)
 (hrow:W.ownsRow B 48 3 (.slice A st.length cap) st.length (dK (es.set j e'))) (aR:iQ W B e' c) (hD:∀g,bw e'.dA=some g→w.heap.size≤g) (hX:∀g,bw e'.xA=some g→w.heap.size≤g):wC W B A cap kM (es.set j e') st (j+1):=by
 have hje:j<es.length:=by rw[h.len];exact hj
 have WS:bw A=some gb:=by rw[hA];rfl
 have hs:∀q,q=gb→B≤q:=fun q hq=>hq ▸ hgb
 have zC:∀i,i≠j→(es.set j e')[i]?=es[i]?:=fun i hi=>List.getElem?_set_ne (tN hi)
 have hsj:(es.set j e')[j]?=some e':=by rw[List.getElem?_set_self hje]
 have hold:∀i a,i<j→es[i]?=some a→(∀g,bw a.dA=some g→g<w.heap.size)∧(∀g,bw a.xA=some g→g<w.heap.size)∧(∀g,bw a.dA=some g→¬ g=gb)∧(∀g,bw a.xA=some g→¬ g=gb):=fun i a hi ha=>by
  have hst:i<st.length:=by omega
  have ho:=h.done i a st[i] hi ha (cJ hst);obtain⟨cs,r1,-⟩:=ho.ag;exact⟨fun g hg=>(bO r1 g (by rw[bH];exact hg)).2,fun g hg=>(bO ho.aq g (by rw[bH];exact hg)).2,
   fun g hg e=>K7 r1 h.row (by decide) g hg (e ▸ WS),fun g hg e=>K7 ho.aq h.row (by decide) g hg (e ▸ WS)⟩
 refine⟨hrow,by rw[kD];exact h.len,fun i a c' hi ha hc'=>?_,fun i hi=>by rw[zC i (by omega)];exact h.rest i (by omega),fun i k a b hi hk ha hb hne g hg=>?_,fun i k a b hi hk ha hb hne g hg=>?_⟩
 ·by_cases hij:i=j
  ·subst hij;rw[hsj] at ha;rw[hc] at hc'
   cases ha
   cases hc'
   exact aR
  rw[zC i hij] at ha;obtain⟨-,-,h1,h2⟩:=hold i a (by omega) ha;exact(h.done i a c' (by omega) ha hc').keep hk hB hs h1 h2
 ·by_cases hij:i=j
  ·subst hij;rw[hsj] at ha
   cases ha
   rw[zC k (tN hne)] at hb;intro h2;have h3:=(hold k b (by omega) hb).1 g h2;have h4:=hD g hg;omega
  rw[zC i hij] at ha;by_cases hkj:k=j
  ·subst hkj;rw[hsj] at hb
   cases hb
   intro h2;have h3:=(hold i a (by omega) ha).1 g hg;have h4:=hD g h2;omega
  rw[zC k hkj] at hb;exact h.GS i k a b (by omega) (by omega) ha hb hne g hg
 by_cases hij:i=j
 ·subst hij;rw[hsj] at ha
  cases ha
  rw[zC k (tN hne)] at hb;intro h2;have h3:=(hold k b (by omega) hb).2.1 g h2;have h4:=hX g hg;omega
 rw[zC i hij] at ha;by_cases hkj:k=j
 ·subst hkj;rw[hsj] at hb
  cases hb
  intro h2;have h3:=(hold i a (by omega) ha).2.1 g hg;have h4:=hX g h2;omega
 rw[zC k hkj] at hb;exact h.GU i k a b (by omega) (by omega) ha hb hne g hg
end
end
section
open Go.Shelf Go.RowKit Go.Lib Go.Sort
def WU(Y:Nat→Prop)(w:World)(D4:Nat)(p:Addr)(u:Value):Prop:=w.cell? p=some u∧p.block<D4∧¬ Y p.block
abbrev PX(Y:Nat→Prop)(w:World)(D4:Nat)(v:V)(c:Cv):Prop:=IsV (WU Y w D4) v c
theorem PX.lL{Y:Nat→Prop}{w:World}{D4:Nat}{v:V}{c:Cv}(h:PX Y w D4 v c)(hd:D4≤w.heap.size):In w v c:=fw (fun p u hp=>⟨hp.1,ba _,df hp.2.1 hd⟩) _ _ h
theorem ad8{path:ByteArray}(ag:List V)(j:Nat):(np path (ag.take j)).length≤j:=by
 unfold np;refine bn (List.length_filterMap_le _ _) ?_;rw[dS];omega
end

section
open Go.RowKit
abbrev ad9(A:Option Addr)(n cap:Nat)(d:Int)(c i p:ByteArray)(u:Bool)(k l h x:Cv)(qn rn:Int)(rA:Option Addr)(rl rc:Nat):Array Value:=
 #[.slice A n cap,.int .i64 d,.string c,.string i,.string p,.bool u,.int .i64 k.k,.int .u64 k.n,.slice k.aB k.nB k.cB,.slice k.aL k.nL k.cL,.slice k.aF k.nF k.cF,
  .int .i64 l.k,.int .u64 l.n,.slice l.aB l.nB l.cB,.slice l.aL l.nL l.cL,.slice l.aF l.nF l.cF,.int .i64 h.k,.int .u64 h.n,.slice h.aB h.nB h.cB,.slice h.aL h.nL h.cL,.slice h.aF h.nF h.cF,
  .int .i64 x.k,.int .u64 x.n,.slice x.aB x.nB x.cB,.slice x.aL x.nL x.cL,.slice x.aF x.nF x.cF,.int .i64 qn,.int .i64 0,.int .i64 rn,.slice rA rl rc,.int .i64 0]
theorem ad_(cl ch:Cv)(w:World):(Instr.index 173 (.agg #[.int .i64 cl.k,.int .u64 cl.n,.slice cl.aB cl.nB cl.cB,.slice cl.aL cl.nL cl.cL,.slice cl.aF cl.nF cl.cF,.int .i64 ch.k,.int .u64 ch.n,.slice ch.aB ch.nB ch.cB,.slice ch.aL ch.nL ch.cL,.slice ch.aF ch.nF ch.cF]) (.int .i64 0)).run prog w=.ok cl.agg w:=by kernel_rfl
theorem aea(cl ch:Cv)(w:World):(Instr.index 173 (.agg #[.int .i64 cl.k,.int .u64 cl.n,.slice cl.aB cl.nB cl.cB,.slice cl.aL cl.nL cl.cL,.slice cl.aF cl.nF cl.cF,.int .i64 ch.k,.int .u64 ch.n,.slice ch.aB ch.nB ch.cB,.slice ch.aL ch.nL ch.cL,.slice ch.aF ch.nF ch.cF]) (.int .i64 1)).run prog w=.ok ch.agg w:=by kernel_rfl
theorem IsV.WV{C:Addr→Value→Prop}{k:Int}{n:Nat}{b:List UInt8}{l:List V}{f:List (ByteArray×V)}{c:Cv}(h:IsV C (.mk k n b l f) c)(i:Nat)(hil:i<l.length):∃bk o x,c.aL=some ⟨bk,o,none⟩∧kE C bk (o+i*5) x∧IsV C l[i] x:=by
 rw[IsV] at h;exact h.2.2.2.2.2.2.2.2.2.2.2.2.2.2.2.1 i hil
noncomputable def oc(c:Co)(q:Rq)(ds:List V)(j:Nat):List V:=((ds.take j).filter fun d=>fQ (sj q (sk c q) d) q.low q.high).take q.n.toNat
theorem Lv{c:Co}{q:Rq}{ds:List V}{j:Nat}(hj:j<ds.length)(hl:(oc c q ds j).length<q.n.toNat)(hw:fQ (sj q (sk c q) ds[j]) q.low q.high=true):oc c q ds (j+1)=oc c q ds j++[ds[j]]:=by
 unfold oc at hl ⊢;rw[mv ds j hj,Ku,List.filter_cons_of_pos (by exact hw),Kv];obtain⟨L,hL⟩:∃L,(ds.take j).filter (fun d=>fQ (sj q (sk c q) d) q.low q.high)=L:=⟨_,rfl⟩;rw[hL] at hl ⊢;rw[dS] at hl;have h1:L.take q.n.toNat=L:=jD (by omega);rw[h1,jD (by rw[bG,Fl];omega)]
theorem aeb(c:Co)(q:Rq)(ds:List V)(j:Nat):(oc c q ds j).length≤j:=by
 unfold oc;rw[dS];have h1:=List.length_filter_le (fun d=>fQ (sj q (sk c q) d) q.low q.high) (ds.take j);rw[dS] at h1;omega
theorem WW{S:Nat→Prop}{w w7:World}{lo c c7 g:Nat}{A:Option Addr}{hs:List Cv}{l:List V}{d:Cv}{v:V}{zs:List Value}(h:VR S w lo A c hs l)(hv:IsV (eD w (fun q=>bw A=some q∨S q)) v d)(hr:w7.ownsRow lo 27 5 (.slice (some ⟨g,0,none⟩) (hs.length+1) c7) (hs.length+1) (dG hs++zs))(hz:zs.length=5)
 (hg:w.grownBy w7 (Value.ownBlock (.slice A hs.length c))) (hat:Value.ownBlock (.slice (some ⟨g,0,none⟩) (hs.length+1) c7)=Value.ownBlock (.slice A hs.length c)∨Value.ownBlock (.slice (some ⟨g,0,none⟩) (hs.length+1) c7)=some w.heap.size) :
 VR S (w7.setCells g (hs.length*5) d.cells.toList) lo (some ⟨g,0,none⟩) c7 (hs++[d]) (l++[v]):=by
 rw[bH] at hg;rw[bH,bH] at hat
 have hput:=PV (D:=hs.length) (vs:=d.cells.toList) hr (by omega) rfl;have hk:Kept (fun q=>bw A=some q∨bw (some ⟨g,0,none⟩)=some q) w (w7.setCells g (hs.length*5) d.cells.toList):=
  ((Bf hg).mono (fun q hq=>.inl hq)).trans ((Bf (jF g (some g) rfl d.cells.toList w7 (hs.length*5))).mono (fun q hq=>.inr hq))
 have hC:∀p u,eD w (fun q=>bw A=some q∨S q) p u→eD (w7.setCells g (hs.length*5) d.cells.toList) (fun q=>bw (some ⟨g,0,none⟩)=some q∨S q) p u:=fun p u hp=>by
  have hne:bw (some ⟨g,0,none⟩)≠some p.block:=fun e=>by
   rcases hat with h1 | h1
   ·exact hp.2.2 (.inl (by rw[← h1];exact e))
   rw[h1] at e;injection e with e;have:=hp.2.1;omega
  refine⟨(vG (hk.block p.block hp.2.1 (fun hq=>?_))).trans hp.1,df hp.2.1 hk.size,fun hq=>?_⟩
  ·rcases hq with hq | hq
   ·exact hp.2.2 (.inl hq)
   exact hne hq
  rcases hq with hq | hq
  ·exact hne hq
  exact hp.2.2 (.inr hq)
 refine⟨?_,(h.two.mono fun x y k=>fw hC _ _ k).append (Two.one (fw hC _ _ hv))⟩;have e0:(dG hs).length=hs.length*5:=Pp hs;rw[FK (by omega),jD (by omega),J9 (by rw[bG,e0,hz];omega),ml] at hput;rw[bG,Fl,nR,Av,fH,pF,mo,J6,ml];exact hput
theorem WX{c:Co}{q:Rq}{ds:List V}{j:Nat}(hj:j<ds.length)(h:¬ (oc c q ds j).length<q.n.toNat∨fQ (sj q (sk c q) ds[j]) q.low q.high=false):oc c q ds (j+1)=oc c q ds j:=by
 unfold oc at h ⊢;rw[mv ds j hj,Ku];rcases h with h | h
 ·rw[dS] at h;rw[FK (by omega)]
 rw[List.filter_cons_of_neg (by rw[h];decide),Kv,ml]
theorem Kept.aec{S:Nat→Prop}{a w w':World}{r:Option Nat}(h:Kept S a w)(hg:w.grownBy w' r)(hr:∀k,r=some k→a.heap.size≤k):Kept S a w':=
 ⟨hg.os.trans h.os,hg.tape.trans h.tape,hg.output.trans h.output,bn h.size hg.size,fun k hk hs=>(hg.block k (df hk h.size) (fun e=>by have:=hr k e.symm;omega)).trans (h.block k hk hs)⟩
theorem WY:V.zero.count≤20000:=by
 unfold V.zero;rw[tP];decide
theorem aed(w:World)(p r:Addr)(v u:Value)(h:r.block≠p.block):(w.setCell p v).setCell r u=(w.setCell r u).setCell p v:=by
 unfold World.setCell;congr 1;refine N5 fun i=>?_
 simp only[Ff];by_cases h1:r.block=i<;>by_cases h2:p.block=i<;>simp_all
theorem PY{g:Nat}{p:Addr}(h:g≠p.block):∀{l:List Value} {w:World} {o:Nat} {v:Value},(w.setCell p v).setCells g o l=(w.setCells g o l).setCell p v
 | [],_,_,_=>rfl
 | x::r,w,o,v=>by
  rw[World.setCells,World.setCells,aed w p ⟨g,o,none⟩ v x h];exact PY h
theorem aee(path:ByteArray)(ag:List V):(pS path ag).length≤ag.length:=by
 unfold pS;split
 ·rw[(DR _).length_eq];exact List.length_filterMap_le _ _
 exact ba _
end
abbrev D5:=@Kept.aec
section
open Go.RowKit
def jx(w:World)(S:Nat→Prop):Prop:=∀(p:Addr) (u:Value),S p.block→w.cell? p=some u→(∀n,u≠.int .u8 n)∧(∀n,u≠.int .u64 n)∧∀s,u≠.string s
theorem jx.u8{w:World}{S:Nat→Prop}(h:jx w S){p:Addr}{n:Int}(hc:bK w 0 w.heap.size p (.int .u8 n)):eD w S p (.int .u8 n):=⟨hc.1,hc.2.2,fun hs=>(h p _ hs hc.1).1 n rfl⟩
theorem jx.str{w:World}{S:Nat→Prop}(h:jx w S){p:Addr}{s:ByteArray}(hc:bK w 0 w.heap.size p (.string s)):eD w S p (.string s):=⟨hc.1,hc.2.2,fun hs=>(h p _ hs hc.1).2.2 s rfl⟩
theorem jx.WZ{w:World}{S:Nat→Prop}(h:jx w S){bk o:Nat}{c:Cv}(hc:kE (bK w 0 w.heap.size) bk o c):kE (eD w S) bk o c:=by
 obtain⟨h0,h1,h2,h3,h4⟩:=hc;have hn:¬ S bk:=fun hs=>(h ⟨bk,o+1,none⟩ _ hs h1.1).2.1 _ rfl
 exact⟨⟨h0.1,h0.2.2,hn⟩,⟨h1.1,h1.2.2,hn⟩,⟨h2.1,h2.2.2,hn⟩,⟨h3.1,h3.2.2,hn⟩,⟨h4.1,h4.2.2,hn⟩⟩
theorem IsV.bare{w:World}{S:Nat→Prop}(h:jx w S)(v:V):∀c,IsV (bK w 0 w.heap.size) v c→IsV (eD w S) v c:=by
 induction v using V.ind with
 | h k n b l f hl hf =>
  intro c hv;rw[IsV] at hv ⊢;obtain⟨e1,e2,e3,e4,e5,h1,h2,h3,h4,h5,h6,h7,h8,h9,hb,hL,hF⟩:=hv;refine⟨e1,e2,e3,e4,e5,h1,h2,h3,h4,h5,h6,h7,h8,h9,⟨hb.1,fun hn=>?_⟩,fun i hi=>?_,fun i hi=>?_⟩
  ·obtain⟨bk,o,e,hc⟩:=hb.2 hn;refine⟨bk,o,e,fun j u hu=>?_⟩;have hu':=hc j u hu;unfold bT at hu;rw[tL] at hu
   cases hx:b[j]? with
   | none=>rw[hx] at hu;cases hu
   | some x =>
    rw[hx] at hu
    cases hu
    exact h.u8 hu'
  ·obtain⟨bk,o,x,e,k0,kv⟩:=hL i hi;exact⟨bk,o,x,e,h.WZ k0,hl _ (aW _) _ kv⟩
  obtain⟨bk,o,x,e,ks,kz,k0,kv⟩:=hF i hi;exact⟨bk,o,x,e,h.str ks,kz,h.WZ k0,hf _ (aW _) _ kv⟩
theorem Reads.bare{w:World}{S:Nat→Prop}(h:jx w S){z:Nat}{A:Option Addr}{n:Nat}{xs:List Value}(hr:Reads (bK w 0 w.heap.size) z A n xs)(h0:0<n→∃s,xs[0]?=some (.string s)):Reads (eD w S) z A n xs:=
 ⟨hr.1,fun hn=>by
  obtain⟨bk,o,e,hc⟩:=hr.2 hn;obtain⟨s,hs⟩:=h0 hn;have hn:¬ S bk:=fun hS=>(h _ _ hS (hc 0 _ hs).1).2.2 s rfl
  exact⟨bk,o,e,fun j u hu=>⟨(hc j u hu).1,(hc j u hu).2.2,hn⟩⟩⟩
theorem aef{xs:List Ix}(h:0<xs.length):∃s,(fU xs)[0]?=some (.string s):=by
 cases xs with
 | nil=>simp at h
 | cons x r=>exact⟨x.name,rfl⟩
theorem aeg{es:List Cc}(h:0<es.length):∃s,(dK es)[0]?=some (.string s):=by
 cases es with
 | nil=>simp at h
 | cons x r=>exact⟨x.nm,rfl⟩
theorem wh.bare{w:World}{S:Nat→Prop}(h:jx w S){e:Cc}{c:Co}(k:su w e c):wh (eD w S) e c:=
 ⟨k.nm,k.dn,k.xn,k.xc,IsV.bare h _ _ k.ag,k.aq.bare h aef⟩
theorem dW.bare{w w':World}{S:Nat→Prop}{A:Option Addr}{cap:Nat}{st:List Co}(hst:dW w A cap st)(h:jx w S)(hk:Kept S w w'):dW w' A cap st:=by
 obtain⟨hc,es,h1,h2⟩:=hst;refine⟨hc,es,h1.mono fun a b k=>((wh.bare h k).mono (lh hk fun _ h=>h)).mono km,((h2.bare h fun hn=>aeg (by rw[h1.1];exact hn)).mono (lh hk fun _ h=>h)).mono km⟩
theorem InL.bare{w w':World}{S:Nat→Prop}{A:Option Addr}{cap:Nat}{l:List V}(hl:InL w A cap l)(h:jx w S)(hk:Kept S w w'):InL w' A cap l:=
 fw km _ _ (fw (lh hk fun _ h=>h) _ _ (IsV.bare h _ _ hl))
theorem jx.PZ{w:World}{rb:Nat}{T:TypeId}{e n k:Int}{A:Option Addr}{l c:Nat}(hb:Blk w rb T (cO e n A l c k)):jx w (fun q=>q=rb):=by
 intro p u hp hc;obtain⟨g,o,pr⟩:=p;have hp':g=rb:=hp;subst hp'
 cases pr with
 | some x =>
  unfold World.cell? at hc;rw[show w.heap[g]?=_ from hb] at hc;simp at hc
 | none =>
 rw[hb.cell] at hc;have ho:o<4:=by
  rcases fh o 4 with h | h
  ·exact h
  rw[tD (by simpa using h)] at hc;cases hc
 have h4:o=0∨o=1∨o=2∨o=3:=by omega
 rcases h4 with rfl | rfl | rfl | rfl<;>cases hc<;>refine⟨fun n h=>?_,fun n h=>?_,fun s h=>?_⟩<;>cases h
end
section
open Go.RowKit
theorem InL.W9{w:World}{A:Option Addr}{cap:Nat}{vs:List V}(h:InL w A cap vs):In w (.mk 0 0 [] vs []) ⟨0,0,none,0,0,A,vs.length,cap,none,0,0⟩:=by
 unfold InL In at *;rw[IsV] at h ⊢;obtain⟨e1,e2,e3,e4,e5,h1',h2',h3,h4,h5,h6,h7,h8,h9,hb,hL,hF⟩:=h;exact⟨rfl,e2,e3,e4,e5,by decide,by decide,h3,h4,h5,h6,h7,h8,h9,hb,hL,hF⟩
theorem G_(l m:List V)(A B:Option Addr)(ca cb:Nat)(w:World)(ha:InL w A ca l)(hb:InL w B cb m) :
 Calls prog 19 #[.slice A l.length ca,.slice B m.length cb] w fun e w'=>∃b,e=.returned (.bool b)∧(b=true↔l=m)∧Grow w w':=by
 have HC:=aa (UY (.mk 0 0 [] l []) (.mk 0 0 [] m []) w _ _ ha.W9 hb.W9);have hs:mA (.mk 0 0 [] l []) (.mk 0 0 [] m [])=true↔l=m:=by
  rw[Oh];constructor
  ·intro h;injection h
  intro h;rw[h]
 have HS:=aa hs;obtain⟨b,hb⟩:∃b,mA (.mk 0 0 [] l []) (.mk 0 0 [] m [])=b:=⟨_,rfl⟩;rw[hb] at HC HS;clear ha hs hb;go_enter func19,ntmps19;go_wp2_with fail;refine HC.o.mono ?_;rintro e w2 ⟨rfl,hg⟩;have HG:=aa hg;clear hg;go_wp2_with fail;go_ret;exact⟨b,rfl,HS.o,HG.o⟩
theorem aeh(a b:Rp)(A B:Option Addr)(ca cb:Nat)(w:World)(ha:InL w A ca a.ag)(hb:InL w B cb b.ag) :
 Calls prog 51 #[.agg (cO a.e a.n A a.ag.length ca a.fL),.agg (cO b.e b.n B b.ag.length cb b.fL)] w fun e w'=>∃x,e=.returned (.bool x)∧(x=true↔a=b)∧Grow w w':=by
 have HL:=aa (fun w1 (hg:Grow w w1)=>G_ a.ag b.ag A B ca cb w1 (ha.grow hg) (hb.grow hg));clear ha hb;obtain⟨e,n,ag,cu⟩:=a;obtain⟨e',n',D6,P4⟩:=b;dsimp only at HL ⊢;have aM:=aa (((ah w).alloc (.cells (cO e n A ag.length ca cu) 31)).alloc (.cells (cO e' n' B D6.length cb P4) 31));by_cases h1:e=e'
 ·by_cases h2:n=n'
  ·by_cases h3:cu=P4
   ·subst h1 h2 h3;have q1:(e==e)=true:=by simp
    have q2:(n==n)=true:=by simp
    have q3:(cu==cu)=true:=by simp
    go_enter func51,ntmps51;go_wp2_with fail;refine(HL.o _ aM.o).mono ?_;rintro ee w2 ⟨x,rfl,hx,hg⟩;have HG:=aa hg;have HX:=aa hx;clear hg hx;go_wp2_with fail;go_ret;refine⟨x,rfl,HX.o.trans ⟨fun h=>(by rw[h]),fun h=>(by injection h)⟩,aM.o.trans HG.o⟩
   subst h1 h2;have q1:(e==e)=true:=by simp
   have q2:(n==n)=true:=by simp
   have q3:(cu==P4)=false:=by simp[h3]
   have HX:=aa h3;clear h3;go_enter func51,ntmps51;go_wp2_with fail;go_ret;exact⟨false,rfl,⟨fun h=>(by cases h),fun h=>by injection h with _ _ _ h;exact absurd h HX.o⟩,aM.o⟩
  subst h1;have q1:(e==e)=true:=by simp
  have q2:(n==n')=false:=by simp[h2]
  have HX:=aa h2;clear h2;go_enter func51,ntmps51;go_wp2_with fail;go_ret;exact⟨false,rfl,⟨fun h=>(by cases h),fun h=>by injection h with _ h;exact absurd h HX.o⟩,aM.o⟩
 have q1:(e==e')=false:=by simp[h1]
 have HX:=aa h1;clear h1;go_enter func51,ntmps51;go_wp2_with fail;go_ret;exact⟨false,rfl,⟨fun h=>(by cases h),fun h=>by injection h with h;exact absurd h HX.o⟩,aM.o⟩
theorem W_(a b:Rp)(A B:Option Addr)(ca cb:Nat)(w:World)(ha:InL w A ca a.ag)(hb:InL w B cb b.ag) :
 Calls prog 23 #[.agg (cO a.e a.n A a.ag.length ca a.fL),.agg (cO b.e b.n B b.ag.length cb b.fL)] w fun e w'=>∃x,e=.returned (.bool x)∧(x=true↔a=b)∧Grow w w':=by
 have aM:=aa (((ah w).alloc (.cells (cO a.e a.n A a.ag.length ca a.fL) 31)).alloc (.cells (cO b.e b.n B b.ag.length cb b.fL) 31));have HR:=aa (aeh a b A B ca cb _ (ha.grow aM.o) (hb.grow aM.o));clear ha hb;go_enter func23,ntmps23;go_wp2_with fail;refine HR.o.mono ?_;rintro ee w2 ⟨x,rfl,hx,hg⟩;have HG:=aa hg;have HX:=aa hx;clear hg hx;go_wp2_with fail;go_ret;exact⟨x,rfl,HX.o,aM.o.trans HG.o⟩
end
section
open Go.RowKit V
def nA:ByteArray:=⟨#[97]⟩
def nX:ByteArray:=⟨#[120]⟩
def iV(n:Nat):V:=.mk 3 n [] [] []
def dV(i x:Nat):V:=.mk 8 0 [] [] [(lM,iV i),(nX,iV x)]
theorem Xa{v:V}(h1:v.formed=true)(h2:v.most≤64)(h3:v.depth≤16)(h4:v.bytes.length≤4096):v.good=0:=Lr.2 ⟨h1,h2,h3,h4⟩
theorem P5(n:Nat):(iV n).formed=true:=by unfold iV;rw[rT];unfold V.own;simp
theorem Xb(n:Nat):(iV n).most≤64:=by unfold iV;rw[V.Oc];decide
theorem Xc(n:Nat):(iV n).depth=0:=by unfold iV;rw[V.yS];rfl
theorem Xd(n:Nat):(iV n).bytes.length=9:=by unfold iV;rw[i7];simp[jG]
theorem aei(n:Nat):(iV n).good=0:=Xa (P5 n) (Xb n) (by rw[Xc];omega) (by rw[Xd];omega)
theorem aej(n:Nat):(iV n).count=1:=by unfold iV;rw[tP];simp
theorem P6{n:Nat}(h:n<18446744073709551616):(iV n).fit:=by unfold iV;rw[V.fit];exact⟨h,fun x hx=>by simp at hx,fun x hx=>by simp at hx⟩
theorem aek(n:Nat):(iV n).key.length=13:=by
 unfold iV;rw[fG,ai (by decide),ai (by decide),aw rfl];unfold mZ;simp[fX]
theorem ael{n:Nat}(h:n<18446744073709551616):V.Keyed (iV n):=⟨⟨P5 n,P6 h⟩,aei n,by rw[aek];omega⟩
theorem aem{f:List (ByteArray×V)}(hl:f.length≤2)(hf:(V.mk 8 0 [] [] f).formed=true)(hx:∀x∈f,∃n,x.2=iV n)(hs:∀x∈f,x.1.size≤64):(V.mk 8 0 [] [] f).good=0:=by
 refine Xa hf ((Ls _ _ _ _ _ 64).2 ⟨by simp,by omega,by simp,fun x h=>by obtain⟨n,hn⟩:=hx x h;rw[hn];exact Xb n⟩) ?_ ?_
 ·rw[V.Og];have:=(C7 (f.map fun x=>x.2.depth) 0 0).2 ⟨ay _,fun y hy=>by
   obtain⟨x,h,rfl⟩:=j3.1 hy;obtain⟨n,hn⟩:=hx x h;rw[hn,Xc];omega⟩
  omega
 rw[AK];have key:∀l:List (ByteArray×V),(∀x∈l,(∃n,x.2=iV n)∧x.1.size≤64)→((l.map fun x=>V.item x.1 x.2.bytes).flatten).length≤l.length*100:=by
  intro l
  induction l with
  | nil=>intro _;simp
  | cons x r ih =>
   intro h;have h1:=ih fun y hy=>h y (tK _ hy)
   obtain⟨⟨n,hn⟩,hz⟩:=h x vK;rw[fH,mo,bG,aT];have:(V.item x.1 x.2.bytes).length=x.1.size+x.2.bytes.length+1:=by rw[V.item];simp
   rw[this,hn,Xd];omega
 have:=key f fun x h=>⟨hx x h,hs x h⟩
 simp only[aT];omega
theorem aen:V.name nX=true:=by decide +kernel
theorem aeo:V.name lM=true:=by decide +kernel
theorem aep(i x:Nat):(dV i x).good=0:=by
 unfold dV;refine aem (by simp) ?_ (fun y hy=>?_) (fun y hy=>?_)
 ·rw[rT];simp[V.own,P5,aen,aeo];decide
 ·simp at hy;rcases hy with rfl | rfl
  ·exact⟨_,rfl⟩
  exact⟨_,rfl⟩
 simp at hy;rcases hy with rfl | rfl
 ·show lM.size≤64;decide
 show nX.size≤64;decide
theorem aeq{i x:Nat}(hi:i<18446744073709551616)(hx:x<18446744073709551616):(dV i x).fit:=by
 unfold dV;rw[V.fit];refine⟨by decide,fun y hy=>by simp at hy,fun y hy=>?_⟩;simp at hy;rcases hy with rfl | rfl
 ·exact P6 hi
 exact P6 hx
theorem aer(i x:Nat):gI (dV i x)=some (iV i):=by show (List.find? (fun x:ByteArray×V=>decide (x.1=lM)) [(lM,iV i),(nX,iV x)]).map Prod.snd=_;simp
theorem aes{i:Nat}(h:i<18446744073709551616):cI (iV i)=((iV i).key,0):=(ael h).cI
theorem Xe{i:Nat}(x:Nat)(h:i<18446744073709551616):bM (dV i x)=((iV i).key,0):=by
 unfold bM;rw[ai (by rw[aep];simp),ai (show ¬ (dV i x).k≠8 from fun h=>h rfl),aer];exact aes h
def zD(d:Int)(c:ByteArray)(x:V):Rq:=⟨d,c,⟨#[]⟩,⟨#[]⟩,false,V.zero,V.zero,V.zero,x,0⟩
def Bo(d:Int)(c:ByteArray):Rq:=⟨d,c,⟨#[]⟩,⟨#[]⟩,false,V.zero,V.zero,V.zero,V.zero,0⟩
def sX(ag:List V)(aq:List Ix):List Co:=[⟨nA,ag,aq⟩]
theorem Xf:cK [nA] nA=true∧bV [nA] nA=0:=by constructor<;>decide
theorem P7(ag:List V)(aq:List Ix):bD (sX ag aq) nA=⟨nA,ag,aq⟩:=by
 unfold bD sX;simp[bh,Xf.2]
theorem aet{st:List Co}{q:Rq}(h:q.bj=1):kf st q=nZ st q:=by unfold kf;rw[h];rfl
theorem aeu{st:List Co}{q:Rq}(h:q.bj=3):kf st q=pT st q:=by unfold kf;rw[h];rfl
theorem P8(ag:List V)(aq:List Ix):cK (bh (sX ag aq)) nA=true∧bV (bh (sX ag aq)) nA=0:=Xf
theorem aev(ag:List V)(aq:List Ix)(c:Co):(sX ag aq).set 0 c=[c]:=rfl
theorem aew{ag:List V}{aq:List Ix}{q:Rq}{K:List UInt8}(hc:q.aA=nA)(hk:bM q.doc=(K,0))(hx:uq q.doc aq=0)(h4:¬ (jm ag K=true∧q.bj≠3))(hcl:zn (gm ag q.doc) aq=false) :
 pT (sX ag aq) q=.ok (sX (gm ag q.doc) aq,if jm ag K=true then 1 else 0,[]):=by
 unfold pT;rw[hc,(P8 ag aq).1,(P8 ag aq).2,P7,hk];dsimp only;rw[ai (by decide),ai (by decide),ai (by rw[hx];decide),ai h4,ai (by rw[hcl];decide),aev];rfl
end
end Go.Proofs.YtndjopkdbdcmdaaGreatDoor
