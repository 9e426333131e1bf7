/- Part 5 of the proof of pentries_card. -/
import Derived.Test.YtndjopkdbdcmdaaGreatDoorPel2
set_option linter.unusedVariables false
set_option linter.unusedSimpArgs false
set_option maxRecDepth 100000
set_option maxHeartbeats 12800000
open Go.Proofs.Tryz
namespace Go.Proofs.YtndjopkdbdcmdaaGreatDoor
section
open Go.RowKit Go.Shelf
theorem wh(w:World)(b:Int):(callFunc 138 #[.int .u64 b]).run prog w=.ok (.value (.float .f64 b.toNat)) w:=by kernel_rfl
theorem Ev(b:Nat)(w:World):Calls prog 140 #[.float .f64 b] w fun e w'=>e=.returned (.bool (dX b))∧w=w':=by
 go_enter func140,ntmps140;go_wp2;go_ret;exact⟨rfl,rfl⟩
theorem Mt(f:Nat)(n:Int)(h:floatToIntVal .f64 f .i64=some n)(w:World):(convert 186 2 (.float .f64 f)).run prog w=.ok (.int .i64 n) w:=
 run_convert_float_int (P:=prog) w 186 2 .f64 .i64 f n (by kernel_rfl) (by kernel_rfl) h
end
section
open Go.RowKit
structure Kept (S:Nat→Prop) (w w':World):Prop where
 os:w'.os=w.os
 tape:w'.tape=w.tape
 output:w'.output=w.output
 size:w.heap.size≤w'.heap.size
 block:∀k,k<w.heap.size→¬ S k→w'.heap[k]?=w.heap[k]?
theorem Kept.refl(S:Nat→Prop)(w:World):Kept S w w:=⟨rfl,rfl,rfl,av _,fun _ _ _=>rfl⟩
theorem Kept.trans{S:Nat→Prop}{a b c:World}(h:Kept S a b)(k:Kept S b c):Kept S a c:=
 ⟨k.os.trans h.os,k.tape.trans h.tape,k.output.trans h.output,a_ h.size k.size,fun i hi hs=>(k.block i (cU hi h.size) hs).trans (h.block i hi hs)⟩
theorem Kept.mono{S S':Nat→Prop}{a b:World}(h:Kept S a b)(hs:∀q,S q→S' q):Kept S' a b:=
 ⟨h.os,h.tape,h.output,h.size,fun k hk hn=>h.block k hk (fun q=>hn (hs k q))⟩
theorem Kept.grow{S:Nat→Prop}{a b:World}(h:Grow a b):Kept S a b:=⟨h.os,h.tape,h.output,h.size,fun k hk _=>h.below.block k hk⟩
theorem Kept.set{S:Nat→Prop}{a w:World}(h:Kept S a w){p:Addr}(hp:S p.block)(u:Value):Kept S a (w.setCell p u):=
 ⟨h.os,h.tape,h.output,by rw[show (w.setCell p u).heap.size=w.heap.size by simp[World.setCell]];exact h.size,fun k hk hs=>(EA w p u k (fun e=>hs (e ▸ hp))).trans (h.block k hk hs)⟩
theorem Kept.below{S:Nat→Prop}{a b:World}{B:Nat}(h:Kept S a b)(hB:B≤a.heap.size)(hs:∀q,S q→B≤q):Below B a b:=
 ⟨h.os,h.tape,h.output,h.size,fun k hk=>h.block k (by omega) (fun q=>by have:=hs k q;omega)⟩
theorem Kept.blk{S:Nat→Prop}{a b:World}{g:Nat}{t:TypeId}{cs:Array Value}(h:Kept S a b)(hb:Blk a g t cs)(hs:¬ S g):Blk b g t cs:=(h.block g hb.lt hs).trans hb
end
abbrev eK:=@Kept.refl
abbrev jh:=@Kept.grow
abbrev y9:=@Kept.set
section
open Go.RowKit
abbrev cells2(c d:Cv):Array Value:=#[.int .i64 c.k,.int .u64 c.n,.slice c.aB c.nB c.cB,.slice c.aL c.nL c.cL,.slice c.aF c.nF c.cF,.int .i64 d.k,.int .u64 d.n,.slice d.aB d.nB d.cB,.slice d.aL d.nL d.cL,.slice d.aF d.nF d.cF]
theorem InL.row2{w:World}{u v:V}{c d:Cv}(h:In w u c)(k:In w v d):InL (w.alloc (.cells (cells2 c d) 27)) (some ⟨w.heap.size,0,none⟩) 2 [u,v]:=by
 have hg:=(ah w).alloc (.cells (cells2 c d) 27);have hB:=aH w 27 (cells2 c d);have h':=h.grow hg;have k':=k.grow hg;have hlt:=hB.lt;unfold InL In;rw[IsV];refine⟨rfl,rfl,rfl,rfl,rfl,by decide,by decide,by decide,by simp,by simp,by simp,by simp,by simp,by simp,⟨rfl,fun h=>by simp at h⟩,fun i hi=>?_,fun i hi=>by simp at hi⟩;have hi2:i=0∨i=1:=by simp at hi;omega
 rcases hi2 with rfl | rfl
 ·exact⟨w.heap.size,0,c,rfl,⟨⟨hB.cell 0,aS _,hlt⟩,⟨hB.cell 1,aS _,hlt⟩,⟨hB.cell 2,aS _,hlt⟩,⟨hB.cell 3,aS _,hlt⟩,⟨hB.cell 4,aS _,hlt⟩⟩,h'⟩
 exact⟨w.heap.size,0,d,rfl,⟨⟨hB.cell 5,aS _,hlt⟩,⟨hB.cell 6,aS _,hlt⟩,⟨hB.cell 7,aS _,hlt⟩,⟨hB.cell 8,aS _,hlt⟩,⟨hB.cell 9,aS _,hlt⟩⟩,k'⟩
end
section
open Ieee Go
def sg(a b:Int):Int:=if a<b then -1 else if b<a then 1 else 0
theorem uF{a b:Int}(h:a<b):sg a b=-1:=by unfold sg;rw[ar h]
theorem wj{a b:Int}(h:b<a):sg a b=1:=by unfold sg;rw[ai (by omega),ar h]
theorem pD{a b:Int}(h:a=b):sg a b=0:=by unfold sg;rw[ai (by omega),ai (by omega)]
noncomputable def zG(i:Int)(f:Nat):Int:=if i*(U1:Int)<sv f then -1 else if sv f<i*(U1:Int) then 1 else if f=9223372036854775808 then 1 else -1
noncomputable def ir(k:Int)(n:Nat)(k':Int)(n':Nat):Int:=
 if k=3 then (if k'=3 then sg (i64 n) (i64 n') else if dX n'=true then 1 else zG (i64 n) n')
 else if dX n=true then (if k'=3 then -1 else if dX n'=true then sg n n' else -1)
 else if k'=3 then -(zG (i64 n') n)
 else if dX n'=true then 1
 else if sv n<sv n' then -1 else if sv n'<sv n then 1 else sg ((n' / 9223372036854775808:Nat):Int) ((n / 9223372036854775808:Nat):Int)
def eJ(a b:Int):Int:=if a=0 then b else a
def wu:List Int→Int
 | []=>0
 | x::r=>eJ x (wu r)
def cls(k:Int):Int:=if k=4 then 3 else k
namespace V
noncomputable def cmp:V→V→Int
 | mk k n b l f,mk k' n' b' l' f' =>
  if cls k≠cls k' then sg (cls k) (cls k')
  else if k=2 then sg n n'
  else if k=3∨k=4 then ir k n k' n'
  else if k=5∨k=6 then Lib.compareBytes b b'
  else eJ (eJ (wu (((l.attach).zip l').map fun p=>cmp p.1.1 p.2)) (wu (((f.attach).zip f').map fun p=>eJ (Lib.compareBytes p.1.1.1.data.toList p.2.1.data.toList) (cmp p.1.1.2 p.2.2)))) (sg ((l.length+f.length:Nat):Int) ((l'.length+f'.length:Nat):Int))
termination_by v=>SizeOf.sizeOf v
decreasing_by
 ·exact qZ p.1.2
 exact rf p.1.2
noncomputable def cmpL(l l':List V):Int:=wu ((l.zip l').map fun p=>cmp p.1 p.2)
noncomputable def sU(x y:ByteArray×V):Int:=eJ (Lib.compareBytes x.1.data.toList y.1.data.toList) (cmp x.2 y.2)
noncomputable def nr(f f':List (ByteArray×V)):Int:=wu ((f.zip f').map fun p=>sU p.1 p.2)
theorem aaD{α β γ:Type}(g:α→β→γ)(l:List α)(l':List β):((l.attach.zip l').map fun p=>g p.1.1 p.2)=(l.zip l').map fun p=>g p.1 p.2:=by
 have h:l.zip l'=(l.attach.map Subtype.val).zip l':=by rw[List.attach_map_subtype_val]
 rw[h,List.zip_map_left,kG];rfl
theorem qf(k:Int)(n:Nat)(b:List UInt8)(l:List V)(f:List (ByteArray×V))(k':Int)(n':Nat)(b':List UInt8)(l':List V)(f':List (ByteArray×V)):cmp (mk k n b l f) (mk k' n' b' l' f') =
 if cls k≠cls k' then sg (cls k) (cls k')
 else if k=2 then sg n n'
 else if k=3∨k=4 then ir k n k' n'
 else if k=5∨k=6 then Lib.compareBytes b b'
 else eJ (eJ (cmpL l l') (nr f f')) (sg ((l.length+f.length:Nat):Int) ((l'.length+f'.length:Nat):Int)):=by
 rw[cmp];have e1:(((l.attach).zip l').map fun p=>cmp p.1.1 p.2)=(l.zip l').map fun p=>cmp p.1 p.2:=aaD cmp l l'
 have e2:(((f.attach).zip f').map fun p=>eJ (Lib.compareBytes p.1.1.1.data.toList p.2.1.data.toList) (cmp p.1.1.2 p.2.2))=(f.zip f').map fun p=>sU p.1 p.2:=aaD sU f f'
 rw[e1,e2];rfl
end V
def Diff(c:Int)(a b:List UInt8):Prop:=∃p x y a' b',a=p++x::a'∧b=p++y::b'∧x≠y∧c=sg (x.toNat:Int) (y.toNat:Int)
theorem Diff.right{c:Int}{a b:List UInt8}(h:Diff c a b)(r s:List UInt8):Diff c (a++r) (b++s):=by
 obtain⟨p,x,y,a',b',rfl,rfl,h1,h2⟩:=h;exact⟨p,x,y,a'++r,b'++s,by simp,by simp,h1,h2⟩
theorem Diff.left{c:Int}{a b:List UInt8}(h:Diff c a b)(q:List UInt8):Diff c (q++a) (q++b):=by
 obtain⟨p,x,y,a',b',rfl,rfl,h1,h2⟩:=h;exact⟨q++p,x,y,a',b',by simp,by simp,h1,h2⟩
theorem Diff.cons{c:Int}{a b:List UInt8}(h:Diff c a b)(q:UInt8):Diff c (q::a) (q::b):=h.left [q]
theorem Diff.here{x y:UInt8}(h:x≠y)(a b:List UInt8):Diff (sg (x.toNat:Int) (y.toNat:Int)) (x::a) (y::b):=⟨[],x,y,a,b,rfl,rfl,h,rfl⟩
theorem toNat_ne{x y:UInt8}(h:x≠y):x.toNat≠y.toNat:=fun e=>h (sI.1 e)
theorem ajy(a b:Int):sg b a=-(sg a b):=by
 unfold sg;repeat' split
 all_goals omega
theorem ajz{a b:Int}(h:a≠b):sg a b≠0:=by
 unfold sg;repeat' split
 all_goals omega
theorem Diff.swap{c:Int}{a b:List UInt8}(h:Diff c a b):Diff (-c) b a:=by
 obtain⟨p,x,y,a',b',rfl,rfl,h1,rfl⟩:=h;exact⟨p,y,x,b',a',rfl,rfl,fun e=>h1 e.symm,(ajy _ _).symm⟩
theorem Diff.xh{c:Int}{a b:List UInt8}(h:Diff c a b):c≠0:=by
 obtain⟨p,x,y,a',b',rfl,rfl,h1,rfl⟩:=h;have:=toNat_ne h1;exact ajz (by omega)
theorem Dk(p a b:List UInt8):Lib.compareBytes (p++a) (p++b)=Lib.compareBytes a b:=by
 induction p with
 | nil=>rfl
 | cons x p ih=>rw[zN,zN,Lib.compareBytes,ai (by simp),ai (by simp),ih]
theorem Diff.cmp{c:Int}{a b:List UInt8}(h:Diff c a b):Lib.compareBytes a b=c:=by
 obtain⟨p,x,y,a',b',rfl,rfl,h1,rfl⟩:=h;rw[Dk,Lib.compareBytes];have:=toNat_ne h1;simp only[zV];by_cases h:x.toNat<y.toNat
 ·rw[ar h,uF (by omega)]
 rw[ai h,ar (show y.toNat<x.toNat by omega),wj (by omega)]
theorem Diff.uniq{c c':Int}{a b:List UInt8}(h:Diff c a b)(h':Diff c' a b):c=c':=h.cmp.symm.trans h'.cmp
theorem Diff.irrefl{c:Int}{a:List UInt8}(h:Diff c a a):False:=by
 obtain⟨p,x,y,a',b',e1,e2,h1,rfl⟩:=h;rw[e1] at e2;have:=List.append_cancel_left e2;injection this with h _;exact h1 h
theorem Mu(x:UInt8):(eZ x).toNat=255-x.toNat:=by unfold eZ;exact zm _ (by have:=x.toNat_lt;omega)
theorem ajA{x y:UInt8}(h:x≠y):eZ x≠eZ y:=by
 intro e;have:=cT UInt8.toNat e;rw[Mu,Mu] at this;have h1:=x.toNat_lt;have h2:=y.toNat_lt;have:=toNat_ne h;omega
theorem Diff.flip{c:Int}{a b:List UInt8}(h:Diff c a b):Diff (-c) (a.map eZ) (b.map eZ):=by
 obtain⟨p,x,y,a',b',rfl,rfl,h1,rfl⟩:=h;refine⟨p.map eZ,eZ x,eZ y,a'.map eZ,b'.map eZ,by simp,by simp,ajA h1,?_⟩;rw[Mu,Mu];have h1:=x.toNat_lt;have h2:=y.toNat_lt;unfold sg
 repeat' split
 all_goals omega
theorem aaE(k a:Nat):be k (a % 256 ^ k)=be k a:=by
 unfold be jQ;congr 1;refine List.map_congr_left fun i hi=>?_
 have hik:i<k:=JC.1 hi;apply sI.1;rw[yf,yf];have e:256 ^ k=256 ^ i*256 ^ (k-i):=by rw[← jy,show i+(k-i)=k by omega]
 rw[e,Nat.mod_mul_right_div_self];have e2:256 ^ (k-i)=256*256 ^ (k-i-1):=by rw[nW,← uO,show (k-i-1).succ=k-i by omega]
 show a / 256 ^ i % 256 ^ (k-i) % 256=a / 256 ^ i % 256;rw[e2,Nat.mod_mul_right_mod]
theorem Ew:∀(k a b:Nat),a<256 ^ k→b<256 ^ k→a<b→Diff (-1) (be k a) (be k b)
 | 0,a,b,ha,hb,h=>by simp at ha hb;omega
 | k+1,a,b,ha,hb,h=>by
  rw[Zq,Zq];have hp:0<256 ^ k:=jn (by omega);have h1:a / 256 ^ k<256:=by rw[zR hp,nW,← uO];exact ha
  have h2:b / 256 ^ k<256:=by rw[zR hp,nW,← uO];exact hb
  have hle:a / 256 ^ k≤b / 256 ^ k:=Nat.div_le_div_right (by omega);have ea:=sM a (256 ^ k);have eb:=sM b (256 ^ k);by_cases he:a / 256 ^ k=b / 256 ^ k
  ·rw[he];have hm:a % 256 ^ k<b % 256 ^ k:=by rw[he] at ea;omega
   have ih:=Ew k (a % 256 ^ k) (b % 256 ^ k) (uT _ hp) (uT _ hp) hm;rw[aaE,aaE] at ih;exact ih.cons _
  have hlt:a / 256 ^ k<b / 256 ^ k:=by omega
  have e1:(UInt8.ofNat (a / 256 ^ k)).toNat=a / 256 ^ k:=zm _ h1;have e2:(UInt8.ofNat (b / 256 ^ k)).toNat=b / 256 ^ k:=zm _ h2;have hd:=Diff.here (x:=UInt8.ofNat (a / 256 ^ k)) (y:=UInt8.ofNat (b / 256 ^ k)) (fun e=>by have:=cT UInt8.toNat e;omega) (be k a) (be k b);rw[e1,e2,uF (by omega)] at hd;exact hd
theorem ajB(k a b:Nat)(ha:a<256 ^ k)(hb:b<256 ^ k)(h:a≠b):Diff (sg a b) (be k a) (be k b):=by
 rcases dH a b with h1 | h1
 ·rw[uF (by omega)];exact Ew k a b ha hb h1
 rw[wj (by omega)];have:=(Ew k b a hb ha (by omega)).swap;simpa using this
theorem Mv:(256:Nat) ^ 8=18446744073709551616:=by decide
theorem aaF{n:Nat}(hn:n<18446744073709551616):dX n=decide (9218868437227405312<n % 9223372036854775808):=by
 unfold dX;by_cases h:9218868437227405312<n % 9223372036854775808
 ·rw[ahH h,bT h];rfl
 rw[LI hn hn (by omega) (by omega),zn rfl,bY h];rfl
theorem IQ{a b:Nat}(ha:a<18446744073709551616)(hb:b<18446744073709551616)(h:sm a<sm b):eT a<eT b:=by
 unfold sm at h;unfold eT
 repeat' split
 all_goals (repeat' split at h)
 all_goals omega
theorem Mw{a b:Nat}(ha:a<18446744073709551616)(hb:b<18446744073709551616)(h:sm a=sm b)(hne:a≠b):(a=9223372036854775808∧b=0)∨(a=0∧b=9223372036854775808):=by
 unfold sm at h
 repeat' split at h
 all_goals omega
theorem IU{a b:Nat}(ha:a<18446744073709551616)(hb:b<18446744073709551616)(hlt:eT a<eT b):Diff (-1) (be 8 (eT a)) (be 8 (eT b)):=
 Ew 8 _ _ (by rw[Mv];exact AK a ha) (by rw[Mv];exact AK b hb) hlt
theorem Mx{a b:Nat}(ha:a<18446744073709551616)(hb:b<18446744073709551616)(hlt:eT b<eT a):Diff 1 (be 8 (eT a)) (be 8 (eT b)):=by
 have:=(IU hb ha hlt).swap;simpa using this
theorem ajC:sv 9223372036854775808=0:=by unfold sv;rw[ai (by omega)];decide
theorem SX:eT 9223372036854775808<eT 0:=by decide
theorem ajD(i:Int)(h:0≤i):(fl i).1<9223372036854775808:=by
 unfold fl;rw[ar h];show Ieee.double.nearest false _ 0<_;unfold Format.nearest;split
 ·unfold Format.word;simp
 unfold Format.word;simp only[ln,iJ,AJ];exact Nat.lt_of_le_of_lt (Nat.min_le_right _ _) (by omega)
theorem Ex{i j:Int}(h:i<j):i*(U1:Int)<j*(U1:Int):=EU h (by have:=LJ;omega)
theorem aaG{i j:Int}(h:i*(U1:Int)=j*(U1:Int)):i=j:=by
 rcases yo i j with h1 | h1 | h1
 ·have:=Ex h1;omega
 ·exact h1
 have:=Ex h1;omega
theorem SY(i:Int)(h1:-9223372036854775808≤i)(h2:i≤9223372036854775807):(fl i).1≠9223372036854775808:=by
 intro e;by_cases h:0≤i
 ·have:=ajD i h;omega
 have hu:=LM i h1 h2;have hv:=hu.val;rw[e,ajC] at hv;have:=aaG (i:=0) (j:=i-((fl i).2:Int)) (by rw[Int.zero_mul];exact hv);omega
theorem aaH(a b:Nat)(ha:a<18446744073709551616)(hb:b<18446744073709551616)(h:i64 a<i64 b):Diff (-1) (mM a) (mM b):=by
 have ra:=Eg a ha;have rb:=Eg b hb;have ua:=LM _ ra.1 ra.2;have ub:=LM _ rb.1 rb.2;have na:=SY _ ra.1 ra.2;have nb:=SY _ rb.1 rb.2;have sa:=(Du _ ra.1 ra.2).small;have sb:=(Du _ rb.1 rb.2).small;unfold mM;generalize (fl (i64 a)).1=F at ua na ⊢;generalize (fl (i64 a)).2=r at ua sa ⊢;generalize (fl (i64 b)).1=G at ub nb ⊢;generalize (fl (i64 b)).2=s at ub sb ⊢;refine Diff.cons ?_ 1;have h1:sv F≤sv G:=ub.top F (by rw[ua.val];have:=Ex h;have:(i64 a-(r:Int))*(U1:Int)≤i64 a*(U1:Int):=JD (by omega) (by omega);omega);rcases JE h1 with h1 | h1
 ·exact(IU ua.bits ub.bits (IQ ua.bits ub.bits ((uw _ _).1 h1))).right _ _
 have hFG:F=G:=by
  refine yi fun hne=>?_
  rcases Mw ua.bits ub.bits ((LG _ _).1 h1) hne with ⟨e,_⟩ | ⟨_,e⟩
  ·exact na e
  exact nb e
 subst hFG;have e:=aaG (ua.val.symm.trans ub.val);refine Diff.left (Diff.right (Ew 2 r s (by omega) (by omega) (by omega)) _ _) _
theorem aaI(a f:Nat)(ha:a<18446744073709551616)(hf:f<18446744073709551616):Diff (zG (i64 a) f) (mM a) (1::(be 8 (eT f)++[0,0,1])):=by
 have ra:=Eg a ha;have ua:=LM _ ra.1 ra.2;have na:=SY _ ra.1 ra.2;have sa:=(Du _ ra.1 ra.2).small;unfold mM;generalize i64 a=i at ua na sa ra ⊢;generalize (fl i).1=F at ua na ⊢;generalize (fl i).2=r at ua sa ⊢;refine Diff.cons ?_ 1;have hle:sv F≤i*(U1:Int):=by rw[ua.val];exact JD (by omega) (by omega)
 unfold zG;by_cases c1:i*(U1:Int)<sv f
 ·rw[ar c1];exact(IU ua.bits hf (IQ ua.bits hf ((uw _ _).1 (by omega)))).right _ _
 rw[ai c1];have hfF:=ua.top f (by omega);by_cases c2:sv f<sv F
 ·have hd:=(Mx ua.bits hf (IQ hf ua.bits ((uw _ _).1 c2)));rw[ar (by omega)];exact hd.right _ _
 have heq:sv f=sv F:=by omega
 by_cases c3:f=F
 ·subst c3;by_cases hr:r=0
  ·subst hr;have:sv f=i*(U1:Int):=by rw[ua.val];simp
   rw[ai (by omega),ai na];have e:(be 2 0++[0]:List UInt8)=[0,0]++[0]:=by decide
   rw[e];exact Diff.left (Diff.left (Diff.here (x:=0) (y:=1) (by decide) [] []) [0,0]) _
  have hlt:sv f<i*(U1:Int):=by rw[ua.val];exact Ex (by omega)
  rw[ar hlt];have hd:=(Ew 2 0 r (by omega) (by omega) (by omega)).swap;have e:be 2 0=[0,0]:=by decide
  rw[e] at hd;have:=(Diff.right hd [0] [1]).left (be 8 (eT f));simpa using this
 rcases Mw hf ua.bits ((LG _ _).1 heq) c3 with ⟨e1,e2⟩ | ⟨_,e⟩
 ·subst e1 e2;have hd:=(Mx ua.bits hf SX).right (be 2 r++[0]) [0,0,1];split
  ·exact hd
  rw[ar rfl];exact hd
 exact absurd e na
theorem ajE(a b:Nat)(ha:a<18446744073709551616)(hb:b<18446744073709551616)(hne:a≠b) :
 Diff (if sv a<sv b then -1 else if sv b<sv a then 1 else sg ((b / 9223372036854775808:Nat):Int) ((a / 9223372036854775808:Nat):Int)) (be 8 (eT a)++[0,0,1]) (be 8 (eT b)++[0,0,1]):=by
 by_cases c1:sv a<sv b
 ·rw[ar c1];exact(IU ha hb (IQ ha hb ((uw _ _).1 c1))).right _ _
 rw[ai c1];by_cases c2:sv b<sv a
 ·rw[ar c2];exact(Mx ha hb (IQ hb ha ((uw _ _).1 c2))).right _ _
 rw[ai c2];rcases Mw ha hb ((LG _ _).1 (by omega)) hne with ⟨e1,e2⟩ | ⟨e1,e2⟩
 ·subst e1 e2;exact(IU ha hb SX).right _ _
 subst e1 e2;exact(Mx ha hb SX).right _ _
def My(k:Int)(n:Nat):List UInt8:=if k=3 then mM n else ki n
theorem ajF{a b:Nat}(ha:a<18446744073709551616)(hb:b<18446744073709551616)(h:i64 a=i64 b):a=b:=by
 unfold i64 at h
 repeat' split at h
 all_goals omega
theorem ajG(k k':Int)(a b:Nat)(hk:k=3∨k=4)(hk':k'=3∨k'=4)(ha:a<18446744073709551616)(hb:b<18446744073709551616) :
 (k=k'∧a=b∧ir k a k' b=0)∨Diff (ir k a k' b) (My k a) (My k' b):=by
 have h43:¬ (4:Int)=3:=by decide
 have hneg:sg 1 0=1:=by decide
 unfold ir My;rcases hk with rfl | rfl
 ·simp only[iK];rcases hk' with rfl | rfl
  ·simp only[iK];rcases yo (i64 a) (i64 b) with h | h | h
   ·rw[uF h];exact .inr (aaH a b ha hb h)
   ·exact .inl ⟨trivial,ajF ha hb h,pD h⟩
   rw[wj h];right;have:=(aaH b a hb ha h).swap;simpa using this
  simp only[ai h43];right;unfold ki
  by_cases hn:dX b=true
  ·simp only[ar hn];exact Diff.here (x:=1) (y:=0) (by decide) _ _
  simp only[ai hn];exact aaI a b ha hb
 simp only[ai h43];unfold ki
 by_cases hn:dX a=true
 ·simp only[ar hn];rcases hk' with rfl | rfl
  ·simp only[iK];right;exact Diff.here (x:=0) (y:=1) (by decide) _ _
  simp only[ai h43];by_cases hm:dX b=true
  ·simp only[ar hm];by_cases hab:a=b
   ·subst hab;exact .inl ⟨trivial,rfl,pD rfl⟩
   right;exact(ajB 8 a b (by rw[Mv];exact ha) (by rw[Mv];exact hb) hab).cons 0
  simp only[ai hm];right;exact Diff.here (x:=0) (y:=1) (by decide) _ _
 simp only[ai hn];rcases hk' with rfl | rfl
 ·simp only[iK];right;exact(aaI b a hb ha).swap
 simp only[ai h43];by_cases hm:dX b=true
 ·simp only[ar hm];right;exact Diff.here (x:=1) (y:=0) (by decide) _ _
 simp only[ai hm];by_cases hab:a=b
 ·subst hab;refine .inl ⟨trivial,rfl,?_⟩;rw[ai (by omega),ai (by omega)];exact pD rfl
 right;exact(ajE a b ha hb hab).cons 1
theorem kK(b:Int):eJ 0 b=b:=rfl
theorem qi{a:Int}(b:Int)(h:a≠0):eJ a b=a:=by unfold eJ;rw[ai h]
theorem Gf:∀a:List UInt8,Lib.compareBytes a a=0
 | []=>rfl
 | x::a=>by rw[Lib.compareBytes,ai (by simp),ai (by simp),Gf a]
theorem S5:∀(a b:List UInt8),a≠b→Diff (Lib.compareBytes a b) (cW a) (cW b)
 | [],[],h=>absurd rfl h
 | [],y::b,_=>by
  have e:cW ([]:List UInt8)=[0,0]:=rfl;rw[e];unfold cW;rw[fU];split
  ·rename_i h;subst h;exact(Diff.here (x:=0) (y:=255) (by decide) [] _).cons 0
  rename_i h;have hy:0<y.toNat:=EP (fun e=>h (sI.1 e));have:=Diff.here (x:=0) (y:=y) (fun e=>h e.symm) [0] (fU b++[0,0]);rw[show ((0:UInt8).toNat:Int)=0 from rfl,uF (by omega)] at this;exact this
 | x::a,[],_=>by
  have e:cW ([]:List UInt8)=[0,0]:=rfl;rw[e];unfold cW;rw[fU];split
  ·rename_i h;subst h;exact(Diff.here (x:=255) (y:=0) (by decide) _ []).cons 0
  rename_i h;have hy:0<x.toNat:=EP (fun e=>h (sI.1 e));have:=Diff.here (x:=x) (y:=0) h (fU a++[0,0]) [0];rw[show ((0:UInt8).toNat:Int)=0 from rfl,wj (by omega)] at this;exact this
 | x::a,y::b,h=>by
  by_cases hxy:x=y
  ·subst hxy;have hab:a≠b:=fun e=>h (by rw[e])
   have ih:=S5 a b hab;have e:Lib.compareBytes (x::a) (x::b)=Lib.compareBytes a b:=Dk [x] a b;rw[e];unfold cW at ih ⊢;rw[fU,fU];split
   ·exact(ih.cons 255).cons 0
   exact ih.cons x
  have hc:Lib.compareBytes (x::a) (y::b)=sg (x.toNat:Int) (y.toNat:Int):=(Diff.here hxy a b).cmp;rw[hc];unfold cW;rw[fU,fU];by_cases hx:x=0
  ·subst hx;rw[ar rfl,ai (fun e=>hxy e.symm)];exact Diff.here hxy _ _
  rw[ai hx];by_cases hy:y=0
  ·subst hy;rw[ar rfl];exact Diff.here hxy _ _
  rw[ai hy];exact Diff.here hxy _ _
namespace V
def KD(u v:V):Prop:=(u=v∧cmp u v=0)∨Diff (cmp u v) u.key v.key
theorem aaJ:∀(l l':List V),(∀x∈l,∀y∈l',KD x y) →
 (l=l'∧cmpL l l'=0)∨Diff (eJ (cmpL l l') (sg (l.length:Int) (l'.length:Int))) ((l.map dY).flatten++[0]) ((l'.map dY).flatten++[0])
 | [],[],_=>.inl ⟨rfl,rfl⟩
 | [],y::l',_=>by
  right;have e:eJ (cmpL [] (y::l')) (sg (([]:List V).length:Int) ((y::l').length:Int))=-1:=by
   show eJ 0 _=_;rw[kK];exact uF (by simp)
  rw[e];exact Diff.here (x:=0) (y:=1) (by decide) [] _
 | x::l,[],_=>by
  right;have e:eJ (cmpL (x::l) []) (sg ((x::l).length:Int) (([]:List V).length:Int))=1:=by
   show eJ 0 _=_;rw[kK];exact wj (by simp)
  rw[e];exact Diff.here (x:=1) (y:=0) (by decide) _ []
 | x::l,y::l',h=>by
  have e:cmpL (x::l) (y::l')=eJ (cmp x y) (cmpL l l'):=rfl;have k1:((x::l).map dY).flatten++[0]=1::(x.key++((l.map dY).flatten++[0])):=by simp[dY]
  have k2:((y::l').map dY).flatten++[0]=1::(y.key++((l'.map dY).flatten++[0])):=by simp[dY]
  rw[e,k1,k2];rcases h x nY y nY with ⟨rfl,h0⟩ | hd
  ·rw[h0,kK];rcases aaJ l l' (fun a ha b hb=>h a (pX _ ha) b (pX _ hb)) with ⟨rfl,h1⟩ | hd
   ·exact .inl ⟨rfl,h1⟩
   right;have e:sg ((x::l).length:Int) ((x::l').length:Int)=sg (l.length:Int) (l'.length:Int):=by unfold sg;simp
   rw[e];exact(hd.left x.key).cons 1
  right;rw[qi _ hd.xh,qi _ hd.xh];exact(hd.right _ _).cons 1
theorem toList_inj{a b:ByteArray}(h:a.data.toList=b.data.toList):a=b:=by
 cases a;cases b;simp at h;rw[h]
theorem aaK:∀(l l':List (ByteArray×V)),(∀x∈l,∀y∈l',KD x.2 y.2) →
 (l=l'∧nr l l'=0)∨Diff (eJ (nr l l') (sg (l.length:Int) (l'.length:Int))) ((l.map dZ).flatten++[0]) ((l'.map dZ).flatten++[0])
 | [],[],_=>.inl ⟨rfl,rfl⟩
 | [],y::l',_=>by
  right;have e:eJ (nr [] (y::l')) (sg (([]:List (ByteArray×V)).length:Int) ((y::l').length:Int))=-1:=by
   show eJ 0 _=_;rw[kK];exact uF (by simp)
  rw[e];exact Diff.here (x:=0) (y:=1) (by decide) [] _
 | x::l,[],_=>by
  right;have e:eJ (nr (x::l) []) (sg ((x::l).length:Int) (([]:List (ByteArray×V)).length:Int))=1:=by
   show eJ 0 _=_;rw[kK];exact wj (by simp)
  rw[e];exact Diff.here (x:=1) (y:=0) (by decide) _ []
 | (s,x)::l,(t,y)::l',h=>by
  have e:nr ((s,x)::l) ((t,y)::l')=eJ (eJ (Lib.compareBytes s.data.toList t.data.toList) (cmp x y)) (nr l l'):=rfl;have k1:(((s,x)::l).map dZ).flatten++[0]=1::(cW s.data.toList++(x.key++((l.map dZ).flatten++[0]))):=by simp[dZ]
  have k2:(((t,y)::l').map dZ).flatten++[0]=1::(cW t.data.toList++(y.key++((l'.map dZ).flatten++[0]))):=by simp[dZ]
  rw[e,k1,k2];by_cases hst:s.data.toList=t.data.toList
  ·obtain rfl:=toList_inj hst;rw[Gf,kK];rcases h (s,x) nY (s,y) nY with ⟨h00,h0⟩ | hd
   ·simp only at h00 h0;subst h00;rw[h0,kK];rcases aaK l l' (fun a ha b hb=>h a (pX _ ha) b (pX _ hb)) with ⟨rfl,h1⟩ | hd
    ·exact .inl ⟨rfl,h1⟩
    right;have e:sg (((s,x)::l).length:Int) (((s,x)::l').length:Int)=sg (l.length:Int) (l'.length:Int):=by unfold sg;simp
    rw[e];exact((hd.left x.key).left (cW s.data.toList)).cons 1
   right;simp only at hd;rw[qi _ hd.xh,qi _ hd.xh];exact((hd.right _ _).left (cW s.data.toList)).cons 1
  right;have hd:=S5 _ _ hst;rw[qi (cmp x y) hd.xh,qi _ hd.xh,qi _ hd.xh];exact(hd.right _ _).cons 1
theorem aaL{x y:UInt8}{a b:List UInt8}{c:Int}(h:x≠y)(hc:c=sg (x.toNat:Int) (y.toNat:Int)):Diff c (x::a) (y::b):=hc ▸ Diff.here h a b
theorem ajH{a b:Nat}(ha:a<256)(hb:b<256)(h:UInt8.ofNat a=UInt8.ofNat b):a=b:=by
 have:=cT UInt8.toNat h;rwa [zm a ha,zm b hb] at this
def hd(k:Int):UInt8:=if k=1 then 16 else if k=2 then 32 else if k=3 then 48 else if k=4 then 48 else if k=5 then 64 else if k=6 then 80 else if k=7 then 96 else 112
theorem aaM{k:Int}{n:Nat}{b:List UInt8}{l:List V}{f:List (ByteArray×V)}(h:(mk k n b l f).formed=true):(1≤k∧k≤8)∧∃r,(mk k n b l f).key=hd k::r:=by
 rcases E4 h with h | ⟨n',hn',h⟩ | ⟨n',h⟩ | ⟨n',h⟩ | ⟨b',hb',h⟩ | ⟨b',h⟩ | ⟨l',hl',h⟩ | ⟨f',hf',hnd,h⟩<;>cases h<;>exact⟨by decide,_,by rw[zo];rfl⟩
theorem ajI{k k':Int}(h:1≤k∧k≤8)(h':1≤k'∧k'≤8)(hne:cls k≠cls k'):hd k≠hd k'∧sg (cls k) (cls k')=sg ((hd k).toNat:Int) ((hd k').toNat:Int):=by
 have a:k=1∨k=2∨k=3∨k=4∨k=5∨k=6∨k=7∨k=8:=by omega
 have b:k'=1∨k'=2∨k'=3∨k'=4∨k'=5∨k'=6∨k'=7∨k'=8:=by omega
 rcases a with rfl | rfl | rfl | rfl | rfl | rfl | rfl | rfl<;>rcases b with rfl | rfl | rfl | rfl | rfl | rfl | rfl | rfl<;>first | exact absurd rfl hne | exact⟨by decide,by decide⟩
theorem aaN{k:Int}(hk:k=3∨k=4)(n:Nat):(mk k n [] [] []).key=48::My k n:=by
 rcases hk with rfl | rfl
 ·rw[zo];rfl
 rw[zo];rfl
theorem Un{k k':Int}(hk:k=3∨k=4)(hk':k'=3∨k'=4)(n n':Nat):cmp (mk k n [] [] []) (mk k' n' [] [] [])=ir k n k' n':=by
 rw[qf,ai,ai (by omega),ar hk];rcases hk with rfl | rfl<;>rcases hk' with rfl | rfl<;>decide
theorem ajJ{k k':Int}(hk:k=3∨k=4)(hk':k'=3∨k'=4){n n':Nat}(ha:n<18446744073709551616)(hb:n'<18446744073709551616):KD (mk k n [] [] []) (mk k' n' [] [] []):=by
 unfold KD;rw[aaN hk,aaN hk',Un hk hk'];rcases ajG k k' n n' hk hk' ha hb with ⟨rfl,rfl,h⟩ | h
 ·exact .inl ⟨rfl,h⟩
 exact .inr (h.cons 48)
theorem ajK{k:Int}(hk:k=5∨k=6)(b b':List UInt8):KD (mk k 0 b [] []) (mk k 0 b' [] []):=by
 have e:∀b,(mk k 0 b [] []).key=hd k::cW b:=by intro b;rcases hk with rfl | rfl<;>rw[zo]<;>rfl
 have c:cmp (mk k 0 b [] []) (mk k 0 b' [] [])=Lib.compareBytes b b':=by
  rw[qf,ai (by simp),ai (by omega),ai (by omega),ar hk]
 unfold KD;rw[e,e,c];by_cases h:b=b'
 ·subst h;exact .inl ⟨rfl,Gf b⟩
 exact .inr ((S5 b b' h).cons _)
theorem Ge(u:V):∀v:V,u.formed=true→u.fit→v.formed=true→v.fit→KD u v:=by
 induction u using V.ind with
 | h k n b l f hl hf =>
  intro v hu fu hv fv;obtain⟨k',n',b',l',f'⟩:=v;by_cases hcl:cls k≠cls k'
  ·obtain⟨r1,q1,e1⟩:=aaM hu;obtain⟨r2,q2,e2⟩:=aaM hv;obtain⟨h1,h2⟩:=ajI r1 r2 hcl;right;rw[qf,ar hcl,e1,e2];exact aaL h1 h2
  have hcl:cls k=cls k':=yi hcl;have hu':=hu;have hv':=hv;rw[V.fit] at fu fv;rcases E4 hu with h | ⟨m,hm,h⟩ | ⟨m,h⟩ | ⟨m,h⟩ | ⟨m,hm,h⟩ | ⟨m,h⟩ | ⟨m,hm,h⟩ | ⟨m,hm,hnd,h⟩<;>cases h <;>
  rcases E4 hv with h | ⟨m',hm',h⟩ | ⟨m',h⟩ | ⟨m',h⟩ | ⟨m',hm',h⟩ | ⟨m',h⟩ | ⟨m',hm',h⟩ | ⟨m',hm',hnd',h⟩<;>cases h <;>
  first
  | exact absurd hcl (by decide)
  | exact ajJ (by decide) (by decide) fu.1 fv.1
  | exact ajK (by decide) _ _
  | skip
  ·exact .inl ⟨rfl,by rw[qf];rfl⟩
  ·have e:∀n:Nat,(mk 2 n [] [] []).key=[32,UInt8.ofNat n]:=by intro n;rw[zo];rfl
   have c:cmp (mk 2 n [] [] []) (mk 2 n' [] [] [])=sg n n':=by rw[qf];rfl
   unfold KD;rw[e,e,c];by_cases h:n=n'
   ·subst h;exact .inl ⟨rfl,pD rfl⟩
   right;refine Diff.cons (aaL (fun e=>h (ajH (by omega) (by omega) e)) ?_) 32;rw[zm n (by omega),zm n' (by omega)]
  ·have e:∀l:List V,(mk 7 0 [] l []).key=96::((l.map dY).flatten++[0]):=by intro l;rw[zo];rfl
   have c:cmp (mk 7 0 [] l []) (mk 7 0 [] l' [])=eJ (cmpL l l') (sg (l.length:Int) (l'.length:Int)):=by
    rw[qf,ai (by simp),ai (by decide),ai (by decide),ai (by decide)];have:nr [] []=0:=rfl;rw[this];simp only[bn,fF];congr 1;unfold eJ;split<;>simp_all
   unfold KD;rw[e,e,c];rcases aaJ l l' (fun x hx y hy=>hl x hx y (hm x hx) (fu.2.1 x hx) (hm' y hy) (fv.2.1 y hy)) with ⟨rfl,h⟩ | h
   ·left;refine⟨rfl,?_⟩;rw[h,kK];exact pD rfl
   exact .inr (h.cons 96)
  have e:∀l:List (ByteArray×V),(mk 8 0 [] [] l).key=112::((l.map dZ).flatten++[0]):=by intro l;rw[zo];rfl
  have c:cmp (mk 8 0 [] [] f) (mk 8 0 [] [] f')=eJ (nr f f') (sg (f.length:Int) (f'.length:Int)):=by
   rw[qf,ai (by simp),ai (by decide),ai (by decide),ai (by decide)];have:cmpL [] []=0:=rfl;rw[this,kK];simp only[bn,dg]
  unfold KD;rw[e,e,c];rcases aaK f f' (fun x hx y hy=>hf x hx y.2 (hm x hx).2 (fu.2.2 x hx) (hm' y hy).2 (fv.2.2 y hy)) with ⟨rfl,h⟩ | h
  ·left;refine⟨rfl,?_⟩;rw[h,kK];exact pD rfl
  exact .inr (h.cons 112)
end V
end
abbrev ajL:=@Diff.here
section
open Go.RowKit Go.Shelf
structure Num (x:Nat):Prop where
 bits:x<18446744073709551616
 le:x % 9223372036854775808≤9218868437227405312
theorem Num.of{x:Nat}(h:x<18446744073709551616)(hn:dX x=false):Num x:=by
 rw[aaF h] at hn;exact⟨h,by simpa using hn⟩
theorem Num.lt{x y:Nat}(h:Num x)(k:Num y)(hl:sv x<sv y):FloatKind.f64.format.order x y=some Ordering.lt:=(LI h.bits k.bits h.le k.le).trans (by rw[vW hl])
theorem Num.eq{x y:Nat}(h:Num x)(k:Num y)(hl:sv x=sv y):FloatKind.f64.format.order x y=some Ordering.eq:=(LI h.bits k.bits h.le k.le).trans (by rw[zn hl])
theorem Num.gt{x y:Nat}(h:Num x)(k:Num y)(hl:sv y<sv x):FloatKind.f64.format.order x y=some Ordering.gt:=(LI h.bits k.bits h.le k.le).trans (by rw[vX hl])
theorem ajM(f:Nat)(s:Bool)(m:Nat)(p:Int)(h:Ieee.double.read f=.number s m p)(w:World):(Extern.MathFloor.toIntegral "math.archFloor" .down #[.float .f64 f]).run prog w=.ok (.float .f64 (nR f)) w:=by
 have hd:FloatKind.f64.decode f=.number s m p:=h;change Sem.run prog (match FloatKind.f64.decode f with
  | .nan s t =>
   if FloatKind.f64.format.quiet t=t then pure (Value.float .f64 f) else do
   let kept ← choose (.extern "math.Floor,Ceil,Trunc,RoundToEven.signallingNaN kept" 2);pure (Value.float .f64 (if kept==1 then f else FloatKind.f64.encode (.nan s (FloatKind.f64.format.quiet t))))
  | d=>pure (Value.float .f64 (FloatKind.f64.encode (d.integral .down)))) w=_
 rw[hd];unfold nR;rw[h];rfl
theorem ajN(f:Nat)(hf:f<18446744073709551616)(fin:f % 9223372036854775808<9218868437227405312)(w:World):Calls prog 182 #[.float .f64 f] w fun e w'=>e=.returned (.float .f64 (nR f))∧w=w':=by
 obtain⟨m, p, hr, -⟩:=Ii hf fin;have HX:=aa (ajM f _ m p hr);clear hr;go_enter func182, ntmps182;go_wp2_with fail;rw[run_callFunc_extern (P:=prog) (f:=204) (fn:=f204) (by kernel_rfl) (by kernel_rfl) (by kernel_rfl) (by kernel_rfl) (e:=Extern.MathFloor.toIntegral "math.archFloor" .down) (by kernel_rfl), HX.o];simp only[Result.andThen];rw[JA];go_wp2_with fail;go_ret;exact⟨rfl, rfl⟩
theorem IV:sv 4890909195324358656=9223372036854775808*(U1:Int):=by
 have h:=zq false 4503599627370496 11 (by omega) (by omega) (by omega);rw[show Ieee.double.word false ((11+1074)*4503599627370496+4503599627370496)=4890909195324358656 by unfold Ieee.Format.word;decide,ai (by decide),mG] at h;rw[h];rfl
theorem S6:sv 14114281232179134464=-9223372036854775808*(U1:Int):=by
 have h:=zq true 4503599627370496 11 (by omega) (by omega) (by omega);rw[show Ieee.double.word true ((11+1074)*4503599627370496+4503599627370496)=14114281232179134464 by unfold Ieee.Format.word;decide,ar rfl,mG] at h;rw[h,← pY];rfl
theorem Mz:Num 4890909195324358656:=⟨by decide,by decide⟩
theorem S7:Num 14114281232179134464:=⟨by decide,by decide⟩
noncomputable def mB(i:Int)(f:Nat):Int:=if i*(U1:Int)<sv f then -1 else if sv f<i*(U1:Int) then 1 else 0
theorem aaO(i:Int)(f:Nat):zG i f=if mB i f≠0 then mB i f else if f=9223372036854775808 then 1 else -1:=by
 unfold zG mB
 repeat' split
 all_goals first | rfl | contradiction | omega
inductive MA (i:Int) (f:Nat):Int→Prop
 | high (h:FloatKind.f64.format.order f 4890909195324358656=some Ordering.gt∨FloatKind.f64.format.order f 4890909195324358656=some Ordering.eq):MA i f (-1)
 | low (h1:FloatKind.f64.format.order f 4890909195324358656=some Ordering.lt) (h2:FloatKind.f64.format.order f 14114281232179134464=some Ordering.lt):MA i f 1
 | mid (r k:Int) (fin:f % 9223372036854775808<9218868437227405312) (h1:FloatKind.f64.format.order f 4890909195324358656=some Ordering.lt) (h2:FloatKind.f64.format.order f 14114281232179134464=some Ordering.gt∨FloatKind.f64.format.order f 14114281232179134464=some Ordering.eq)
  (hk:floatToIntVal .f64 (nR f) .i64=some k) (h3:(i<k∧r=-1)∨(k<i∧r=1)∨(i=k∧((FloatKind.f64.format.order f (nR f)=some Ordering.gt∧FloatKind.f64.format.order (nR f) f=some Ordering.lt∧r=-1)∨(FloatKind.f64.format.order f (nR f)=some Ordering.eq∧FloatKind.f64.format.order (nR f) f=some Ordering.eq∧r=0)))):MA i f r
theorem ways(i:Int)(f:Nat)(hf:Num f)(h1:-9223372036854775808≤i)(h2:i≤9223372036854775807):MA i f (mB i f):=by
 have hu:=LJ;by_cases a:sv f<9223372036854775808*(U1:Int)
 ·by_cases b:sv f < -9223372036854775808*(U1:Int)
  ·have e:mB i f=1:=by
    have:-9223372036854775808*(U1:Int)≤i*(U1:Int):=JD h1 (by omega);unfold mB;rw[ai (by omega),ar (by omega)]
   rw[e];exact .low (hf.lt Mz (by rw[IV];exact a)) (hf.lt S7 (by rw[S6];exact b))
  have fin:f % 9223372036854775808<9218868437227405312:=by
   rcases wF hf.le with h | h
   ·exact h
   exfalso;have hs:=LH hf.bits;rw[h] at hs;have hi:=IV;have hl:=Eh (show 4890909195324358656<9218868437227405312 by decide);have e1:sv 4890909195324358656=(rv 4890909195324358656:Int):=by unfold sv;rw[ar (by decide)]
   split at hs<;>omega
  obtain⟨k,w1,w2,w3,w4,w5,w6⟩:=ahK f hf.bits fin (by omega) a;have nf:Num (nR f):=⟨w1,by omega⟩;refine .mid _ k fin (hf.lt Mz (by rw[IV];exact a)) ?_ w4 ?_
  ·rcases JE (Int.not_lt.1 b) with h | h
   ·exact .inl (hf.gt S7 (by rw[S6];exact h))
   exact .inr (hf.eq S7 (by rw[S6];exact h.symm))
  rcases yo i k with h | h | h
  ·left;refine⟨h,?_⟩;have:=Ex h;unfold mB;rw[ar (by omega)]
  ·right;right;subst h;refine⟨rfl,?_⟩;rcases JE w5 with h | h
   ·left;refine⟨hf.gt nf (by omega),nf.lt hf (by omega),?_⟩;unfold mB;rw[ar h]
   right;refine⟨hf.eq nf (by omega),nf.eq hf (by omega),?_⟩;unfold mB;rw[ai (by omega),ai (by omega)]
  right;left;refine⟨h,?_⟩;have:(k+1)*(U1:Int)≤i*(U1:Int):=JD (by omega) (by omega);unfold mB;rw[ai (by omega),ar (by omega)]
 have e:mB i f=-1:=by
  have:i*(U1:Int)<9223372036854775808*(U1:Int):=Ex (by omega);unfold mB;rw[ar (by omega)]
 rw[e];refine .high ?_;rcases JE (Int.not_lt.1 a) with h | h
 ·exact .inl (hf.gt Mz (by rw[IV];exact h))
 exact .inr (hf.eq Mz (by rw[IV];exact h.symm))
end
section
open Go.RowKit Go.Shelf
theorem aaP(i:Int)(f:Nat):mB i f=-1∨mB i f=0∨mB i f=1:=by
 unfold mB;repeat' split
 all_goals omega
theorem MB(n:Nat)(h:n<18446744073709551616):IntKind.i64.wrap (n:Int)=i64 n:=by
 unfold i64;rw[cZ];split<;>omega
end
section
open Go.RowKit Go.Shelf
theorem ajO(a b:ByteArray)(w:World):Calls prog 143 #[.string a,.string b] w fun e w'=>e=.returned (.int .i64 (Lib.compareBytes a.data.toList b.data.toList))∧w=w':=by
 go_enter func143,ntmps143;go_wp2_with fail;rw[run_callFunc_extern (P:=prog) (f:=183) (fn:=f183) (by kernel_rfl) (by kernel_rfl) (by kernel_rfl) (by kernel_rfl) (e:=Extern.BytealgCompare.compare) (by kernel_rfl),Lib.run_compareString];simp only[Result.andThen];rw[JA];go_wp2_with fail;go_ret;exact⟨rfl,rfl⟩
theorem ads(a b:ByteArray)(w:World):Calls prog 97 #[.string a,.string b] w fun e w'=>e=.returned (.int .i64 (Lib.compareBytes a.data.toList b.data.toList))∧w=w':=by
 go_enter func97,ntmps97;go_wp2_with (go_at_call 143;refine(ajO a b _).mono ?_;rintro e w' ⟨rfl,rfl⟩);go_ret;exact⟨rfl,rfl⟩
theorem JQ{P:Program}{f:FuncId}{args:Array Value}{w:World}{a n:Nat}{v:Value}(h:Calls P f args (w.drewN (a+n)) fun e w'=>e=.returned v∧w.drewN (a+n)=w') :
 Calls P f args (w.drewN (a+n)) fun e w''=>e=.returned v∧∃m,w''=w.drewN (a+m):=h.mono fun _ _ q=>⟨q.1,n,q.2.symm⟩
theorem ajP{a b:List UInt8}{j:Nat}(h:a.take j=b.take j)(h1:j<a.length)(h2:j<b.length)(hne:a[j]≠b[j]):Lib.compareBytes a b=sg (a[j].toNat:Int) (b[j].toNat:Int):=by
 have e1:a=a.take j++a[j]::a.drop (j+1):=by rw[← yg h1,pU]
 have e2:b=a.take j++b[j]::b.drop (j+1):=by rw[h,← yg h2,pU]
 generalize a[j]=x at e1 hne ⊢;generalize b[j]=y at e2 hne ⊢;rw[e1,e2,Dk];exact(ajL hne _ _).cmp
theorem aaQ{a b:List UInt8}(h:a.take (min a.length b.length)=b.take (min a.length b.length)):Lib.compareBytes a b=sg (a.length:Int) (b.length:Int):=by
 rcases Nat.le_total a.length b.length with hl | hl
 ·rw[pW hl,fC] at h;have e:b=a++b.drop a.length:=by rw[h,eD,pW hl,pU]
  obtain⟨r,hr⟩:∃r,b.drop a.length=r:=⟨_,rfl⟩;rw[hr] at e;subst e;have:Lib.compareBytes a (a++r)=Lib.compareBytes [] r:=by have:=Dk a [] r;rwa [mD] at this
  rw[this]
  cases r with
  | nil=>simp[Lib.compareBytes,sg]
  | cons x r=>rw[Lib.compareBytes,uF (by simp;omega)]
 rw[JB hl,fC] at h;have e:a=b++a.drop b.length:=by rw[← h,eD,pW hl,pU]
 obtain⟨r,hr⟩:∃r,a.drop b.length=r:=⟨_,rfl⟩;rw[hr] at e;subst e;have:Lib.compareBytes (b++r) b=Lib.compareBytes r []:=by have:=Dk b r [];rwa [mD] at this
 rw[this]
 cases r with
 | nil=>simp[Lib.compareBytes,sg]
 | cons x r=>rw[Lib.compareBytes,wj (by simp;omega)]
end
section
open Go.RowKit Go.Shelf
theorem S8:∀(l:List Int) (j:Nat) (h:j<l.length),(∀i (hi:i<l.length),i<j→l[i]=0)→l[j]≠0→wu l=l[j]
 | [],j,h,_,_=>by simp at h
 | x::l,0,h,_,hn=>by simp only[Ci] at hn ⊢;rw[wu,qi _ hn]
 | x::l,j+1,h,h0,hn=>by
  have hx:x=0:=h0 0 (by simp) (by omega);simp only[EL] at hn ⊢;rw[wu,hx,kK];exact S8 l j (by simpa using h) (fun i hi hij=>h0 (i+1) (by simpa using hi) (by omega)) hn
theorem S9:∀(l:List Int),(∀i (hi:i<l.length),l[i]=0)→wu l=0
 | [],_=>rfl
 | x::l,h=>by
  have hx:x=0:=h 0 (by simp);rw[wu,hx,kK];exact S9 l (fun i hi=>h (i+1) (by simpa using hi))
namespace V
theorem abL{l l':List V}{j:Nat}(h1:j<l.length)(h2:j<l'.length)(h:∀i (h1:i<l.length) (h2:i<l'.length),i<j→cmp l[i] l'[i]=0)(hn:cmp l[j] l'[j]≠0):cmpL l l'=cmp l[j] l'[j]:=by
 unfold cmpL;have hl:((l.zip l').map fun p=>cmp p.1 p.2).length=min l.length l'.length:=by simp
 rw[S8 _ j (by rw[hl];omega) (fun i hi hij=>?_) (by simpa using hn)]
 ·simp
 rw[hl] at hi;have:=h i (by omega) (by omega) hij;simpa using this
theorem abM{l l':List V}(h:∀i (h1:i<l.length) (h2:i<l'.length),cmp l[i] l'[i]=0):cmpL l l'=0:=by
 unfold cmpL;refine S9 _ (fun i hi=>?_);have hl:((l.zip l').map fun p=>cmp p.1 p.2).length=min l.length l'.length:=by simp
 rw[hl] at hi;have:=h i (by omega) (by omega);simpa using this
theorem Um{l l':List (ByteArray×V)}{j:Nat}(h1:j<l.length)(h2:j<l'.length)(h:∀i (h1:i<l.length) (h2:i<l'.length),i<j→sU l[i] l'[i]=0)(hn:sU l[j] l'[j]≠0):nr l l'=sU l[j] l'[j]:=by
 unfold nr;have hl:((l.zip l').map fun p=>sU p.1 p.2).length=min l.length l'.length:=by simp
 rw[S8 _ j (by rw[hl];omega) (fun i hi hij=>?_) (by simpa using hn)]
 ·simp
 rw[hl] at hi;have:=h i (by omega) (by omega) hij;simpa using this
theorem abN{l l':List (ByteArray×V)}(h:∀i (h1:i<l.length) (h2:i<l'.length),sU l[i] l'[i]=0):nr l l'=0:=by
 unfold nr;refine S9 _ (fun i hi=>?_);have hl:((l.zip l').map fun p=>sU p.1 p.2).length=min l.length l'.length:=by simp
 rw[hl] at hi;have:=h i (by omega) (by omega);simpa using this
end V
theorem Uq(a b c:Int):eJ (eJ a b) c=eJ a (eJ b c):=by unfold eJ;split<;>simp_all
end
section
open Go.RowKit
section
variable {P:Program} {ops:Array Oper} {Q:Exit→Act→World→Prop} {rest:List Oper} {a:Act} {w:World}
theorem afV(ty:TypeId){x y:Operand}{t:TypeId}{p:String}{af:Array Edge}(h:wpList P ops Q (⟨none,.store ty x y,t,p,af,none⟩::rest) a w):wpList P ops Q (⟨none,.store ty x y,t,p,af,none⟩::rest) a w:=h
theorem ZR(ty:TypeId){d:Option Tmp}{x:Operand}{t:TypeId}{p:String}{af:Array Edge}(h:wpList P ops Q (⟨d,.load ty x,t,p,af,none⟩::rest) a w):wpList P ops Q (⟨d,.load ty x,t,p,af,none⟩::rest) a w:=h
theorem ZT{ty t:TypeId}{x:Operand}{d:Option Tmp}{p:String}{af:Array Edge}{g n:Nat}{cells:Array Value}{td:TypeDesc}(hu:P.underlying ty=some td)(hd:(match td with | .struct _ | .array _ _=>true | _=>false)=true)(hx:a.eval x=.pointer (some ⟨g,0,none⟩))(hB:Blk w g ty cells)(hi:(P.info? ty).map (·.size)=some n)
 (hn:cells.size=n) (h:wpList P ops Q rest (a.put d (.agg cells)) w):wpList P ops Q (⟨d,.load ty x,t,p,af,none⟩::rest) a w:=
 wpList_load_row rfl ty x rfl g hx ty cells (0,0) td hB hu hd (by rw[hn];exact hi) h
end
end
section
open Go.RowKit Go.Shelf
theorem aaR(i:Int)(f:Nat)(hf:Num f)(h1:-9223372036854775808≤i)(h2:i≤9223372036854775807)(w:World):Calls prog 193 #[.int .i64 i,.float .f64 f] w fun e w'=>e=.returned (.int .i64 (mB i f))∧w=w':=by
 have hw:=ways i f hf h1 h2;have hb:=hf.bits;obtain⟨r,hr⟩:∃r,mB i f=r:=⟨_,rfl⟩;rw[hr] at hw ⊢;clear hr hf
 cases hw with
 | high h =>
  rcases h with h | h
  all_goals
   go_enter func193,ntmps193
   go_wp2_with fail
   go_ret
   exact⟨rfl,rfl⟩
 | low h1 h2 =>
  go_enter func193,ntmps193;go_wp2_with fail;go_ret;exact⟨rfl,rfl⟩
 | mid _ k fin h1 h2 hk h3 =>
  have hv:=Mt (nR f) k hk;have qd:=aa (fun w=>ajN f hb fin w);clear hk fin;obtain⟨F,hF⟩:∃F,nR f=F:=⟨_,rfl⟩;rw[hF] at hv h3 qd;clear hF hb;rcases h2 with h2 | h2<;>rcases h3 with ⟨h3,rfl⟩ | ⟨h3,rfl⟩ | ⟨rfl,⟨h3,h4,rfl⟩ | ⟨h3,h4,rfl⟩⟩
  all_goals
   go_enter func193,ntmps193
   first
   | have hs:(i==k)=false:=by simp;omega
   | have hs:(i==i)=true:=by simp
   first
   | have hs2:¬ i<k:=by omega
   | have hs2:True:=trivial
   go_wp2_with (go_at_call 182;refine(qd.o _).mono ?_;rintro e w' ⟨rfl,rfl⟩)
   go_ret
   exact⟨rfl,rfl⟩
theorem ajQ(n:Nat)(hn:n<18446744073709551616):dX n=(decide (n / 4503599627370496 % 2048=2047)&&decide (n % 4503599627370496≠0)):=by
 rw[aaF hn,← Bool.decide_and];exact decide_eq_decide.2 (by omega)
theorem zH(k:Int)(n:Nat)(c:Cv)(w:World)(hk:k=3∨k=4)(h0:c.k=k)(h1:c.n=(n:Int))(h3:n<18446744073709551616) :
 Calls prog 192 #[c.agg] w fun e w'=>e=.returned (.bool (decide (k=4)&&dX n))∧Grow w w':=by
 obtain⟨ck,cn,aB,nB,cB,aL,nL,cL,aF,nF,cF⟩:=c;dsimp only at h0 h1;replace h0:=h0.symm;subst h0 h1;have HG:=aa ((ah w).alloc (.cells (Cv.mk k n aB nB cB aL nL cL aF nF cF).cells 27));rcases hk with rfl | rfl
 ·go_enter func192,ntmps192;go_wp2_with fail;go_ret;exact⟨rfl,HG.o⟩
 have hx1:bits .and .u64 ((n:Int) / 4503599627370496) 2047=((n / 4503599627370496 % 2048:Nat):Int):=by
  have h:=u64_and_nat (n / 4503599627370496) 2047 (by omega) (by decide);rw[show (n / 4503599627370496) &&& 2047=n / 4503599627370496 % 2048 from Cs _ 11] at h;rw[← h];rfl
 have hx2:bits .and .u64 (n:Int) 4503599627370495=((n % 4503599627370496:Nat):Int):=by
  have h:=u64_and_nat n 4503599627370495 h3 (by decide);rw[show n &&& 4503599627370495=n % 4503599627370496 from Cs _ 52] at h;exact h
 have hnb:=ajQ n h3;obtain⟨E,hE⟩:∃E,n / 4503599627370496 % 2048=E:=⟨_,rfl⟩;obtain⟨M,hM⟩:∃M,n % 4503599627370496=M:=⟨_,rfl⟩;rw[hE] at hx1;rw[hM] at hx2;rw[hE,hM] at hnb;have ky:=aa hnb;clear hE hM hnb;by_cases e1:E=2047
 ·subst e1;by_cases e2:M=0
  ·subst e2;go_enter func192,ntmps192;go_wp2_with fail;go_ret;exact⟨by rw[ky.o];rfl,HG.o⟩
  have Uf:((M:Int) != 0)=true:=by simpa using e2
  go_enter func192,ntmps192;go_wp2_with fail;go_ret;exact⟨by rw[ky.o];simp[e2],HG.o⟩
 have hEb:((E:Int)==2047)=false:=by simp;omega
 go_enter func192,ntmps192;go_wp2_with fail;go_ret;exact⟨by rw[ky.o];simp[e1],HG.o⟩
def lX(k:Int)(n:Nat):Int:=if k=3 then 1 else if n=9223372036854775808 then 0 else 2
theorem zI(k:Int)(n:Nat)(c:Cv)(w:World)(hk:k=3∨k=4)(h0:c.k=k)(h1:c.n=(n:Int))(h3:n<18446744073709551616) :
 Calls prog 194 #[c.agg] w fun e w'=>e=.returned (.int .i64 (lX k n))∧Grow w w':=by
 obtain⟨ck,cn,aB,nB,cB,aL,nL,cL,aF,nF,cF⟩:=c;dsimp only at h0 h1;replace h0:=h0.symm;subst h0 h1;have HG:=aa ((ah w).alloc (.cells (Cv.mk k n aB nB cB aL nL cL aF nF cF).cells 27));rcases hk with rfl | rfl
 ·go_enter func194,ntmps194;go_wp2_with fail;go_ret;exact⟨rfl,HG.o⟩
 by_cases hz:n=9223372036854775808
 ·subst hz;go_enter func194,ntmps194;go_wp2_with fail;go_ret;exact⟨rfl,HG.o⟩
 have Uj:((n:Int)==9223372036854775808)=false:=by simp;omega
 have HP:=aa (show lX 4 n=2 by unfold lX;rw[ai (by decide),ai hz]);clear hz;go_enter func194,ntmps194;go_wp2_with fail;go_ret;exact⟨by rw[HP.o];rfl,HG.o⟩
theorem qh(a b:Int)(w:World):Calls prog 159 #[.int .i64 a,.int .i64 b] w fun e w'=>e=.returned (.int .i64 (sg a b))∧w=w':=by
 rcases yo a b with h | h | h
 ·rw[uF h];go_enter func159,ntmps159;go_wp2_with fail;go_ret;exact⟨rfl,rfl⟩
 ·rw[pD h];subst h;go_enter func159,ntmps159;go_wp2_with fail;go_ret;exact⟨rfl,rfl⟩
 rw[wj h];have h2:¬ a<b:=by omega
 go_enter func159,ntmps159;go_wp2_with fail;go_ret;exact⟨rfl,rfl⟩
theorem ajR(n n':Nat)(h1:n<18446744073709551616)(h2:n'<18446744073709551616)(h:sv n=sv n'):sg ((n' / 9223372036854775808:Nat):Int) ((n / 9223372036854775808:Nat):Int)=sg (lX 4 n) (lX 4 n'):=by
 by_cases e:n=n'
 ·subst e;rw[pD rfl,pD rfl]
 rcases Mw h1 h2 ((LG _ _).1 h) e with ⟨rfl,rfl⟩ | ⟨rfl,rfl⟩<;>rfl
theorem ajS(c c':Cv)(n n':Nat)(w:World)(hk:c.k=3)(hn:c.n=(n:Int))(hk':c'.k=3)(hn':c'.n=(n':Int))(h1:n<18446744073709551616)(h2:n'<18446744073709551616) :
 Calls prog 160 #[c.agg,c'.agg] w fun e w'=>e=.returned (.int .i64 (ir 3 n 3 n'))∧Grow w w':=by
 obtain⟨ck,cn,a1,a2,a3,a4,a5,a6,a7,a8,a9⟩:=c;obtain⟨dk,dn,b1,b2,b3,b4,b5,b6,b7,b8,b9⟩:=c';dsimp only at hk hn hk' hn';subst hk hn hk' hn';have hb:=wh
 have aP:=aa (((ah w).alloc (.cells (Cv.mk 3 n a1 a2 a3 a4 a5 a6 a7 a8 a9).cells 27)).alloc (.cells (Cv.mk 3 n' b1 b2 b3 b4 b5 b6 b7 b8 b9).cells 27));have bf:=aa ((aH w 27 (Cv.mk 3 n a1 a2 a3 a4 a5 a6 a7 a8 a9).cells).alloc (.cells (Cv.mk 3 n' b1 b2 b3 b4 b5 b6 b7 b8 b9).cells 27));have jY:=aa (df (w:=w.alloc (.cells (Cv.mk 3 n a1 a2 a3 a4 a5 a6 a7 a8 a9).cells 27)) (g:=w.heap.size+1) (by simp) 27 (Cv.mk 3 n' b1 b2 b3 b4 b5 b6 b7 b8 b9).cells);have HI:=aa (fun w2=>zH 3 n (Cv.mk 3 n a1 a2 a3 a4 a5 a6 a7 a8 a9) w2 (by decide) rfl rfl h1);have HJ:=aa (fun w2=>zH 3 n' (Cv.mk 3 n' b1 b2 b3 b4 b5 b6 b7 b8 b9) w2 (by decide) rfl rfl h2);have HP:=aa (fun w2=>zI 3 n (Cv.mk 3 n a1 a2 a3 a4 a5 a6 a7 a8 a9) w2 (by decide) rfl rfl h1)
 have HQ:=aa (fun w2=>zI 3 n' (Cv.mk 3 n' b1 b2 b3 b4 b5 b6 b7 b8 b9) w2 (by decide) rfl rfl h2);rw[show (decide ((3:Int)=4)&&dX n)=false from rfl] at HI;rw[show (decide ((3:Int)=4)&&dX n')=false from rfl] at HJ;have h43:¬ (4:Int)=3:=by decide
 have hcv:=MB n h1;have Wf:=MB n' h2;have hC:ir 3 n 3 n'=sg (i64 n) (i64 n'):=by unfold ir;simp only[iK]
 rw[hC];clear hC h43;rcases yo (i64 n) (i64 n') with h | h | h
 ·rw[uF h];go_enter func160,ntmps160;go_wp2_with fail;refine(HI.o _).mono ?_;rintro e w1 ⟨rfl,hg1⟩;have aN:=aa (aP.o.trans hg1);have aQ:=aa (bf.o.grow hg1);have bJ:=aa (jY.o.grow hg1);have hc1:=aQ.o.cell;have hd1:=bJ.o.cell;have ek:=aQ.o.lt;have bG:=bJ.o.lt;clear hg1;go_wp2_with fail;refine(HJ.o _).mono ?_;rintro e w2 ⟨rfl,hg2⟩;have HG2:=aa (aN.o.trans hg2);have aG:=aa (aQ.o.grow hg2);have bS:=aa (bJ.o.grow hg2);have hc2:=aG.o.cell;have hd2:=bS.o.cell;have hl2:=aG.o.lt;have hm2:=bS.o.lt;clear hg2;clear hc1 hd1 ek bG;go_wp2_with fail;go_ret;exact⟨dI rfl,HG2.o⟩
 ·rw[pD h];have h0:¬ i64 n<i64 n':=by omega
  have h00:¬ i64 n'<i64 n:=by omega
  clear h;go_enter func160,ntmps160;go_wp2_with fail;refine(HI.o _).mono ?_;rintro e w1 ⟨rfl,hg1⟩;have aN:=aa (aP.o.trans hg1);have aQ:=aa (bf.o.grow hg1);have bJ:=aa (jY.o.grow hg1);have hc1:=aQ.o.cell;have hd1:=bJ.o.cell;have ek:=aQ.o.lt;have bG:=bJ.o.lt;clear hg1;go_wp2_with fail;refine(HJ.o _).mono ?_;rintro e w2 ⟨rfl,hg2⟩;have HG2:=aa (aN.o.trans hg2);have aG:=aa (aQ.o.grow hg2);have bS:=aa (bJ.o.grow hg2);have hc2:=aG.o.cell;have hd2:=bS.o.cell;have hl2:=aG.o.lt;have hm2:=bS.o.lt;clear hg2;clear hc1 hd1 ek bG;go_wp2_with fail;go_ret;exact⟨dI rfl,HG2.o⟩
 rw[wj h];have h0:¬ i64 n<i64 n':=by omega
 go_enter func160,ntmps160;go_wp2_with fail;refine(HI.o _).mono ?_;rintro e w1 ⟨rfl,hg1⟩;have aN:=aa (aP.o.trans hg1);have aQ:=aa (bf.o.grow hg1);have bJ:=aa (jY.o.grow hg1);have hc1:=aQ.o.cell;have hd1:=bJ.o.cell;have ek:=aQ.o.lt;have bG:=bJ.o.lt;clear hg1;go_wp2_with fail;refine(HJ.o _).mono ?_;rintro e w2 ⟨rfl,hg2⟩;have HG2:=aa (aN.o.trans hg2);have aG:=aa (aQ.o.grow hg2);have bS:=aa (bJ.o.grow hg2);have hc2:=aG.o.cell;have hd2:=bS.o.cell;have hl2:=aG.o.lt;have hm2:=bS.o.lt;clear hg2;clear hc1 hd1 ek bG;go_wp2_with fail;go_ret;exact⟨dI rfl,HG2.o⟩
theorem ajT(c c':Cv)(n n':Nat)(w:World)(hk:c.k=3)(hn:c.n=(n:Int))(hk':c'.k=4)(hn':c'.n=(n':Int))(h1:n<18446744073709551616)(h2:n'<18446744073709551616) :
 Calls prog 160 #[c.agg,c'.agg] w fun e w'=>e=.returned (.int .i64 (ir 3 n 4 n'))∧Grow w w':=by
 obtain⟨ck,cn,a1,a2,a3,a4,a5,a6,a7,a8,a9⟩:=c;obtain⟨dk,dn,b1,b2,b3,b4,b5,b6,b7,b8,b9⟩:=c';dsimp only at hk hn hk' hn';subst hk hn hk' hn';have hb:=wh
 have aP:=aa (((ah w).alloc (.cells (Cv.mk 3 n a1 a2 a3 a4 a5 a6 a7 a8 a9).cells 27)).alloc (.cells (Cv.mk 4 n' b1 b2 b3 b4 b5 b6 b7 b8 b9).cells 27));have bf:=aa ((aH w 27 (Cv.mk 3 n a1 a2 a3 a4 a5 a6 a7 a8 a9).cells).alloc (.cells (Cv.mk 4 n' b1 b2 b3 b4 b5 b6 b7 b8 b9).cells 27));have jY:=aa (df (w:=w.alloc (.cells (Cv.mk 3 n a1 a2 a3 a4 a5 a6 a7 a8 a9).cells 27)) (g:=w.heap.size+1) (by simp) 27 (Cv.mk 4 n' b1 b2 b3 b4 b5 b6 b7 b8 b9).cells);have HI:=aa (fun w2=>zH 3 n (Cv.mk 3 n a1 a2 a3 a4 a5 a6 a7 a8 a9) w2 (by decide) rfl rfl h1);have HJ:=aa (fun w2=>zH 4 n' (Cv.mk 4 n' b1 b2 b3 b4 b5 b6 b7 b8 b9) w2 (by decide) rfl rfl h2);have HP:=aa (fun w2=>zI 3 n (Cv.mk 3 n a1 a2 a3 a4 a5 a6 a7 a8 a9) w2 (by decide) rfl rfl h1)
 have HQ:=aa (fun w2=>zI 4 n' (Cv.mk 4 n' b1 b2 b3 b4 b5 b6 b7 b8 b9) w2 (by decide) rfl rfl h2);rw[show (decide ((3:Int)=4)&&dX n)=false from rfl] at HI;rw[show (decide ((4:Int)=4)&&dX n')=dX n' from rfl] at HJ;have h43:¬ (4:Int)=3:=by decide
 by_cases hy:dX n'=true
 ·rw[hy] at HJ;rw[show ir 3 n 4 n'=1 by unfold ir;rw[ar rfl,ai h43,ar hy]];go_enter func160,ntmps160;go_wp2_with fail;refine(HI.o _).mono ?_;rintro e w1 ⟨rfl,hg1⟩;have aN:=aa (aP.o.trans hg1);have aQ:=aa (bf.o.grow hg1);have bJ:=aa (jY.o.grow hg1);have hc1:=aQ.o.cell;have hd1:=bJ.o.cell;have ek:=aQ.o.lt;have bG:=bJ.o.lt;clear hg1;go_wp2_with fail;refine(HJ.o _).mono ?_;rintro e w2 ⟨rfl,hg2⟩;have HG2:=aa (aN.o.trans hg2);have aG:=aa (aQ.o.grow hg2);have bS:=aa (bJ.o.grow hg2);have hc2:=aG.o.cell;have hd2:=bS.o.cell;have hl2:=aG.o.lt;have hm2:=bS.o.lt;clear hg2;clear hc1 hd1 ek bG;go_wp2_with fail;refine(HI.o _).mono ?_;rintro e w3 ⟨rfl,hg3⟩;have aJ:=aa (HG2.o.trans hg3);have aX:=aa (aG.o.grow hg3);have jw:=aa (bS.o.grow hg3)
  have hc3:=aX.o.cell;have hd3:=jw.o.cell;have ny:=aX.o.lt;have wz:=jw.o.lt;clear hg3;clear hc2 hd2 hl2 hm2;go_wp2_with fail;refine(HI.o _).mono ?_;rintro e w4 ⟨rfl,hg4⟩;have bz:=aa (aJ.o.trans hg4);have au:=aa (aX.o.grow hg4);have uG:=aa (jw.o.grow hg4);have gf:=au.o.cell;have Ag:=uG.o.cell;have hl4:=au.o.lt;have S_:=uG.o.lt;clear hg4;clear hc3 hd3 ny wz;go_wp2_with fail;go_ret;exact⟨dI rfl,bz.o⟩
 have hy:dX n'=false:=by simpa using hy
 rw[hy] at HJ;have fx:=Num.of h2 hy;have hcv:=MB n h1;have hr:=Eg n h1;have hC:ir 3 n 4 n'=zG (i64 n) n':=by unfold ir;rw[ar rfl,ai h43,ai (by rw[hy];decide)]
 rw[aaO] at hC;have HW:=aa (fun w=>aaR (i64 n) n' fx hr.1 hr.2 w);rcases aaP (i64 n) n' with h | h | h
 ·rw[h] at hC HW;rw[hC];clear hC h hr fx h43;go_enter func160,ntmps160;go_wp2_with fail;refine(HI.o _).mono ?_;rintro e w1 ⟨rfl,hg1⟩;have aN:=aa (aP.o.trans hg1);have aQ:=aa (bf.o.grow hg1);have bJ:=aa (jY.o.grow hg1);have hc1:=aQ.o.cell;have hd1:=bJ.o.cell;have ek:=aQ.o.lt;have bG:=bJ.o.lt;clear hg1;go_wp2_with fail;refine(HJ.o _).mono ?_;rintro e w2 ⟨rfl,hg2⟩;have HG2:=aa (aN.o.trans hg2);have aG:=aa (aQ.o.grow hg2);have bS:=aa (bJ.o.grow hg2);have hc2:=aG.o.cell;have hd2:=bS.o.cell;have hl2:=aG.o.lt;have hm2:=bS.o.lt;clear hg2;clear hc1 hd1 ek bG;go_wp2_with fail;go_quiet ((first | (go_at_call 193;exact Calls.quiet_of_same ((HW.o _).mono fun e w' h=>⟨h.1,h.2.symm⟩))));go_wp2_with fail;go_ret;exact⟨dI (by simp),HG2.o.drewN _⟩
 ·rw[h] at hC HW;rw[hC];clear hC h hr fx h43;have hE:sg (lX 3 n) (lX 4 n')=if (0:Int)≠0 then 0 else if n'=9223372036854775808 then 1 else -1:=by
   have e3:lX 3 n=1:=rfl;by_cases hz:n'=9223372036854775808
   ·have e4:lX 4 n'=0:=by rw[hz];rfl
    rw[e3,e4,ai (by decide),ar hz];rfl
   have e4:lX 4 n'=2:=by unfold lX;rw[ai (by decide),ai hz]
   rw[e3,e4,ai (by decide),ai hz];rfl
  rw[← hE];clear hE;go_enter func160,ntmps160;go_wp2_with fail;refine(HI.o _).mono ?_;rintro e w1 ⟨rfl,hg1⟩;have aN:=aa (aP.o.trans hg1);have aQ:=aa (bf.o.grow hg1);have bJ:=aa (jY.o.grow hg1);have hc1:=aQ.o.cell;have hd1:=bJ.o.cell;have ek:=aQ.o.lt;have bG:=bJ.o.lt;clear hg1;go_wp2_with fail;refine(HJ.o _).mono ?_;rintro e w2 ⟨rfl,hg2⟩;have HG2:=aa (aN.o.trans hg2);have aG:=aa (aQ.o.grow hg2);have bS:=aa (bJ.o.grow hg2);have hc2:=aG.o.cell;have hd2:=bS.o.cell;have hl2:=aG.o.lt;have hm2:=bS.o.lt;clear hg2;clear hc1 hd1 ek bG;go_wp2_with fail;go_quiet ((first | (go_at_call 193;exact Calls.quiet_of_same ((HW.o _).mono fun e w' h=>⟨h.1,h.2.symm⟩))));go_wp2_with fail
  go_region_held3 (fun w'=>(∀q,w'.cell? ⟨w.heap.size,q,none⟩=(Cv.mk 3 n a1 a2 a3 a4 a5 a6 a7 a8 a9).cells[q]?)∧(∀q,w'.cell? ⟨w.heap.size+1,q,none⟩=(Cv.mk 4 n' b1 b2 b3 b4 b5 b6 b7 b8 b9).cells[q]?)) (first | go_keep | exact⟨pI,zJ⟩ | exact⟨vM,hdy⟩)
   (first | ((with_reducible refine(HP.o _).mono ?_);rintro e wx ⟨rfl,hgx⟩;first | (have zK:=aa (eU.o.trans hgx);have uH:=aa (cG.o.grow hgx);have uI:=aa (mX.o.grow hgx);have vM:=uH.o.cell;have hdy:=uI.o.cell;clear hgx) | (have eU:=aa ((HG2.o.drewN _ |>.drew).trans hgx);have cG:=aa ((aG.o.drewN _ |>.drew).grow hgx);have mX:=aa ((bS.o.drewN _ |>.drew).grow hgx);have pI:=cG.o.cell;have zJ:=mX.o.cell;clear hgx)) | ((with_reducible refine(HQ.o _).mono ?_);rintro e wx ⟨rfl,hgx⟩;first | (have zK:=aa (eU.o.trans hgx);have uH:=aa (cG.o.grow hgx);have uI:=aa (mX.o.grow hgx);have vM:=uH.o.cell;have hdy:=uI.o.cell;clear hgx) | (have eU:=aa ((HG2.o.drewN _ |>.drew).trans hgx);have cG:=aa ((aG.o.drewN _ |>.drew).grow hgx);have mX:=aa ((bS.o.drewN _ |>.drew).grow hgx);have pI:=cG.o.cell;have zJ:=mX.o.cell;clear hgx)) | (go_at_call 159;refine(qh _ _ _).mono ?_;rintro e wx ⟨rfl,rfl⟩))
  all_goals
   go_wp2_with fail
   go_ret
   exact⟨rfl,zK.o⟩
 rw[h] at hC HW;rw[hC];clear hC h hr fx h43;go_enter func160,ntmps160;go_wp2_with fail;refine(HI.o _).mono ?_;rintro e w1 ⟨rfl,hg1⟩;have aN:=aa (aP.o.trans hg1);have aQ:=aa (bf.o.grow hg1);have bJ:=aa (jY.o.grow hg1);have hc1:=aQ.o.cell;have hd1:=bJ.o.cell;have ek:=aQ.o.lt;have bG:=bJ.o.lt;clear hg1;go_wp2_with fail;refine(HJ.o _).mono ?_;rintro e w2 ⟨rfl,hg2⟩;have HG2:=aa (aN.o.trans hg2);have aG:=aa (aQ.o.grow hg2);have bS:=aa (bJ.o.grow hg2);have hc2:=aG.o.cell;have hd2:=bS.o.cell;have hl2:=aG.o.lt;have hm2:=bS.o.lt;clear hg2;clear hc1 hd1 ek bG;go_wp2_with fail;go_quiet ((first | (go_at_call 193;exact Calls.quiet_of_same ((HW.o _).mono fun e w' h=>⟨h.1,h.2.symm⟩))));go_wp2_with fail;go_ret;exact⟨dI (by simp),HG2.o.drewN _⟩
theorem ajU(c c':Cv)(n n':Nat)(w:World)(hk:c.k=4)(hn:c.n=(n:Int))(hk':c'.k=3)(hn':c'.n=(n':Int))(h1:n<18446744073709551616)(h2:n'<18446744073709551616) :
 Calls prog 160 #[c.agg,c'.agg] w fun e w'=>e=.returned (.int .i64 (ir 4 n 3 n'))∧Grow w w':=by
 obtain⟨ck,cn,a1,a2,a3,a4,a5,a6,a7,a8,a9⟩:=c;obtain⟨dk,dn,b1,b2,b3,b4,b5,b6,b7,b8,b9⟩:=c';dsimp only at hk hn hk' hn';subst hk hn hk' hn';have hb:=wh
 have aP:=aa (((ah w).alloc (.cells (Cv.mk 4 n a1 a2 a3 a4 a5 a6 a7 a8 a9).cells 27)).alloc (.cells (Cv.mk 3 n' b1 b2 b3 b4 b5 b6 b7 b8 b9).cells 27));have bf:=aa ((aH w 27 (Cv.mk 4 n a1 a2 a3 a4 a5 a6 a7 a8 a9).cells).alloc (.cells (Cv.mk 3 n' b1 b2 b3 b4 b5 b6 b7 b8 b9).cells 27));have jY:=aa (df (w:=w.alloc (.cells (Cv.mk 4 n a1 a2 a3 a4 a5 a6 a7 a8 a9).cells 27)) (g:=w.heap.size+1) (by simp) 27 (Cv.mk 3 n' b1 b2 b3 b4 b5 b6 b7 b8 b9).cells);have HI:=aa (fun w2=>zH 4 n (Cv.mk 4 n a1 a2 a3 a4 a5 a6 a7 a8 a9) w2 (by decide) rfl rfl h1);have HJ:=aa (fun w2=>zH 3 n' (Cv.mk 3 n' b1 b2 b3 b4 b5 b6 b7 b8 b9) w2 (by decide) rfl rfl h2);have HP:=aa (fun w2=>zI 4 n (Cv.mk 4 n a1 a2 a3 a4 a5 a6 a7 a8 a9) w2 (by decide) rfl rfl h1)
 have HQ:=aa (fun w2=>zI 3 n' (Cv.mk 3 n' b1 b2 b3 b4 b5 b6 b7 b8 b9) w2 (by decide) rfl rfl h2);rw[show (decide ((3:Int)=4)&&dX n')=false from rfl] at HJ;rw[show (decide ((4:Int)=4)&&dX n)=dX n from rfl] at HI;have h43:¬ (4:Int)=3:=by decide
 by_cases hx:dX n=true
 ·rw[hx] at HI;rw[show ir 4 n 3 n'=-1 by unfold ir;rw[ai h43,ar hx,ar rfl]];go_enter func160,ntmps160;go_wp2_with fail;refine(HI.o _).mono ?_;rintro e w1 ⟨rfl,hg1⟩;have aN:=aa (aP.o.trans hg1);have aQ:=aa (bf.o.grow hg1);have bJ:=aa (jY.o.grow hg1);have hc1:=aQ.o.cell;have hd1:=bJ.o.cell;have ek:=aQ.o.lt;have bG:=bJ.o.lt;clear hg1;go_wp2_with fail;refine(HI.o _).mono ?_;rintro e w2 ⟨rfl,hg2⟩;have HG2:=aa (aN.o.trans hg2);have aG:=aa (aQ.o.grow hg2);have bS:=aa (bJ.o.grow hg2);have hc2:=aG.o.cell;have hd2:=bS.o.cell;have hl2:=aG.o.lt;have hm2:=bS.o.lt;clear hg2;clear hc1 hd1 ek bG;go_wp2_with fail;refine(HJ.o _).mono ?_;rintro e w3 ⟨rfl,hg3⟩;have aJ:=aa (HG2.o.trans hg3);have aX:=aa (aG.o.grow hg3);have jw:=aa (bS.o.grow hg3)
  have hc3:=aX.o.cell;have hd3:=jw.o.cell;have ny:=aX.o.lt;have wz:=jw.o.lt;clear hg3;clear hc2 hd2 hl2 hm2;go_wp2_with fail;refine(HI.o _).mono ?_;rintro e w4 ⟨rfl,hg4⟩;have bz:=aa (aJ.o.trans hg4);have au:=aa (aX.o.grow hg4);have uG:=aa (jw.o.grow hg4);have gf:=au.o.cell;have Ag:=uG.o.cell;have hl4:=au.o.lt;have S_:=uG.o.lt;clear hg4;clear hc3 hd3 ny wz;go_wp2_with fail;go_ret;exact⟨dI rfl,bz.o⟩
 have hx:dX n=false:=by simpa using hx
 rw[hx] at HI;have fx:=Num.of h1 hx;have hcv:=MB n' h2;have hr:=Eg n' h2;have hC:ir 4 n 3 n'=-(zG (i64 n') n):=by unfold ir;rw[ai h43,ai (by rw[hx];decide),ar rfl]
 rw[aaO] at hC;have HW:=aa (fun w=>aaR (i64 n') n fx hr.1 hr.2 w);rcases aaP (i64 n') n with h | h | h
 ·rw[h] at hC HW;rw[hC];clear hC h hr fx h43;go_enter func160,ntmps160;go_wp2_with fail;refine(HI.o _).mono ?_;rintro e w1 ⟨rfl,hg1⟩;have aN:=aa (aP.o.trans hg1);have aQ:=aa (bf.o.grow hg1);have bJ:=aa (jY.o.grow hg1);have hc1:=aQ.o.cell;have hd1:=bJ.o.cell;have ek:=aQ.o.lt;have bG:=bJ.o.lt;clear hg1;go_wp2_with fail;refine(HJ.o _).mono ?_;rintro e w2 ⟨rfl,hg2⟩;have HG2:=aa (aN.o.trans hg2);have aG:=aa (aQ.o.grow hg2);have bS:=aa (bJ.o.grow hg2);have hc2:=aG.o.cell;have hd2:=bS.o.cell;have hl2:=aG.o.lt;have hm2:=bS.o.lt;clear hg2;clear hc1 hd1 ek bG;go_wp2_with fail;go_quiet ((first | (go_at_call 193;exact Calls.quiet_of_same ((HW.o _).mono fun e w' h=>⟨h.1,h.2.symm⟩))));go_wp2_with fail;go_ret;exact⟨dI (by simp),HG2.o.drewN _⟩
 ·rw[h] at hC HW;rw[hC];clear hC h hr fx h43;have hE:sg (lX 4 n) (lX 3 n')=-(if (0:Int)≠0 then 0 else if n=9223372036854775808 then 1 else -1):=by
   have e3:lX 3 n'=1:=rfl;by_cases hz:n=9223372036854775808
   ·have e4:lX 4 n=0:=by rw[hz];rfl
    rw[e3,e4,ai (by decide),ar hz];rfl
   have e4:lX 4 n=2:=by unfold lX;rw[ai (by decide),ai hz]
   rw[e3,e4,ai (by decide),ai hz];rfl
  rw[← hE];clear hE;go_enter func160,ntmps160;go_wp2_with fail;refine(HI.o _).mono ?_;rintro e w1 ⟨rfl,hg1⟩;have aN:=aa (aP.o.trans hg1);have aQ:=aa (bf.o.grow hg1);have bJ:=aa (jY.o.grow hg1);have hc1:=aQ.o.cell;have hd1:=bJ.o.cell;have ek:=aQ.o.lt;have bG:=bJ.o.lt;clear hg1;go_wp2_with fail;refine(HJ.o _).mono ?_;rintro e w2 ⟨rfl,hg2⟩;have HG2:=aa (aN.o.trans hg2);have aG:=aa (aQ.o.grow hg2);have bS:=aa (bJ.o.grow hg2);have hc2:=aG.o.cell;have hd2:=bS.o.cell;have hl2:=aG.o.lt;have hm2:=bS.o.lt;clear hg2;clear hc1 hd1 ek bG;go_wp2_with fail;go_quiet ((first | (go_at_call 193;exact Calls.quiet_of_same ((HW.o _).mono fun e w' h=>⟨h.1,h.2.symm⟩))));go_wp2_with fail
  go_region_held3 (fun w'=>(∀q,w'.cell? ⟨w.heap.size,q,none⟩=(Cv.mk 4 n a1 a2 a3 a4 a5 a6 a7 a8 a9).cells[q]?)∧(∀q,w'.cell? ⟨w.heap.size+1,q,none⟩=(Cv.mk 3 n' b1 b2 b3 b4 b5 b6 b7 b8 b9).cells[q]?)) (first | go_keep | exact⟨pI,zJ⟩ | exact⟨vM,hdy⟩)
   (first | ((with_reducible refine(HP.o _).mono ?_);rintro e wx ⟨rfl,hgx⟩;first | (have zK:=aa (eU.o.trans hgx);have uH:=aa (cG.o.grow hgx);have uI:=aa (mX.o.grow hgx);have vM:=uH.o.cell;have hdy:=uI.o.cell;clear hgx) | (have eU:=aa ((HG2.o.drewN _ |>.drew).trans hgx);have cG:=aa ((aG.o.drewN _ |>.drew).grow hgx);have mX:=aa ((bS.o.drewN _ |>.drew).grow hgx);have pI:=cG.o.cell;have zJ:=mX.o.cell;clear hgx)) | ((with_reducible refine(HQ.o _).mono ?_);rintro e wx ⟨rfl,hgx⟩;first | (have zK:=aa (eU.o.trans hgx);have uH:=aa (cG.o.grow hgx);have uI:=aa (mX.o.grow hgx);have vM:=uH.o.cell;have hdy:=uI.o.cell;clear hgx) | (have eU:=aa ((HG2.o.drewN _ |>.drew).trans hgx);have cG:=aa ((aG.o.drewN _ |>.drew).grow hgx);have mX:=aa ((bS.o.drewN _ |>.drew).grow hgx);have pI:=cG.o.cell;have zJ:=mX.o.cell;clear hgx)) | (go_at_call 159;refine(qh _ _ _).mono ?_;rintro e wx ⟨rfl,rfl⟩))
  all_goals
   go_wp2_with fail
   go_ret
   exact⟨rfl,zK.o⟩
 rw[h] at hC HW;rw[hC];clear hC h hr fx h43;go_enter func160,ntmps160;go_wp2_with fail;refine(HI.o _).mono ?_;rintro e w1 ⟨rfl,hg1⟩;have aN:=aa (aP.o.trans hg1);have aQ:=aa (bf.o.grow hg1);have bJ:=aa (jY.o.grow hg1);have hc1:=aQ.o.cell;have hd1:=bJ.o.cell;have ek:=aQ.o.lt;have bG:=bJ.o.lt;clear hg1;go_wp2_with fail;refine(HJ.o _).mono ?_;rintro e w2 ⟨rfl,hg2⟩;have HG2:=aa (aN.o.trans hg2);have aG:=aa (aQ.o.grow hg2);have bS:=aa (bJ.o.grow hg2);have hc2:=aG.o.cell;have hd2:=bS.o.cell;have hl2:=aG.o.lt;have hm2:=bS.o.lt;clear hg2;clear hc1 hd1 ek bG;go_wp2_with fail;go_quiet ((first | (go_at_call 193;exact Calls.quiet_of_same ((HW.o _).mono fun e w' h=>⟨h.1,h.2.symm⟩))));go_wp2_with fail;go_ret;exact⟨dI (by simp),HG2.o.drewN _⟩
theorem ajV(c c':Cv)(n n':Nat)(w:World)(hk:c.k=4)(hn:c.n=(n:Int))(hk':c'.k=4)(hn':c'.n=(n':Int))(h1:n<18446744073709551616)(h2:n'<18446744073709551616) :
 Calls prog 160 #[c.agg,c'.agg] w fun e w'=>e=.returned (.int .i64 (ir 4 n 4 n'))∧Grow w w':=by
 obtain⟨ck,cn,a1,a2,a3,a4,a5,a6,a7,a8,a9⟩:=c;obtain⟨dk,dn,b1,b2,b3,b4,b5,b6,b7,b8,b9⟩:=c';dsimp only at hk hn hk' hn';subst hk hn hk' hn';have hb:=wh
 have aP:=aa (((ah w).alloc (.cells (Cv.mk 4 n a1 a2 a3 a4 a5 a6 a7 a8 a9).cells 27)).alloc (.cells (Cv.mk 4 n' b1 b2 b3 b4 b5 b6 b7 b8 b9).cells 27));have bf:=aa ((aH w 27 (Cv.mk 4 n a1 a2 a3 a4 a5 a6 a7 a8 a9).cells).alloc (.cells (Cv.mk 4 n' b1 b2 b3 b4 b5 b6 b7 b8 b9).cells 27));have jY:=aa (df (w:=w.alloc (.cells (Cv.mk 4 n a1 a2 a3 a4 a5 a6 a7 a8 a9).cells 27)) (g:=w.heap.size+1) (by simp) 27 (Cv.mk 4 n' b1 b2 b3 b4 b5 b6 b7 b8 b9).cells);have HI:=aa (fun w2=>zH 4 n (Cv.mk 4 n a1 a2 a3 a4 a5 a6 a7 a8 a9) w2 (by decide) rfl rfl h1);have HJ:=aa (fun w2=>zH 4 n' (Cv.mk 4 n' b1 b2 b3 b4 b5 b6 b7 b8 b9) w2 (by decide) rfl rfl h2);have HP:=aa (fun w2=>zI 4 n (Cv.mk 4 n a1 a2 a3 a4 a5 a6 a7 a8 a9) w2 (by decide) rfl rfl h1)
 have HQ:=aa (fun w2=>zI 4 n' (Cv.mk 4 n' b1 b2 b3 b4 b5 b6 b7 b8 b9) w2 (by decide) rfl rfl h2);rw[show (decide ((4:Int)=4)&&dX n)=dX n from rfl] at HI;rw[show (decide ((4:Int)=4)&&dX n')=dX n' from rfl] at HJ;have h43:¬ (4:Int)=3:=by decide
 by_cases hx:dX n=true
 ·rw[hx] at HI;by_cases hy:dX n'=true
  ·rw[hy] at HJ;rw[show ir 4 n 4 n'=sg n n' by unfold ir;rw[ai h43,ar hx,ai h43,ar hy]];clear h43;rcases yo (n:Int) (n':Int) with h | h | h
   ·rw[uF h];go_enter func160,ntmps160;go_wp2_with fail;refine(HI.o _).mono ?_;rintro e w1 ⟨rfl,hg1⟩;have aN:=aa (aP.o.trans hg1);have aQ:=aa (bf.o.grow hg1);have bJ:=aa (jY.o.grow hg1);have hc1:=aQ.o.cell;have hd1:=bJ.o.cell;have ek:=aQ.o.lt;have bG:=bJ.o.lt;clear hg1;go_wp2_with fail;refine(HI.o _).mono ?_;rintro e w2 ⟨rfl,hg2⟩;have HG2:=aa (aN.o.trans hg2);have aG:=aa (aQ.o.grow hg2);have bS:=aa (bJ.o.grow hg2);have hc2:=aG.o.cell;have hd2:=bS.o.cell;have hl2:=aG.o.lt;have hm2:=bS.o.lt;clear hg2;clear hc1 hd1 ek bG;go_wp2_with fail;refine(HJ.o _).mono ?_;rintro e w3 ⟨rfl,hg3⟩;have aJ:=aa (HG2.o.trans hg3);have aX:=aa (aG.o.grow hg3);have jw:=aa (bS.o.grow hg3);have hc3:=aX.o.cell;have hd3:=jw.o.cell;have ny:=aX.o.lt
    have wz:=jw.o.lt;clear hg3;clear hc2 hd2 hl2 hm2;go_wp2_with fail;go_ret;exact⟨dI rfl,aJ.o⟩
   ·rw[pD h];have h0:¬ (n:Int)<(n':Int):=by omega
    have h00:¬ (n':Int)<(n:Int):=by omega
    clear h;go_enter func160,ntmps160;go_wp2_with fail;refine(HI.o _).mono ?_;rintro e w1 ⟨rfl,hg1⟩;have aN:=aa (aP.o.trans hg1);have aQ:=aa (bf.o.grow hg1);have bJ:=aa (jY.o.grow hg1);have hc1:=aQ.o.cell;have hd1:=bJ.o.cell;have ek:=aQ.o.lt;have bG:=bJ.o.lt;clear hg1;go_wp2_with fail;refine(HI.o _).mono ?_;rintro e w2 ⟨rfl,hg2⟩;have HG2:=aa (aN.o.trans hg2);have aG:=aa (aQ.o.grow hg2);have bS:=aa (bJ.o.grow hg2);have hc2:=aG.o.cell;have hd2:=bS.o.cell;have hl2:=aG.o.lt;have hm2:=bS.o.lt;clear hg2;clear hc1 hd1 ek bG;go_wp2_with fail;refine(HJ.o _).mono ?_;rintro e w3 ⟨rfl,hg3⟩;have aJ:=aa (HG2.o.trans hg3);have aX:=aa (aG.o.grow hg3);have jw:=aa (bS.o.grow hg3);have hc3:=aX.o.cell;have hd3:=jw.o.cell;have ny:=aX.o.lt
    have wz:=jw.o.lt;clear hg3;clear hc2 hd2 hl2 hm2;go_wp2_with fail;go_ret;exact⟨dI rfl,aJ.o⟩
   rw[wj h];have h0:¬ (n:Int)<(n':Int):=by omega
   go_enter func160,ntmps160;go_wp2_with fail;refine(HI.o _).mono ?_;rintro e w1 ⟨rfl,hg1⟩;have aN:=aa (aP.o.trans hg1);have aQ:=aa (bf.o.grow hg1);have bJ:=aa (jY.o.grow hg1);have hc1:=aQ.o.cell;have hd1:=bJ.o.cell;have ek:=aQ.o.lt;have bG:=bJ.o.lt;clear hg1;go_wp2_with fail;refine(HI.o _).mono ?_;rintro e w2 ⟨rfl,hg2⟩;have HG2:=aa (aN.o.trans hg2);have aG:=aa (aQ.o.grow hg2);have bS:=aa (bJ.o.grow hg2);have hc2:=aG.o.cell;have hd2:=bS.o.cell;have hl2:=aG.o.lt;have hm2:=bS.o.lt;clear hg2;clear hc1 hd1 ek bG;go_wp2_with fail;refine(HJ.o _).mono ?_;rintro e w3 ⟨rfl,hg3⟩;have aJ:=aa (HG2.o.trans hg3);have aX:=aa (aG.o.grow hg3);have jw:=aa (bS.o.grow hg3);have hc3:=aX.o.cell;have hd3:=jw.o.cell;have ny:=aX.o.lt;have wz:=jw.o.lt
   clear hg3;clear hc2 hd2 hl2 hm2;go_wp2_with fail;go_ret;exact⟨dI rfl,aJ.o⟩
  have hy:dX n'=false:=by simpa using hy
  rw[hy] at HJ;rw[show ir 4 n 4 n'=-1 by unfold ir;rw[ai h43,ar hx,ai h43,ai (by rw[hy];decide)]];go_enter func160,ntmps160;go_wp2_with fail;refine(HI.o _).mono ?_;rintro e w1 ⟨rfl,hg1⟩;have aN:=aa (aP.o.trans hg1);have aQ:=aa (bf.o.grow hg1);have bJ:=aa (jY.o.grow hg1);have hc1:=aQ.o.cell;have hd1:=bJ.o.cell;have ek:=aQ.o.lt;have bG:=bJ.o.lt;clear hg1;go_wp2_with fail;refine(HI.o _).mono ?_;rintro e w2 ⟨rfl,hg2⟩;have HG2:=aa (aN.o.trans hg2);have aG:=aa (aQ.o.grow hg2);have bS:=aa (bJ.o.grow hg2);have hc2:=aG.o.cell;have hd2:=bS.o.cell;have hl2:=aG.o.lt;have hm2:=bS.o.lt;clear hg2;clear hc1 hd1 ek bG;go_wp2_with fail;refine(HJ.o _).mono ?_;rintro e w3 ⟨rfl,hg3⟩;have aJ:=aa (HG2.o.trans hg3);have aX:=aa (aG.o.grow hg3)
  have jw:=aa (bS.o.grow hg3);have hc3:=aX.o.cell;have hd3:=jw.o.cell;have ny:=aX.o.lt;have wz:=jw.o.lt;clear hg3;clear hc2 hd2 hl2 hm2;go_wp2_with fail;refine(HI.o _).mono ?_;rintro e w4 ⟨rfl,hg4⟩;have bz:=aa (aJ.o.trans hg4);have au:=aa (aX.o.grow hg4);have uG:=aa (jw.o.grow hg4);have gf:=au.o.cell;have Ag:=uG.o.cell;have hl4:=au.o.lt;have S_:=uG.o.lt;clear hg4;clear hc3 hd3 ny wz;go_wp2_with fail;go_ret;exact⟨dI rfl,bz.o⟩
 have hx:dX n=false:=by simpa using hx
 rw[hx] at HI;by_cases hy:dX n'=true
 ·rw[hy] at HJ;rw[show ir 4 n 4 n'=1 by unfold ir;rw[ai h43,ai (by rw[hx];decide),ai h43,ar hy]];go_enter func160,ntmps160;go_wp2_with fail;refine(HI.o _).mono ?_;rintro e w1 ⟨rfl,hg1⟩;have aN:=aa (aP.o.trans hg1);have aQ:=aa (bf.o.grow hg1);have bJ:=aa (jY.o.grow hg1);have hc1:=aQ.o.cell;have hd1:=bJ.o.cell;have ek:=aQ.o.lt;have bG:=bJ.o.lt;clear hg1;go_wp2_with fail;refine(HJ.o _).mono ?_;rintro e w2 ⟨rfl,hg2⟩;have HG2:=aa (aN.o.trans hg2);have aG:=aa (aQ.o.grow hg2);have bS:=aa (bJ.o.grow hg2);have hc2:=aG.o.cell;have hd2:=bS.o.cell;have hl2:=aG.o.lt;have hm2:=bS.o.lt;clear hg2;clear hc1 hd1 ek bG;go_wp2_with fail;refine(HI.o _).mono ?_;rintro e w3 ⟨rfl,hg3⟩;have aJ:=aa (HG2.o.trans hg3);have aX:=aa (aG.o.grow hg3)
  have jw:=aa (bS.o.grow hg3);have hc3:=aX.o.cell;have hd3:=jw.o.cell;have ny:=aX.o.lt;have wz:=jw.o.lt;clear hg3;clear hc2 hd2 hl2 hm2;go_wp2_with fail;refine(HI.o _).mono ?_;rintro e w4 ⟨rfl,hg4⟩;have bz:=aa (aJ.o.trans hg4);have au:=aa (aX.o.grow hg4);have uG:=aa (jw.o.grow hg4);have gf:=au.o.cell;have Ag:=uG.o.cell;have hl4:=au.o.lt;have S_:=uG.o.lt;clear hg4;clear hc3 hd3 ny wz;go_wp2_with fail;go_ret;exact⟨dI rfl,bz.o⟩
 have hy:dX n'=false:=by simpa using hy
 rw[hy] at HJ;have hC:ir 4 n 4 n'=if sv n<sv n' then -1 else if sv n'<sv n then 1 else sg (lX 4 n) (lX 4 n'):=by
  unfold ir;rw[ai h43,ai (by rw[hx];decide),ai h43,ai (by rw[hy];decide)];by_cases q1:sv n<sv n'
  ·rw[ar q1,ar q1]
  rw[ai q1,ai q1];by_cases q2:sv n'<sv n
  ·rw[ar q2,ar q2]
  rw[ai q2,ai q2,ajR n n' h1 h2 (by omega)]
 have fx:=Num.of h1 hx;have fy:=Num.of h2 hy;rw[hC];clear hC h43;rcases yo (sv n) (sv n') with h | h | h
 ·have ho:=fx.lt fy h;rw[ar h];clear h fx fy;go_enter func160,ntmps160;go_wp2_with fail;refine(HI.o _).mono ?_;rintro e w1 ⟨rfl,hg1⟩;have aN:=aa (aP.o.trans hg1);have aQ:=aa (bf.o.grow hg1);have bJ:=aa (jY.o.grow hg1);have hc1:=aQ.o.cell;have hd1:=bJ.o.cell;have ek:=aQ.o.lt;have bG:=bJ.o.lt;clear hg1;go_wp2_with fail;refine(HJ.o _).mono ?_;rintro e w2 ⟨rfl,hg2⟩;have HG2:=aa (aN.o.trans hg2);have aG:=aa (aQ.o.grow hg2);have bS:=aa (bJ.o.grow hg2);have hc2:=aG.o.cell;have hd2:=bS.o.cell;have hl2:=aG.o.lt;have hm2:=bS.o.lt;clear hg2;clear hc1 hd1 ek bG;go_wp2_with fail;go_ret;exact⟨dI rfl,HG2.o⟩
 ·have ho:=fx.eq fy h;rw[ai (by omega),ai (by omega)];clear h fx fy;go_enter func160,ntmps160;go_wp2_with fail;refine(HI.o _).mono ?_;rintro e w1 ⟨rfl,hg1⟩;have aN:=aa (aP.o.trans hg1);have aQ:=aa (bf.o.grow hg1);have bJ:=aa (jY.o.grow hg1);have hc1:=aQ.o.cell;have hd1:=bJ.o.cell;have ek:=aQ.o.lt;have bG:=bJ.o.lt;clear hg1;go_wp2_with fail;refine(HJ.o _).mono ?_;rintro e w2 ⟨rfl,hg2⟩;have HG2:=aa (aN.o.trans hg2);have aG:=aa (aQ.o.grow hg2);have bS:=aa (bJ.o.grow hg2);have hc2:=aG.o.cell;have hd2:=bS.o.cell;have hl2:=aG.o.lt;have hm2:=bS.o.lt;clear hg2;clear hc1 hd1 ek bG;go_wp2_with fail
  go_region_held3 (fun w'=>(∀q,w'.cell? ⟨w.heap.size,q,none⟩=(Cv.mk 4 n a1 a2 a3 a4 a5 a6 a7 a8 a9).cells[q]?)∧(∀q,w'.cell? ⟨w.heap.size+1,q,none⟩=(Cv.mk 4 n' b1 b2 b3 b4 b5 b6 b7 b8 b9).cells[q]?)) (first | go_keep | exact⟨pI,zJ⟩ | exact⟨vM,hdy⟩)
   (first | ((with_reducible refine(HP.o _).mono ?_);rintro e wx ⟨rfl,hgx⟩;first | (have zK:=aa (eU.o.trans hgx);have uH:=aa (cG.o.grow hgx);have uI:=aa (mX.o.grow hgx);have vM:=uH.o.cell;have hdy:=uI.o.cell;clear hgx) | (have eU:=aa ((HG2.o.drew).trans hgx);have cG:=aa ((aG.o.drew).grow hgx);have mX:=aa ((bS.o.drew).grow hgx);have pI:=cG.o.cell;have zJ:=mX.o.cell;clear hgx)) | ((with_reducible refine(HQ.o _).mono ?_);rintro e wx ⟨rfl,hgx⟩;first | (have zK:=aa (eU.o.trans hgx);have uH:=aa (cG.o.grow hgx);have uI:=aa (mX.o.grow hgx);have vM:=uH.o.cell;have hdy:=uI.o.cell;clear hgx) | (have eU:=aa ((HG2.o.drew).trans hgx);have cG:=aa ((aG.o.drew).grow hgx);have mX:=aa ((bS.o.drew).grow hgx);have pI:=cG.o.cell;have zJ:=mX.o.cell;clear hgx)) | (go_at_call 159;refine(qh _ _ _).mono ?_;rintro e wx ⟨rfl,rfl⟩))
  all_goals
   go_wp2_with fail
   go_ret
   exact⟨rfl,zK.o⟩
 have ho:=fx.gt fy h;rw[ai (by omega),ar h];clear h fx fy;go_enter func160,ntmps160;go_wp2_with fail;refine(HI.o _).mono ?_;rintro e w1 ⟨rfl,hg1⟩;have aN:=aa (aP.o.trans hg1);have aQ:=aa (bf.o.grow hg1);have bJ:=aa (jY.o.grow hg1);have hc1:=aQ.o.cell;have hd1:=bJ.o.cell;have ek:=aQ.o.lt;have bG:=bJ.o.lt;clear hg1;go_wp2_with fail;refine(HJ.o _).mono ?_;rintro e w2 ⟨rfl,hg2⟩;have HG2:=aa (aN.o.trans hg2);have aG:=aa (aQ.o.grow hg2);have bS:=aa (bJ.o.grow hg2);have hc2:=aG.o.cell;have hd2:=bS.o.cell;have hl2:=aG.o.lt;have hm2:=bS.o.lt;clear hg2;clear hc1 hd1 ek bG;go_wp2_with fail;go_ret;exact⟨dI rfl,HG2.o⟩
theorem abP(k k':Int)(n n':Nat)(c c':Cv)(w:World)(hk:k=3∨k=4)(hk':k'=3∨k'=4)(h:In w (.mk k n [] [] []) c)(h':In w (.mk k' n' [] [] []) c') :
 Calls prog 160 #[c.agg,c'.agg] w fun e w'=>e=.returned (.int .i64 (ir k n k' n'))∧Grow w w':=by
 obtain⟨aB,aL,aF,cB,cL,cF,rfl,-,-,h3,-⟩:=h.open;obtain⟨bB,bL,bF,dB,dL,dF,rfl,-,-,k3,-⟩:=h'.open;rcases hk with rfl | rfl<;>rcases hk' with rfl | rfl
 ·exact ajS _ _ n n' w rfl rfl rfl rfl h3 k3
 ·exact ajT _ _ n n' w rfl rfl rfl rfl h3 k3
 ·exact ajU _ _ n n' w rfl rfl rfl rfl h3 k3
 exact ajV _ _ n n' w rfl rfl rfl rfl h3 k3
end
end Go.Proofs.YtndjopkdbdcmdaaGreatDoor
