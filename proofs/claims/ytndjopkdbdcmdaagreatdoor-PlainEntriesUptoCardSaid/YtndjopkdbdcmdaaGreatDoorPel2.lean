/- Part 2 of the proof of pentries_card. -/
import Derived.Test.YtndjopkdbdcmdaaGreatDoorPel1
import Derived.Lib.ValidLaws
import Derived.Lib.TrimUEq
import Derived.Shelf.Strings.FuncGrows
import Derived.Maps.OwnSet
import Derived.Laws.FloatArith
import Derived.KernelRfl
import Derived.Laws.IdiomCopy
import Derived.Lib.AppendZerosOnto
import Derived.Lib.Overlaps
import Derived.Laws.Rows
import Derived.Deep.RegionHeld
import Derived.Deep.MidRow
import Derived.Great.BuildSlice
import Derived.Shelf.RegionOpenPlain
import Derived.Shelf.Spec.SlicesInsert
import Derived.Laws.Externs
import Derived.Lib.SliceRun
set_option linter.unusedVariables false
set_option linter.unusedSimpArgs false
set_option maxRecDepth 100000
set_option maxHeartbeats 12800000
open Go.Proofs.Tryz
namespace Go.Proofs.YtndjopkdbdcmdaaGreatDoor
section
open Go.RowKit
def uv:List UInt8→Nat→Int
 | [],n=>n
 | c::r,n=>if c.toNat<48∨57<c.toNat then -1 else uv r (10*n+(c.toNat-48))
def nN(s:List UInt8):Int:=if s=[]∨4<s.length∨(1<s.length∧s.head?=some 48) then -1 else uv s 0
theorem Y9(s:List UInt8)(j:Nat)(h:j<s.length)(n:Nat):uv (s.drop j) n=if s[j].toNat<48∨57<s[j].toNat then -1 else uv (s.drop (j+1)) (10*n+(s[j].toNat-48)):=by
 rw[yg h,uv]
theorem GC(s:ByteArray)(j:Nat)(h:j<s.size):s[j]=s.data.toList[j]'(by simpa using h):=by
 show s.data[j]=_;simp
theorem toList_data(s:ByteArray):s.toList=s.data.toList:=by
 exact ByteArray.toList_eq s
theorem ag6(s:ByteArray)(w:World):Calls prog 91 #[.string s] w fun e w'=>e=.returned (.int .i64 (nN s.data.toList))∧w=w':=by
 obtain⟨z,hz⟩:∃z,nN s.data.toList=z:=⟨_,rfl⟩;rw[hz];have hlen:s.data.toList.length=s.size:=by simp
 by_cases h0:s.size=0
 ·have he:s.data.toList=[]:=zQ.1 (by omega);have hz':z=-1:=by rw[← hz,he];rfl
  have om:s=⟨#[]⟩:=by apply Ca;apply yh;exact he
  subst om;subst hz';clear h0 hz he hlen;go_enter func91,ntmps91;go_wp2_with fail;go_ret;exact⟨rfl,rfl⟩
 have hne:s.data.toList≠[]:=fun h=>h0 (by rw[← hlen,h];rfl)
 have ek:¬ s.toList=[]:=by
  intro h;have:=toList_data s;rw[h] at this;exact hne this.symm
 have hl2:s.toList.isEmpty=false:=by simpa using ek
 have hpos:0<s.size:=by omega
 by_cases h4:4<s.size
 ·have hz':z=-1:=by rw[← hz];unfold nN;rw[ar (.inr (.inl (by omega)))]
  subst hz';clear h0 hz hne hlen;go_enter func91,ntmps91;go_wp2_with fail;go_ret;exact⟨rfl,rfl⟩
 obtain⟨x,hx⟩:∃x,s[0]'hpos=x:=⟨_,rfl⟩;have hx0:s.data.toList.head?=some x:=by
  rw[← hx,GC s 0 hpos,List.head?_eq_getElem?,bN]
 have hxl:=x.toNat_lt;by_cases h1:1<s.size∧x.toNat=48
 ·have hz':z=-1:=by
   rw[← hz];unfold nN;rw[ar (.inr (.inr ⟨by omega,by rw[hx0];congr 1;apply sI.1;exact h1.2⟩))]
  subst hz';obtain⟨h1,h2⟩:=h1;have H9:((x.toNat:Int)==48)=true:=by simp;omega
  clear h0 hz hne hlen hx0 h2;go_enter func91,ntmps91;go_wp2_with fail;go_ret;exact⟨rfl,rfl⟩
 have hz':uv s.data.toList 0=z:=by
  rw[← hz];unfold nN;rw[ai];rintro(h | h | ⟨h,h'⟩)
  ·exact hne h
  ·omega
  exact h1 ⟨by omega,by rw[hx0] at h';injection h' with h';rw[h'];rfl⟩
 have HZ:=aa hz';have hs1:¬ 1<s.size∨(1<s.size∧((x.toNat:Int)==48)=false):=by
  rcases dH 1 s.size with h | h
  ·right;exact⟨h,by simp;omega⟩
  left;omega
 clear hz hz' hne hlen hx0 h1 h0;have hs4:s.size≤4:=by omega
 have hsj:∀(n:Nat) (j:Nat),j<s.size→n<10 ^ j→n≤999:=fun n j h1 h2=>by
  have:10 ^ j≤10 ^ 3:=lg (by omega) (by omega);omega
 have Q4:=aa hsj;clear hsj;rcases hs1 with hs1 | ⟨hs1,hs2⟩
 all_goals
  go_enter func91,ntmps91
  go_wp2_with fail
  go_loopg [3,24] (s.size+1) (fun gk a i wr=>w=wr∧∃(j n:Nat),j≤s.size∧gk+j=s.size+1∧i=.int .i64 j∧a=.int .i64 (n:Int)∧n<10 ^ j∧uv (s.data.toList.drop j) n=z)
  exact⟨rfl,0,0,by omega,by omega,rfl,rfl,by simp,HZ.o⟩
  obtain⟨rfl,j,n,hj,iB,rfl,rfl,hn,hf⟩:=hrel
  have HF:=aa hf
  have HN:=aa hn
  clear hf
  by_cases hlt:j<s.size
  ·obtain⟨gk',rfl⟩:=bP gk (by omega)
   have hn9:=Q4.o n j hlt hn
   clear hn
   have hstep:=Y9 s.data.toList j (by simpa using hlt) n
   rw[HF.o,← GC s j hlt] at hstep
   obtain⟨y,hy⟩:∃y,s[j]=y:=⟨_,rfl⟩
   rw[hy] at hstep
   have HST:=aa hstep
   have Ay:=y.toNat_lt
   clear hstep
   by_cases c1:y.toNat<48
   ·have HE:=aa (show z=-1 by rw[HST.o,ar (.inl c1)])
    go_wp2_with fail
    go_ret
    exact⟨dI HE.o.symm,rfl⟩
   by_cases c2:57<y.toNat
   ·have HE:=aa (show z=-1 by rw[HST.o,ar (.inr c2)])
    go_wp2_with fail
    go_ret
    exact⟨dI HE.o.symm,rfl⟩
   have HE:=aa (show z=uv (s.data.toList.drop (j+1)) (10*n+(y.toNat-48)) by rw[HST.o,ai (by omega)])
   go_wp2_with fail
   go_roundg gk'
   exact⟨rfl,j+1,10*n+(y.toNat-48),by omega,by omega,by go_num,by go_num,by have:=HN.o;rw[uO];omega,HE.o.symm⟩
   omega
  obtain rfl:j=s.size:=by omega
  have HE:=aa (show z=(n:Int) by rw[← HF.o,List.drop_of_length_le (by simp)];rfl)
  clear hn
  go_wp2_with fail
  go_ret
  exact⟨dI HE.o.symm,rfl⟩
theorem aeO(s:ByteArray)(w:World):Calls prog 104 #[.string s] w fun e w'=>e=.returned (.int .i64 (nN s.data.toList))∧w=w':=by
 obtain⟨z,hz⟩:∃z,nN s.data.toList=z:=⟨_,rfl⟩;rw[hz];have hlen:s.data.toList.length=s.size:=by simp
 by_cases h0:s.size=0
 ·have he:s.data.toList=[]:=zQ.1 (by omega);have hz':z=-1:=by rw[← hz,he];rfl
  have om:s=⟨#[]⟩:=by apply Ca;apply yh;exact he
  subst om;subst hz';clear h0 hz he hlen;go_enter func104,ntmps104;go_wp2_with fail;go_ret;exact⟨rfl,rfl⟩
 have hne:s.data.toList≠[]:=fun h=>h0 (by rw[← hlen,h];rfl)
 have ek:¬ s.toList=[]:=by
  intro h;have:=toList_data s;rw[h] at this;exact hne this.symm
 have hl2:s.toList.isEmpty=false:=by simpa using ek
 have hpos:0<s.size:=by omega
 by_cases h4:4<s.size
 ·have hz':z=-1:=by rw[← hz];unfold nN;rw[ar (.inr (.inl (by omega)))]
  subst hz';clear h0 hz hne hlen;go_enter func104,ntmps104;go_wp2_with fail;go_ret;exact⟨rfl,rfl⟩
 obtain⟨x,hx⟩:∃x,s[0]'hpos=x:=⟨_,rfl⟩;have hx0:s.data.toList.head?=some x:=by
  rw[← hx,GC s 0 hpos,List.head?_eq_getElem?,bN]
 have hxl:=x.toNat_lt;by_cases h1:1<s.size∧x.toNat=48
 ·have hz':z=-1:=by
   rw[← hz];unfold nN;rw[ar (.inr (.inr ⟨by omega,by rw[hx0];congr 1;apply sI.1;exact h1.2⟩))]
  subst hz';obtain⟨h1,h2⟩:=h1;have H9:((x.toNat:Int)==48)=true:=by simp;omega
  clear h0 hz hne hlen hx0 h2;go_enter func104,ntmps104;go_wp2_with fail;go_ret;exact⟨rfl,rfl⟩
 have hz':uv s.data.toList 0=z:=by
  rw[← hz];unfold nN;rw[ai];rintro(h | h | ⟨h,h'⟩)
  ·exact hne h
  ·omega
  exact h1 ⟨by omega,by rw[hx0] at h';injection h' with h';rw[h'];rfl⟩
 have HZ:=aa hz';have hs1:¬ 1<s.size∨(1<s.size∧((x.toNat:Int)==48)=false):=by
  rcases dH 1 s.size with h | h
  ·right;exact⟨h,by simp;omega⟩
  left;omega
 clear hz hz' hne hlen hx0 h1 h0;have hs4:s.size≤4:=by omega
 have hsj:∀(n:Nat) (j:Nat),j<s.size→n<10 ^ j→n≤999:=fun n j h1 h2=>by
  have:10 ^ j≤10 ^ 3:=lg (by omega) (by omega);omega
 have Q4:=aa hsj;clear hsj;rcases hs1 with hs1 | ⟨hs1,hs2⟩
 all_goals
  go_enter func104,ntmps104
  go_wp2_with fail
  go_loopg [3,4] (s.size+1) (fun gk a i wr=>w=wr∧∃(j n:Nat),j≤s.size∧gk+j=s.size+1∧i=.int .i64 j∧a=.int .i64 (n:Int)∧n<10 ^ j∧uv (s.data.toList.drop j) n=z)
  exact⟨rfl,0,0,by omega,by omega,rfl,rfl,by simp,HZ.o⟩
  obtain⟨rfl,j,n,hj,iB,rfl,rfl,hn,hf⟩:=hrel
  have HF:=aa hf
  have HN:=aa hn
  clear hf
  by_cases hlt:j<s.size
  ·obtain⟨gk',rfl⟩:=bP gk (by omega)
   have hn9:=Q4.o n j hlt hn
   clear hn
   have hstep:=Y9 s.data.toList j (by simpa using hlt) n
   rw[HF.o,← GC s j hlt] at hstep
   obtain⟨y,hy⟩:∃y,s[j]=y:=⟨_,rfl⟩
   rw[hy] at hstep
   have HST:=aa hstep
   have Ay:=y.toNat_lt
   clear hstep
   by_cases c1:y.toNat<48
   ·have HE:=aa (show z=-1 by rw[HST.o,ar (.inl c1)])
    go_wp2_with fail
    go_ret
    exact⟨dI HE.o.symm,rfl⟩
   by_cases c2:57<y.toNat
   ·have HE:=aa (show z=-1 by rw[HST.o,ar (.inr c2)])
    go_wp2_with fail
    go_ret
    exact⟨dI HE.o.symm,rfl⟩
   have HE:=aa (show z=uv (s.data.toList.drop (j+1)) (10*n+(y.toNat-48)) by rw[HST.o,ai (by omega)])
   go_wp2_with fail
   go_roundg gk'
   exact⟨rfl,j+1,10*n+(y.toNat-48),by omega,by omega,by go_num,by go_num,by have:=HN.o;rw[uO];omega,HE.o.symm⟩
   omega
  obtain rfl:j=s.size:=by omega
  have HE:=aa (show z=(n:Int) by rw[← HF.o,List.drop_of_length_le (by simp)];rfl)
  clear hn
  go_wp2_with fail
  go_ret
  exact⟨dI HE.o.symm,rfl⟩
end
section
open Go.Lib
theorem ag7(l:List UInt8)(hne:l≠[])(h:(l.getD 0 0).toNat<128):validD l=validD (l.drop 1):=by
 match l,hne with
 | b::t,_=>exact validD_cons b t (by simpa using h)
theorem ag8(l:List UInt8)(hne:l≠[])(h:128≤(l.getD 0 0).toNat)(h':(l.getD 0 0).toNat<192∨248≤(l.getD 0 0).toNat):validD l=false:=by
 have hl:0<l.length:=eF.2 hne;have h0:=(l.getD 0 0).toNat_lt;rw[validD_step l hne,decodeL_N,ar];unfold decodeN;rw[ai (by omega),ai (by omega),ai (by omega),ai (by omega)];exact⟨rfl,rfl⟩
theorem ag9(n b0 b1 b2 b3:Nat)(Q5:0<n)(h0:192≤b0∧b0<224)(h1:b1<256)(_h2:b2<256)(Y_:b3<256) :
 (decodeN n b0 b1 b2 b3=(65533,1)∧¬ (2≤n∧128≤b1∧b1<192∧128+128≤(b0-192)*64+b1))∨(∃r,decodeN n b0 b1 b2 b3=(r,2)∧(2≤n∧128≤b1∧b1<192∧128+128≤(b0-192)*64+b1)):=by
 unfold decodeN;rw[ai (by omega)];by_cases c:b0 / 32=6∧(1<n∧b1 / 64=2)
 ·rw[ar c];by_cases d:b0 % 32*64+b1 % 64≥128
  ·rw[ar d];exact .inr ⟨_,rfl,by omega⟩
  rw[ai d];exact .inl ⟨rfl,by omega⟩
 rw[ai c,ai (by omega),ai (by omega)];exact .inl ⟨rfl,by omega⟩
theorem ag_(l:List UInt8)(hne:l≠[])(h1:192≤(l.getD 0 0).toNat)(h2:(l.getD 0 0).toNat<224) :
 validD l=if 2≤l.length∧128≤(l.getD 1 0).toNat∧(l.getD 1 0).toNat<192∧128+128≤((l.getD 0 0).toNat-192)*64+(l.getD 1 0).toNat then validD (l.drop 2) else false:=by
 have hl:0<l.length:=eF.2 hne;rw[validD_step l hne,decodeL_N];rcases ag9 l.length _ _ _ _ hl ⟨h1,h2⟩ (l.getD 1 0).toNat_lt (l.getD 2 0).toNat_lt (l.getD 3 0).toNat_lt with ⟨e,hc⟩ | ⟨r,e,hc⟩
 ·rw[e,ar ⟨rfl,rfl⟩,ai hc]
 rw[e,ai (by simp),ar hc]
theorem aha(n b0 b1 b2 b3:Nat)(Q5:0<n)(h0:224≤b0∧b0<240)(h1:b1<256)(_h2:b2<256)(Y_:b3<256) :
 (decodeN n b0 b1 b2 b3=(65533,1)∧¬ (3≤n∧(128≤b1∧b1<192)∧(128≤b2∧b2<192)∧2048+8320≤((b0-224)*64+b1)*64+b2∧¬ (55296+8320≤((b0-224)*64+b1)*64+b2∧((b0-224)*64+b1)*64+b2≤57343+8320)))∨(∃r,decodeN n b0 b1 b2 b3=(r,3)∧(3≤n∧(128≤b1∧b1<192)∧(128≤b2∧b2<192)∧2048+8320≤((b0-224)*64+b1)*64+b2∧¬ (55296+8320≤((b0-224)*64+b1)*64+b2∧((b0-224)*64+b1)*64+b2≤57343+8320))):=by
 unfold decodeN;rw[ai (by omega)];rw[ai (by omega)];by_cases c:b0 / 16=14∧(1<n∧b1 / 64=2)∧(2<n∧b2 / 64=2)
 ·rw[ar c];by_cases d:b0 % 16*4096+b1 % 64*64+b2 % 64≥2048∧(b0 % 16*4096+b1 % 64*64+b2 % 64<55296∨(57344≤b0 % 16*4096+b1 % 64*64+b2 % 64∧b0 % 16*4096+b1 % 64*64+b2 % 64≤1114111))
  ·rw[ar d];exact .inr ⟨_,rfl,by omega⟩
  rw[ai d];exact .inl ⟨rfl,by omega⟩
 rw[ai c,ai (by omega)];exact .inl ⟨rfl,by omega⟩
theorem ahb(l:List UInt8)(hne:l≠[])(h1:224≤(l.getD 0 0).toNat)(h2:(l.getD 0 0).toNat<240) :
 validD l=if 3≤l.length∧(128≤(l.getD 1 0).toNat∧(l.getD 1 0).toNat<192)∧(128≤(l.getD 2 0).toNat∧(l.getD 2 0).toNat<192)∧2048+8320≤(((l.getD 0 0).toNat-224)*64+(l.getD 1 0).toNat)*64+(l.getD 2 0).toNat∧¬ (55296+8320≤(((l.getD 0 0).toNat-224)*64+(l.getD 1 0).toNat)*64+(l.getD 2 0).toNat∧(((l.getD 0 0).toNat-224)*64+(l.getD 1 0).toNat)*64+(l.getD 2 0).toNat≤57343+8320) then validD (l.drop 3) else false:=by
 have hl:0<l.length:=eF.2 hne;rw[validD_step l hne,decodeL_N];rcases aha l.length _ _ _ _ hl ⟨h1,h2⟩ (l.getD 1 0).toNat_lt (l.getD 2 0).toNat_lt (l.getD 3 0).toNat_lt with ⟨e,hc⟩ | ⟨r,e,hc⟩
 ·rw[e,ar ⟨rfl,rfl⟩,ai hc]
 rw[e,ai (by simp),ar hc]
theorem ahc(n b0 b1 b2 b3:Nat)(Q5:0<n)(h0:240≤b0∧b0<248)(h1:b1<256)(_h2:b2<256)(Y_:b3<256) :
 (decodeN n b0 b1 b2 b3=(65533,1)∧¬ (4≤n∧(128≤b1∧b1<192)∧(128≤b2∧b2<192)∧(128≤b3∧b3<192)∧65536+532608≤(((b0-240)*64+b1)*64+b2)*64+b3∧(((b0-240)*64+b1)*64+b2)*64+b3≤1114111+532608))∨(∃r,decodeN n b0 b1 b2 b3=(r,4)∧(4≤n∧(128≤b1∧b1<192)∧(128≤b2∧b2<192)∧(128≤b3∧b3<192)∧65536+532608≤(((b0-240)*64+b1)*64+b2)*64+b3∧(((b0-240)*64+b1)*64+b2)*64+b3≤1114111+532608)):=by
 unfold decodeN;rw[ai (by omega)];rw[ai (by omega),ai (by omega)];by_cases c:b0 / 8=30∧(1<n∧b1 / 64=2)∧(2<n∧b2 / 64=2)∧(3<n∧b3 / 64=2)
 ·rw[ar c];by_cases d:b0 % 8*262144+b1 % 64*4096+b2 % 64*64+b3 % 64≥65536∧(b0 % 8*262144+b1 % 64*4096+b2 % 64*64+b3 % 64<55296∨(57344≤b0 % 8*262144+b1 % 64*4096+b2 % 64*64+b3 % 64∧b0 % 8*262144+b1 % 64*4096+b2 % 64*64+b3 % 64≤1114111))
  ·rw[ar d];exact .inr ⟨_,rfl,by omega⟩
  rw[ai d];exact .inl ⟨rfl,by omega⟩
 rw[ai c];exact .inl ⟨rfl,by omega⟩
theorem ahd(l:List UInt8)(hne:l≠[])(h1:240≤(l.getD 0 0).toNat)(h2:(l.getD 0 0).toNat<248) :
 validD l=if 4≤l.length∧(128≤(l.getD 1 0).toNat∧(l.getD 1 0).toNat<192)∧(128≤(l.getD 2 0).toNat∧(l.getD 2 0).toNat<192)∧(128≤(l.getD 3 0).toNat∧(l.getD 3 0).toNat<192)∧65536+532608≤((((l.getD 0 0).toNat-240)*64+(l.getD 1 0).toNat)*64+(l.getD 2 0).toNat)*64+(l.getD 3 0).toNat∧((((l.getD 0 0).toNat-240)*64+(l.getD 1 0).toNat)*64+(l.getD 2 0).toNat)*64+(l.getD 3 0).toNat≤1114111+532608 then validD (l.drop 4) else false:=by
 have hl:0<l.length:=eF.2 hne;rw[validD_step l hne,decodeL_N];rcases ahc l.length _ _ _ _ hl ⟨h1,h2⟩ (l.getD 1 0).toNat_lt (l.getD 2 0).toNat_lt (l.getD 3 0).toNat_lt with ⟨e,hc⟩ | ⟨r,e,hc⟩
 ·rw[e,ar ⟨rfl,rfl⟩,ai hc]
 rw[e,ai (by simp),ar hc]
end
section
open Go.Lib
def mz(c:UInt8):Bool:=decide (32≤c.toNat∧c.toNat≠46)
def sy(x:Nat):Bool:=decide (x<32∨x=46)
theorem ahe(n b0 b1 b2 b3:Nat)(Q5:0<n)(_h0:b0<256)(h1:b1<256)(h2:b2<256)(h3:b3<256) :
 (b0<128∧decodeN n b0 b1 b2 b3=(b0,1))∨decodeN n b0 b1 b2 b3=(65533,1) ∨
 (∃r,decodeN n b0 b1 b2 b3=(r,2)∧128≤r∧2≤n∧128≤b0∧128≤b1) ∨
 (∃r,decodeN n b0 b1 b2 b3=(r,3)∧128≤r∧3≤n∧128≤b0∧128≤b1∧128≤b2) ∨
 (∃r,decodeN n b0 b1 b2 b3=(r,4)∧128≤r∧4≤n∧128≤b0∧128≤b1∧128≤b2∧128≤b3):=by
 unfold decodeN;split
 ·rename_i h;exact .inl ⟨h,rfl⟩
 split
 ·split
  ·rename_i h _ hr;exact .inr (.inr (.inl ⟨_,rfl,by omega⟩))
  exact .inr (.inl rfl)
 split
 ·split
  ·rename_i h _ hr;exact .inr (.inr (.inr (.inl ⟨_,rfl,by omega⟩)))
  exact .inr (.inl rfl)
 split
 ·split
  ·rename_i h _ hr;exact .inr (.inr (.inr (.inr ⟨_,rfl,by omega⟩)))
  exact .inr (.inl rfl)
 exact .inr (.inl rfl)
theorem ahf(c:UInt8)(h:128≤c.toNat):mz c=true:=bT (by omega)
theorem ahg(l:List UInt8)(k:Nat)(hk:k≤l.length)(h:∀i,i<k→128≤(l.getD i 0).toNat):(l.take k).all mz=true:=by
 rw[nU];intro x hx;obtain⟨i,hi,rfl⟩:=sJ.1 hx;have hik:i<k:=by rw[eD] at hi;omega
 have:=h i hik;rw[jN,bN (by omega)] at this;rw[Cb];exact ahf _ this
theorem ahh(s:ByteArray):∀(f pos:Nat),validD (s.data.toList.drop pos)=true→s.size≤pos+f →
 decide (0≤idxFuncFrom sy true s f pos)=!((s.data.toList.drop pos).all mz):=by
 intro f
 induction f with
 | zero =>
  intro pos _ hp;have:s.data.toList.drop pos=[]:=Jl (by have:s.data.toList.length=s.size:=rfl;omega);rw[this];rfl
 | succ f ih =>
  intro pos hv hp;by_cases hlt:pos<s.size
  ·have hsz:s.data.toList.length=s.size:=rfl;obtain⟨l,hl⟩:∃l,s.data.toList.drop pos=l:=⟨_,rfl⟩;have hll:l.length=s.size-pos:=by rw[← hl,iI,hsz]
   have hne:l≠[]:=fun h=>by rw[h] at hll;simp at hll;omega
   have hd:Utf8.decode s pos=decodeL l:=by rw[← hl,decodeL_drop]
   have hdrop:∀k,s.data.toList.drop (pos+k)=l.drop k:=fun k=>by rw[← hl,Jm]
   have ahi:∀k,l.all mz=((l.take k).all mz&&(l.drop k).all mz):=fun k=>by rw[← EE,pU]
   have hstep:=validD_step l hne;rw[hl] at hv;rw[hv] at hstep;unfold idxFuncFrom;rw[ar hlt,hd,hl];rw[decodeL_N] at hstep ⊢;have big:∀(r k:Nat),0<k→decodeN l.length (l.getD 0 0).toNat (l.getD 1 0).toNat (l.getD 2 0).toNat (l.getD 3 0).toNat=(r,k)→128≤r→k≤l.length→(∀i,i<k→128≤(l.getD i 0).toNat)→(k=1→False) →
    decide (0≤if sy (r,k).1=true then (pos:Int) else idxFuncFrom sy true s f (pos+(r,k).2))=!(l.all mz):=by
    intro r k vv he hr hk hb hk1;rw[he,ai (fun h=>hk1 h.2)] at hstep;rw[ai (by simp[sy];omega),ahi k,ahg l k hk hb,sK,← hdrop];exact ih (pos+k) (by rw[hdrop];exact hstep.symm) (by omega)
   rcases ahe l.length _ _ _ _ (by omega) (l.getD 0 0).toNat_lt (l.getD 1 0).toNat_lt (l.getD 2 0).toNat_lt (l.getD 3 0).toNat_lt with ⟨h0,e⟩ | e | ⟨r,e,hr,hn,h⟩ | ⟨r,e,hr,hn,h⟩ | ⟨r,e,hr,hn,h⟩
   ·rw[e,ai (fun h=>by have h1:(l.getD 0 0).toNat=65533:=h.1;omega)] at hstep;rw[e]
    match l,hne with
    | c::t,_ =>
     simp only[List.getD_cons_zero] at h0 ⊢;by_cases hc:c.toNat<32∨c.toNat=46
     ·rw[ar (by simp[sy];omega)];have:mz c=false:=bY (by omega);rw[List.all_cons,this];simp
     rw[ai (by simp[sy];omega)];have:mz c=true:=bT (by omega);rw[List.all_cons,this,sK];have hd1:=hdrop 1;have:=ih (pos+1) (by rw[hd1];exact hstep.symm) (by omega);rw[hd1] at this;exact this
   ·rw[e] at hstep;simp at hstep
   ·rw[e];exact big r 2 (by omega) e hr hn (fun i hi=>by match i,hi with | 0,_=>exact h.1 | 1,_=>exact h.2) (by omega)
   ·rw[e];exact big r 3 (by omega) e hr hn (fun i hi=>by match i,hi with | 0,_=>exact h.1 | 1,_=>exact h.2.1 | 2,_=>exact h.2.2) (by omega)
   rw[e];exact big r 4 (by omega) e hr hn (fun i hi=>by match i,hi with | 0,_=>exact h.1 | 1,_=>exact h.2.1 | 2,_=>exact h.2.2.1 | 3,_=>exact h.2.2.2) (by omega)
  rw[idxFuncFrom_end _ _ _ _ _ hlt];have:s.data.toList.drop pos=[]:=Jl (by have:s.data.toList.length=s.size:=rfl;omega);rw[this];rfl
theorem ahj(s:ByteArray)(hv:validD s.data.toList=true):(!decide (0≤idxFunc sy true s))=s.data.toList.all mz:=by
 have:=ahh s s.size 0 hv (by omega);rw[List.drop_zero] at this;rw[idxFunc,this,Bool.not_not]
end
section
open Go.RowKit Go.Maps
def qL(s:ByteArray):Lit:=.string s.data.toList
def NS(l:List ByteArray):DataW Unit:=setOf (.agg []) (l.map qL)
theorem ahk:NS []=.map []:=rfl
theorem Q6(l:List ByteArray)(s:ByteArray):NS (l++[s])=(NS l).put (qL s) (.agg []):=by
 unfold NS;rw[lZ,List.map_singleton,setOf_snoc]
theorem LB(l:List ByteArray):∀x∈l.map qL,WideAt.IsKeyLit x:=fun x hx=>by
 obtain⟨s,_,rfl⟩:=jx.1 hx;trivial
theorem ahl{a b:ByteArray}(h:qL a=qL b):a=b:=by
 injection h with h;exact Ca (yh h)
theorem Za(l:List ByteArray)(s:ByteArray):Maps.has (NS l) (qL s)=true↔s∈l:=by
 unfold NS;rw[has_setOf _ _ _ (LB l),List.any_map,List.any_eq_true];constructor
 ·rintro⟨x,hx,h⟩;by_cases e:qL x=qL s
  ·rw[← ahl e];exact hx
  rw[Function.comp,sameKey_ne e] at h;exact absurd h Ce
 intro h;exact⟨s,h,show (qL s).sameKey (qL s)=true from WideAt.sameKey_self (a:=qL s) (LB [s] (qL s) (by simp))⟩
theorem ahm(l:List ByteArray)(s:ByteArray)(h:s∈l):Maps.size (NS (l++[s]))=Maps.size (NS l):=by
 rw[Q6,size_put (D:=NS l) (tidy_setOf _ _ (LB l)),ar ((Za l s).2 h)]
theorem ahn(l:List ByteArray)(s:ByteArray)(h:¬ s∈l):Maps.size (NS (l++[s]))=Maps.size (NS l)+1:=by
 rw[Q6,size_put (D:=NS l) (tidy_setOf _ _ (LB l)),ai (fun e=>h ((Za l s).1 e))]
theorem aho(l:List ByteArray):∀j,j≤l.length→Maps.size (NS (l.take j))≤j∧(Maps.size (NS (l.take j))=j↔(l.take j).Nodup):=by
 intro j
 induction j with
 | zero=>intro _;exact⟨Nat.le_of_eq rfl,by simp[ahk];rfl⟩
 | succ j ih =>
  intro h;obtain⟨h1,h2⟩:=ih (by omega);rw[px l j (by omega)];by_cases hm:l[j]∈l.take j
  ·rw[ahm _ _ hm];refine⟨by omega,⟨fun e=>by omega,fun hn=>?_⟩⟩;rw[MO] at hn;exact absurd rfl (hn.2.2 _ hm _ (by simp))
  rw[ahn _ _ hm];refine⟨by omega,⟨fun e=>?_,fun hn=>?_⟩⟩
  ·rw[MO];refine⟨h2.1 (by omega),by simp,fun a ha b hb=>?_⟩;rw[uP] at hb;subst hb;intro e;subst e;exact hm ha
  rw[MO] at hn;have:=h2.2 hn.1;omega
theorem Zb(l:List ByteArray):(((Maps.size (NS l):Nat):Int)==(l.length:Int))=decide l.Nodup:=by
 have:=(aho l l.length (av _)).2;rw[fC] at this;apply EB.2;rw[iy,EF,← this];omega
end
section
open Go.RowKit
def CF(w:World)(p:Addr)(u:Value):Prop:=w.cell? p=some u∧w.frozen? p=false
theorem CF.block{w w':World}{p:Addr}{u:Value}(h:CF w p u)(e:w'.heap[p.block]?=w.heap[p.block]?):CF w' p u:=
 ⟨(uQ e).trans h.1,(World.frozen?_of_block e).trans h.2⟩
def kL(C:Addr→Value→Prop):V→Cv→(Nat→Prop)→Prop
 | .mk k n b l f,c,S=>c.k=k∧c.n=(n:Int)∧c.nB=b.length∧c.nL=l.length∧c.nF=f.length ∧
  -9223372036854775808≤k∧k≤9223372036854775807∧n<18446744073709551616 ∧
  b.length≤c.cB∧b.length≤140737488355328∧l.length≤c.cL∧l.length≤140737488355328∧f.length≤c.cF∧f.length≤140737488355328 ∧
  Reads (fun p u=>C p u∧S p.block) 1 c.aB b.length (bw b) ∧
  (∃T:Nat→Nat→Prop,(∀i (h:i<l.length),∃bk o x,c.aL=some ⟨bk,o,none⟩∧S bk∧¬ T i bk∧(∀q,T i q→S q)∧kI C bk (o+i*5) x∧kL C l[i] x (T i)) ∧
   (∀i j,i<j→j<l.length→∀q,T i q→¬ T j q)) ∧
  (∃T:Nat→Nat→Prop,(∀i (h:i<f.length),∃bk o x,c.aF=some ⟨bk,o,none⟩∧S bk∧¬ T i bk∧(∀q,T i q→S q)∧C ⟨bk,o+i*6,none⟩ (.string f[i].1)∧f[i].1.size≤140737488355328∧kI C bk (o+i*6+1) x∧kL C f[i].2 x (T i)) ∧
   (∀i j,i<j→j<f.length→∀q,T i q→¬ T j q))
termination_by v=>SizeOf.sizeOf v
decreasing_by
 ·exact V.qZ (aY _)
 exact V.rf (aY _)
theorem kI.mono'{C C':Addr→Value→Prop}{bk o:Nat}{c:Cv}(h:∀p u,C p u→p.block=bk→C' p u)(hc:kI C bk o c):kI C' bk o c:=
 ⟨h _ _ hc.1 rfl,h _ _ hc.2.1 rfl,h _ _ hc.2.2.1 rfl,h _ _ hc.2.2.2.1 rfl,h _ _ hc.2.2.2.2 rfl⟩
theorem kL.mono{C C':Addr→Value→Prop}(v:V):∀(c:Cv) (S S':Nat→Prop),(∀p u,C p u→S p.block→C' p u)→(∀q,S q→S' q)→kL C v c S→kL C' v c S':=by
 induction v using V.ind with
 | h k n b l f hl hf =>
  intro c S S' hC hS hv;rw[kL] at hv ⊢;obtain⟨e1,e2,e3,e4,e5,h1,h2,h3,h4,h5,h6,h7,h8,h9,hb,⟨T,hL,Kh⟩,⟨U,hF,Ki⟩⟩:=hv;refine⟨e1,e2,e3,e4,e5,h1,h2,h3,h4,h5,h6,h7,h8,h9,hb.mono (fun p u h=>⟨hC p u h.1 h.2,hS _ h.2⟩),⟨T,fun i hi=>?_,Kh⟩,⟨U,fun i hi=>?_,Ki⟩⟩
  ·obtain⟨bk,o,x,e,s,nt,ts,k0,kv⟩:=hL i hi;exact⟨bk,o,x,e,hS _ s,nt,fun q hq=>hS _ (ts q hq),k0.mono' (fun p u h e=>hC p u h (e ▸ s)),hl _ (aY hi) _ _ _ (fun p u h hq=>hC p u h (ts _ hq)) (fun q h=>h) kv⟩
  obtain⟨bk,o,x,e,s,nt,ts,ks,kz,k0,kv⟩:=hF i hi;exact⟨bk,o,x,e,hS _ s,nt,fun q hq=>hS _ (ts q hq),hC _ _ ks s,kz,k0.mono' (fun p u h e=>hC p u h (e ▸ s)),hf _ (aY hi) _ _ _ (fun p u h hq=>hC p u h (ts _ hq)) (fun q h=>h) kv⟩
theorem kL.isV{C:Addr→Value→Prop}(v:V):∀(c:Cv) (S:Nat→Prop),kL C v c S→IsV (fun p u=>C p u∧S p.block) v c:=by
 induction v using V.ind with
 | h k n b l f hl hf =>
  intro c S hv;rw[kL] at hv;rw[IsV];obtain⟨e1,e2,e3,e4,e5,h1,h2,h3,h4,h5,h6,h7,h8,h9,hb,⟨T,hL,Kh⟩,⟨U,hF,Ki⟩⟩:=hv;refine⟨e1,e2,e3,e4,e5,h1,h2,h3,h4,h5,h6,h7,h8,h9,hb,fun i hi=>?_,fun i hi=>?_⟩
  ·obtain⟨bk,o,x,e,s,nt,ts,k0,kv⟩:=hL i hi;exact⟨bk,o,x,e,k0.mono' (fun p u h e=>⟨h,e ▸ s⟩),iL (fun p u h=>⟨h.1,ts _ h.2⟩) _ _ (hl _ (aY hi) _ _ kv)⟩
  obtain⟨bk,o,x,e,s,nt,ts,ks,kz,k0,kv⟩:=hF i hi;exact⟨bk,o,x,e,⟨ks,s⟩,kz,k0.mono' (fun p u h e=>⟨h,e ▸ s⟩),iL (fun p u h=>⟨h.1,ts _ h.2⟩) _ _ (hf _ (aY hi) _ _ kv)⟩
def pF(w:World)(lo hi:Nat)(v:V)(c:Cv):Prop:=hi≤w.heap.size∧kL (CF w) v c (fun q=>lo≤q∧q<hi)
theorem pF.CY{w:World}{lo hi:Nat}{v:V}{c:Cv}(h:pF w lo hi v c):IsV (bE w lo hi) v c:=
 iL (fun _ _ h=>⟨h.1.1,h.2.1,h.2.2⟩) _ _ (h.2.isV v c _)
theorem pF.blocks{w w':World}{lo hi:Nat}{v:V}{c:Cv}(h:pF w lo hi v c)(hz:w.heap.size≤w'.heap.size)(hb:∀k,lo≤k→k<hi→w'.heap[k]?=w.heap[k]?):pF w' lo hi v c:=
 ⟨a_ h.1 hz,kL.mono v c _ _ (fun _ _ q s=>q.block (hb _ s.1 s.2)) (fun _ q=>q) h.2⟩
theorem pF.grow{w w':World}{lo hi:Nat}{v:V}{c:Cv}(h:pF w lo hi v c)(hg:Grow w w'):pF w' lo hi v c:=
 h.blocks hg.size (fun k _ hk=>hg.below.block k (cU hk h.1))
end
section
open V
theorem acF{s:ByteArray}(h:name s=true):s.size≤32:=by
 simp only[name,gV,iy] at h;exact h.1.1.2
def V.fit:V→Prop
 | mk _ n _ l f=>n<18446744073709551616∧(∀x∈l,fit x)∧(∀x∈f,fit x.2)
termination_by v=>SizeOf.sizeOf v
decreasing_by
 ·exact qZ ‹_›
 exact rf ‹_›
theorem IsV.fit{C:Addr→Value→Prop}(v:V):∀c,IsV C v c→v.fit:=by
 induction v using V.ind with
 | h k n b l f hl hf =>
  intro c hv;rw[IsV] at hv;rw[V.fit];obtain⟨e1,e2,e3,e4,e5,h1,h2,h3,h4,h5,h6,h7,h8,h9,hb,hL,hF⟩:=hv;refine⟨h3,fun x hx=>?_,fun x hx=>?_⟩
  ·obtain⟨i,hi,rfl⟩:=sJ.1 hx;obtain⟨bk,o,y,e,k0,kv⟩:=hL i hi;exact hl _ hx _ kv
  obtain⟨i,hi,rfl⟩:=sJ.1 hx;obtain⟨bk,o,y,e,ks,kz,k0,kv⟩:=hF i hi;exact hf _ hx _ kv
theorem zm(n:Nat)(h:n<256):(UInt8.ofNat n).toNat=n:=by rw[yf];omega
theorem KR{v:V}:v.good=0↔v.formed=true∧v.most≤64∧v.depth≤16∧v.bytes.length≤4096:=by
 unfold V.good
 cases hf:v.formed
 ·simp
 simp only[Bool.true_eq_false,iJ,true_and];by_cases h1:64<v.most
 ·rw[ar h1];constructor
  ·intro h;omega
  intro h;omega
 rw[ai h1];by_cases h2:16<v.depth
 ·rw[ar h2];constructor
  ·intro h;omega
  intro h;omega
 rw[ai h2];by_cases h3:4096<v.bytes.length
 ·rw[ar h3];constructor
  ·intro h;omega
  intro h;omega
 rw[ai h3];constructor
 ·intro _;omega
 intro _;rfl
end
section
open V
theorem Zc{α:Type}(g:α→List UInt8)(f:α→Nat)(l:List α)(h:∀x∈l,f x≤(g x).length):(l.map f).sum≤((l.map g).flatten).length:=by
 induction l with
 | nil=>simp
 | cons x xs ih =>
  have h1:=h x (by simp);have h2:=ih fun y hy=>h y (by simp[hy])
  simp only[eW,pc,l5,bD];omega
theorem count_le(v:V):v.formed=true→v.count≤v.bytes.length:=by
 induction v using V.ind with
 | h k n b l f hl hf =>
  intro fh;rcases E4 fh with h | ⟨n',hn',h⟩ | ⟨n',h⟩ | ⟨n',h⟩ | ⟨b',hb',h⟩ | ⟨b',h⟩ | ⟨l',hl',h⟩ | ⟨f',hf',hnd,h⟩<;>cases h
  ·rw[count_mk,wI];simp
  ·rw[count_mk,wI];simp
  ·rw[count_mk,wI];simp
  ·rw[count_mk,wI];simp
  ·rw[count_mk,wI];simp
  ·rw[count_mk,wI];simp
  ·have h1:=Zc V.bytes V.count l fun x hx=>hl x hx (hl' x hx)
   rw[count_mk,TZ];simp only[mZ,Cf,aU];omega
  have h1:=Zc (fun x:ByteArray×V=>item x.1 x.2.bytes) (fun x=>x.2.count) f fun x hx=>by
   have:=hf x hx (hf' x hx).2;rw[T4];omega
  rw[count_mk,T3];simp only[mZ,Cf,aU];omega
end
section
open Ieee Go
theorem tT:Ieee.double.signWeight=9223372036854775808:=by decide
theorem H_:Ieee.double.binade=4503599627370496:=by decide
theorem AJ:Ieee.double.infRung=9218868437227405312:=by decide
theorem Ia:Ieee.double.leastPlace=-1074:=by decide
theorem Zd(r:Nat)(h:r<9223372036854775808)(neg:Bool):Ieee.double.word neg r % 9223372036854775808=r:=by
 unfold Format.word;rw[tT];cases neg
 ·simp;omega
 simp;omega
theorem ahp(r:Nat)(h:r<9223372036854775808)(neg:Bool):(Ieee.double.word neg r / 9223372036854775808 % 2==1)=neg:=by
 unfold Format.word;rw[tT];cases neg
 ·simp;omega
 simp;omega
theorem Q7(neg:Bool)(e m:Nat)(h1:1≤e)(h2:e≤2046)(hm:m<4503599627370496) :
 Ieee.double.read (Ieee.double.word neg (e*4503599627370496+m))=.number neg (4503599627370496+m) ((e:Int)-1075):=by
 have hr:e*4503599627370496+m<9223372036854775808:=by omega
 unfold Format.read;simp only[tT,H_,AJ,Ia,Zd _ hr,ahp _ hr];rw[ai (by omega),ar (by omega)];have e1:(e*4503599627370496+m) % 4503599627370496=m:=by omega
 have e2:(e*4503599627370496+m) / 4503599627370496=e:=by omega
 rw[e1,e2];congr 1;omega
theorem Ib(k:Nat):(1:Nat) <<< k=2 ^ k:=by rw[ym,ng]
theorem Q8(way:Toward)(neg:Bool)(n:Nat):way.cut neg n 0=n:=by
 unfold Toward.cut;have:(1:Nat) <<< min 0 (n.log2+2)=1:=by simp
 rw[this];simp only[EM,Nat.mod_one]
 cases way<;>simp
theorem tS:(2:Nat) ^ 53=9007199254740992:=by decide
theorem Ze(neg:Bool)(aM:Nat)(h0:aM≠0)(last:Int)(h:max ((0:Int)+(aM.log2:Int)-52) (-1074)=last) :
 Ieee.double.nearest neg aM 0=Ieee.double.word neg (min ((last - -1074).toNat*4503599627370496+Toward.even.cut neg (aM <<< (0-last).toNat) (last-0).toNat) 9218868437227405312):=by
 have hf:((Ieee.double.fractionBits:Nat):Int)=52:=rfl;unfold Format.nearest;rw[ai h0,Ia,H_,AJ,hf,h]
theorem Zf(neg:Bool)(a b:Nat)(h:a=b)(hb:b≤9218868437227405312):Ieee.double.word neg (min a 9218868437227405312)=Ieee.double.word neg b:=by
 subst h;rw[pW hb]
theorem Ic(neg:Bool)(aM:Nat)(h0:aM≠0)(hL:aM.log2≤52) :
 Ieee.double.nearest neg aM 0=Ieee.double.word neg ((aM.log2+1022)*4503599627370496+aM*2 ^ (52-aM.log2)):=by
 rw[Ze neg aM h0 ((aM.log2:Int)-52) (by omega)];have e1:((0:Int)-((aM.log2:Int)-52)).toNat=52-aM.log2:=by omega
 have e2:((aM.log2:Int)-52-0).toNat=0:=by omega
 have e3:((aM.log2:Int)-52 - -1074).toNat=aM.log2+1022:=by omega
 rw[e1,e2,e3,Q8,ym];have hlt:=uR (n:=aM);have h3:aM*2 ^ (52-aM.log2)<2 ^ (aM.log2+1)*2 ^ (52-aM.log2):=uS hlt (jn (by omega));rw[← jy,show aM.log2+1+(52-aM.log2)=53 by omega,tS] at h3;generalize aM*2 ^ (52-aM.log2)=x at h3 ⊢;generalize aM.log2=L at hL ⊢;exact Zf _ _ _ rfl (by omega)
def up(aM d:Nat):Bool:=decide (2 ^ d<2*(aM % 2 ^ d))||(2 ^ d==2*(aM % 2 ^ d)&&aM / 2 ^ d % 2==1)
theorem ahq(neg:Bool)(aM d:Nat)(h:d≤aM.log2+2):Toward.even.cut neg aM d=aM / 2 ^ d+(up aM d).toNat:=by
 unfold Toward.cut;have:min d (aM.log2+2)=d:=by omega
 simp only[this,Ib,up]
theorem Q9(neg:Bool)(aM d:Nat)(h0:aM≠0)(hd:1≤d)(hL:aM.log2=52+d)(hd2:d≤11) :
 Ieee.double.nearest neg aM 0=Ieee.double.word neg ((d+1074)*4503599627370496+(aM / 2 ^ d+(up aM d).toNat)):=by
 rw[Ze neg aM h0 (d:Int) (by omega)];have e1:((0:Int)-(d:Int)).toNat=0:=by omega
 have e2:((d:Int)-0).toNat=d:=by omega
 have e3:((d:Int) - -1074).toNat=d+1074:=by omega
 rw[e1,e2,e3,MT,ahq neg aM d (by omega)];have hlt:=uR (n:=aM);have dC:aM / 2 ^ d<2 ^ 53:=by
  rw[zR (jn (by omega)),← jy];have:aM.log2+1=53+d:=by omega
  rwa [this] at hlt
 rw[tS] at dC;have hu:(up aM d).toNat≤1:=Bool.toNat_le _;generalize aM / 2 ^ d=x at dC ⊢;generalize (up aM d).toNat=y at hu ⊢;exact Zf _ _ _ rfl (by omega)
theorem Q_{neg:Bool}{a b:Nat}{p q:Int}(h1:a=b)(h2:p=q):Datum.number neg a p=.number neg b q:=by subst h1 h2;rfl
theorem Ie:(2:Nat) ^ 52=4503599627370496:=by decide
theorem Ra(neg:Bool)(d t:Nat)(hd:d≤11)(h1:4503599627370496≤t)(h2:t<9007199254740992) :
 Ieee.double.read (Ieee.double.word neg ((d+1074)*4503599627370496+t))=.number neg t (d:Int):=by
 have:=Q7 neg (d+1075) (t-4503599627370496) (by omega) (by omega) (by omega);rw[show (d+1074)*4503599627370496+t=(d+1075)*4503599627370496+(t-4503599627370496) by omega,this];exact Q_ (by omega) (by omega)
theorem ahr(neg:Bool)(d:Nat)(hd:d≤11) :
 Ieee.double.read (Ieee.double.word neg ((d+1074)*4503599627370496+9007199254740992))=.number neg 4503599627370496 ((d:Int)+1):=by
 have:=Q7 neg (d+1076) 0 (by omega) (by omega) (by omega);rw[show (d+1074)*4503599627370496+9007199254740992=(d+1076)*4503599627370496+0 by omega,this];exact Q_ rfl (by omega)
theorem ahs(neg:Bool)(L t:Nat)(hd:L≤52)(h1:4503599627370496≤t)(h2:t<9007199254740992) :
 Ieee.double.read (Ieee.double.word neg ((L+1022)*4503599627370496+t))=.number neg t ((L:Int)-52):=by
 have:=Q7 neg (L+1023) (t-4503599627370496) (by omega) (by omega) (by omega);rw[show (L+1022)*4503599627370496+t=(L+1023)*4503599627370496+(t-4503599627370496) by omega,this];exact Q_ (by omega) (by omega)
theorem Zg(neg:Bool)(m:Nat)(d:Nat):(Datum.number neg m (d:Int)).toInt .zero=some (if neg then -((m*2 ^ d:Nat):Int) else ((m*2 ^ d:Nat):Int)):=by
 unfold Datum.toInt Datum.integral;simp only[show (-(d:Int)).toNat=0 by omega,yl,Q8,signed,ym,zS,qT]
theorem aht(neg:Bool)(aM q:Nat)(h0:aM≠0):Toward.zero.cut neg (aM*2 ^ q) q=aM:=by
 have hp:0<2 ^ q:=jn (by omega);have hle:q≤(aM*2 ^ q).log2:=by
  rw[Nat.le_log2 (by have:=EO (EP h0) hp;omega)];exact Nat.le_mul_of_pos_left _ (EP h0)
 unfold Toward.cut;have:min q ((aM*2 ^ q).log2+2)=q:=by omega
 simp only[this,Ib,MU _ hp,zT,fF]
theorem ahu(neg:Bool)(aM q:Nat)(h0:aM≠0)(p:Int)(hp:p=-(q:Int)):(Datum.number neg (aM*2 ^ q) p).toInt .zero=some (if neg then -(aM:Int) else (aM:Int)):=by
 subst hp;unfold Datum.toInt Datum.integral;simp only[show (-(q:Int)).toNat=0 by omega,Int.neg_neg,yl,MT,aht neg aM q h0,signed]
theorem ahv:Ieee.double.read 4890909195324358656=.number false 4503599627370496 11:=by
 have:=Ra false 11 4503599627370496 (by omega) (by omega) (by omega);rw[show Ieee.double.word false ((11+1074)*4503599627370496+4503599627370496)=4890909195324358656 by unfold Format.word;decide] at this;exact this
theorem vW{a b:Int}(h:a<b):compare a b=.lt:=by simp[compare,compareOfLessAndEq,h]
theorem zn{a b:Int}(h:a=b):compare a b=.eq:=by subst h;simp[compare,compareOfLessAndEq]
theorem vX{a b:Int}(h:b<a):compare a b=.gt:=by
 have h1:¬ a<b:=by omega
 have h2:¬ a=b:=by omega
 simp[compare,compareOfLessAndEq,h1,h2]
theorem Zh{f:Nat}{s:Bool}{m:Nat}{p:Int}(h:Ieee.double.read f=.number s m p)(hp:p≤11) :
 Ieee.double.order f 4890909195324358656=some (compare (if s then -(m:Int) else (m:Int)) ((4503599627370496*2 ^ (11-p).toNat:Nat):Int)):=by
 unfold Format.order;rw[h,ahv];unfold Datum.order;simp only[show min p 11=p by omega,show (p-p).toNat=0 by omega,signed,ym,zS,qT,ln,iJ]
theorem Rb{f:Nat}{s:Bool}{m:Nat}{p:Int}(h:Ieee.double.read f=.number s m p):Ieee.double.order f f=some .eq:=by
 unfold Format.order;rw[h];unfold Datum.order;simp
theorem ahw:Ieee.double.read 18442240474082181120=.infinity true:=by decide
theorem Zi:Ieee.double.read 0=.number false 0 (-1074):=by decide
theorem LC{f:Nat}{s:Bool}{m:Nat}{p:Int}(h:Ieee.double.read f=.number s m p):Ieee.double.order f 18442240474082181120=some .gt∧Ieee.double.order 18442240474082181120 f=some .lt:=by
 unfold Format.order;rw[h,ahw];exact⟨rfl,rfl⟩
theorem LD{f:Nat}{s:Bool}{m:Nat}{p:Int}(h:Ieee.double.read f=.number s m p)(hm:m≠0)(hp:-1074≤p):Ieee.double.order f 0=some (if s then .lt else .gt):=by
 unfold Format.order;rw[h,Zi];unfold Datum.order;have hpos:0<m*2 ^ (p - -1074).toNat:=EO (EP hm) (jn (by omega));simp only[show min p (-1074)=-1074 by omega,signed,ym];generalize m*2 ^ (p - -1074).toNat=x at hpos ⊢
 cases s
 ·simp only[ln,iJ];rw[vX];omega
 simp only[iK];rw[vW];simp;omega
def sh(m:Nat):Nat:=m.log2-52
def fl(i:Int):Nat×Nat:=
 if 0≤i then (Ieee.double.nearest false (i.toNat / 2 ^ sh i.toNat*2 ^ sh i.toNat) 0,i.toNat % 2 ^ sh i.toNat)
 else (Ieee.double.nearest true ((i.natAbs+(2 ^ sh i.natAbs-1)) / 2 ^ sh i.natAbs*2 ^ sh i.natAbs) 0,(i.natAbs+(2 ^ sh i.natAbs-1)) / 2 ^ sh i.natAbs*2 ^ sh i.natAbs-i.natAbs)
theorem Zj(t d:Nat)(h1:4503599627370496≤t)(h2:t<9007199254740992):(t*2 ^ d).log2=52+d:=by
 have hp:0<2 ^ d:=jn (by omega);have h0:t*2 ^ d≠0:=by have:=EO (show 0<t by omega) hp;omega
 have ha:52+d≤(t*2 ^ d).log2:=by
  rw[Nat.le_log2 h0,jy,Ie];exact iu _ h1
 have hb:(t*2 ^ d).log2<52+d+1:=by
  rw[Nat.log2_lt h0,show 52+d+1=53+d by omega,jy,tS];exact uS h2 hp
 omega
theorem Rc(t d:Nat):up (t*2 ^ d) d=false:=by
 have hp:0<2 ^ d:=jn (by omega);unfold up;rw[Nat.mul_mod_left];simp
theorem Ig(neg:Bool)(t d:Nat)(hd1:1≤d)(hd2:d≤10)(h1:4503599627370496≤t)(h2:t≤9007199254740992) :
 Ieee.double.nearest neg (t*2 ^ d) 0=Ieee.double.word neg ((d+1074)*4503599627370496+t):=by
 have hp:∀d:Nat,0<2 ^ d:=fun d=>jn (by omega)
 rcases wF h2 with h2 | rfl
 ·rw[Q9 neg _ d (by have:=EO (show 0<t by omega) (hp d);omega) hd1 (Zj t d h1 h2) (by omega),Rc,MU _ (hp d)];rfl
 rw[show 9007199254740992*2 ^ d=4503599627370496*2 ^ (d+1) by rw[uO];omega,
  Q9 neg _ (d+1) (by have:=EO (show 0<4503599627370496 by omega) (hp (d+1));omega) (by omega) (Zj _ _ (by omega) (by omega)) (by omega),Rc,MU _ (hp (d+1))]
 refine cT (Ieee.double.word neg) ?_;simp only[zT];omega
theorem ahx(neg:Bool)(t d:Nat)(hd2:d≤10)(h1:4503599627370496≤t)(h2:t≤9007199254740992) :
 ∃m p,Ieee.double.read (Ieee.double.word neg ((d+1074)*4503599627370496+t))=.number neg m p∧m≠0∧-1074≤p∧p≤11∧m*2 ^ p.toNat=t*2 ^ d∧0≤p ∧
  (Datum.number neg m p).toInt .zero=some (if neg then -((t*2 ^ d:Nat):Int) else ((t*2 ^ d:Nat):Int)):=by
 rcases wF h2 with h2 | rfl
 ·exact⟨t,d,Ra neg d t (by omega) h1 h2,by omega,by omega,by omega,by rw[yl],by omega,Zg neg t d⟩
 have e:9007199254740992*2 ^ d=4503599627370496*2 ^ (d+1):=by rw[uO];omega
 refine⟨4503599627370496,((d+1:Nat):Int),ahr neg d (by omega),by omega,by omega,by omega,by rw[yl,e],by omega,?_⟩;rw[Zg neg _ (d+1),e]
theorem Ef{f:Nat}{s:Bool}{m:Nat}{p n:Int}(h:Ieee.double.read f=.number s m p)(ht:(Datum.number s m p).toInt .zero=some n)(h1:-9223372036854775808≤n)(h2:n≤9223372036854775807) :
 floatToIntVal .f64 f .i64=some n:=by
 unfold floatToIntVal;rw[show FloatKind.f64.decode f=.number s m p from h,ht];exact ar ⟨h1,h2⟩
def Step(i:Int)(f0 g:Nat):Prop:=
 f0=g ∨
 (0<i∧f0=g+1∧(Ieee.double.order f0 4890909195324358656=some .eq∨(Ieee.double.order f0 4890909195324358656=some .lt∧∃n',floatToIntVal .f64 f0 .i64=some n'∧i<n')) ∧
  ∃s m p,Ieee.double.read f0=.number s m p∧m≠0∧-1074≤p∧s=false) ∨
 (i<0∧f0+1=g∧(Ieee.double.order f0 4890909195324358656=some .lt∧∃n',floatToIntVal .f64 f0 .i64=some n'∧i<n') ∧
  ∃s m p,Ieee.double.read f0=.number s m p∧m≠0∧-1074≤p∧s=true)
structure ahy (i:Int) (f0 g rest:Nat) (n:Int):Prop where
 eq:n=i-(rest:Int)
 small:rest<2048
 lo:-9223372036854775808≤n
 hi:n≤i
 val:floatToIntVal .f64 g .i64=some n
 lt:Ieee.double.order g 4890909195324358656=some .lt
 ge:Ieee.double.order g 14114281232179134464=some .gt∨Ieee.double.order g 14114281232179134464=some .eq
 bits:g<18446744073709551616
 step:Step i f0 g
theorem Zk:Ieee.double.read 14114281232179134464=.number true 4503599627370496 11:=by
 have:=Ra true 11 4503599627370496 (by omega) (by omega) (by omega);rw[show Ieee.double.word true ((11+1074)*4503599627370496+4503599627370496)=14114281232179134464 by unfold Format.word;decide] at this;exact this
theorem Zl{f:Nat}{s:Bool}{m:Nat}{p:Int}(h:Ieee.double.read f=.number s m p)(hp:p≤11) :
 Ieee.double.order f 14114281232179134464=some (compare (if s then -(m:Int) else (m:Int)) (-((4503599627370496*2 ^ (11-p).toNat:Nat):Int))):=by
 unfold Format.order;rw[h,Zk];unfold Datum.order;simp only[show min p 11=p by omega,show (p-p).toNat=0 by omega,signed,ym,zS,qT,iK]
theorem Zm(neg:Bool)(r:Nat)(h:r<9223372036854775808):Ieee.double.word neg r<18446744073709551616:=by
 unfold Format.word;rw[tT];cases neg<;>simp<;>omega
theorem Zn(neg:Bool)(r:Nat):Ieee.double.word neg (r+1)=Ieee.double.word neg r+1:=by
 unfold Format.word;cases neg<;>simp<;>omega
theorem scale(p:Int)(h0:0≤p)(h:p≤11):4503599627370496*2 ^ (11-p).toNat*2 ^ p.toNat=9223372036854775808:=by
 rw[qW,← jy,show (11-p).toNat+p.toNat=11 by omega]
theorem ahz{m x:Nat}{p:Int}(h0:0≤p)(h:p≤11)(e:m*2 ^ p.toNat=x):(m<4503599627370496*2 ^ (11-p).toNat↔x<9223372036854775808)∧(m=4503599627370496*2 ^ (11-p).toNat↔x=9223372036854775808):=by
 have hp:0<2 ^ p.toNat:=jn (by omega);rw[← e,← scale p h0 h];exact⟨(Nat.mul_lt_mul_right hp).symm,⟨fun h=>by rw[h],fun h=>Nat.eq_of_mul_eq_mul_right hp h⟩⟩
theorem Ih(neg:Bool)(t d:Nat)(hd2:d≤10)(h1:4503599627370496≤t)(h2:t≤9007199254740992)(h3:t*2 ^ d≤9223372036854775808)(x:Nat)(hx:t*2 ^ d=x)(g:Nat)(hg:g=Ieee.double.word neg ((d+1074)*4503599627370496+t)) :
 (∃s m p,Ieee.double.read g=.number s m p∧m≠0∧-1074≤p∧s=neg)∧g<18446744073709551616 ∧
 (neg=true→floatToIntVal .f64 g .i64=some (-(x:Int))∧Ieee.double.order g 4890909195324358656=some .lt∧(Ieee.double.order g 14114281232179134464=some .gt∨Ieee.double.order g 14114281232179134464=some .eq)) ∧
 (neg=false→(x=9223372036854775808→Ieee.double.order g 4890909195324358656=some .eq) ∧
  (x<9223372036854775808→floatToIntVal .f64 g .i64=some (x:Int)∧Ieee.double.order g 4890909195324358656=some .lt∧Ieee.double.order g 14114281232179134464=some .gt)):=by
 obtain⟨m,p,hr,hm,hp1,hp2,he,hp0,hti⟩:=ahx neg t d hd2 h1 h2;rw[hx] at hti he h3;rw[← hg] at hr;obtain⟨b1,b2⟩:=ahz hp0 hp2 he;have ho:=Zh hr hp2;have hn:=Zl hr hp2;refine⟨⟨neg,m,p,hr,hm,hp1,rfl⟩,?_,fun e=>?_,fun e=>⟨fun ex=>?_,fun ex=>?_⟩⟩
 ·rw[hg];exact Zm _ _ (by omega)
 ·subst e;simp only[iK] at ho hn hti;refine⟨Ef hr hti (by omega) (by omega),?_,?_⟩
  ·rw[ho,vW];omega
  rcases wF h3 with h | h
  ·left;rw[hn,vX];have:=b1.2 h;omega
  right;rw[hn,zn];have:=b2.2 h;omega
 ·subst e;rw[ho,zn];have:=b2.2 ex;simp only[ln,iJ];omega
 subst e;simp only[ln,iJ] at ho hn hti;have:=b1.2 ex;refine⟨Ef hr hti (by omega) (by omega),?_,?_⟩
 ·rw[ho,vW];omega
 rw[hn,vX];omega
theorem Zo(neg:Bool)(aM:Nat)(h0:aM≠0)(hL:aM.log2≤52)(g:Nat)(hg:g=Ieee.double.nearest neg aM 0)(i:Int)(hi:i=if neg then -(aM:Int) else (aM:Int)) :
 g<18446744073709551616∧floatToIntVal .f64 g .i64=some i∧Ieee.double.order g 4890909195324358656=some .lt∧Ieee.double.order g 14114281232179134464=some .gt:=by
 have hlt:=uR (n:=aM);have hge:=Jr h0;have hp:0<2 ^ (52-aM.log2):=jn (by omega);have ha:4503599627370496≤aM*2 ^ (52-aM.log2):=by
  have:=iu (2 ^ (52-aM.log2)) hge;rwa [← jy,show aM.log2+(52-aM.log2)=52 by omega,Ie] at this
 have hb:aM*2 ^ (52-aM.log2)<9007199254740992:=by
  have:=uS hlt hp;rwa [← jy,show aM.log2+1+(52-aM.log2)=53 by omega,tS] at this
 have hm:aM<9007199254740992:=Nat.lt_of_le_of_lt (Nat.le_mul_of_pos_right _ hp) hb;rw[Ic neg aM h0 hL] at hg;have hr:=ahs neg aM.log2 _ hL ha hb;rw[← hg] at hr;have hti:=ahu neg aM (52-aM.log2) h0 ((aM.log2:Int)-52) (by omega);have ho:=Zh hr (by omega);have hn:=Zl hr (by omega);have hbig:9007199254740992≤4503599627370496*2 ^ (11-((aM.log2:Int)-52)).toNat:=by
  have:2 ^ 1≤2 ^ (11-((aM.log2:Int)-52)).toNat:=lg (by omega) (by omega);omega
 rw[← hi] at hti;refine⟨by rw[hg];exact Zm _ _ (by omega),Ef hr hti ?_ ?_,?_,?_⟩
 ·rw[hi];split<;>omega
 ·rw[hi];split<;>omega
 ·rw[ho,vW];split<;>omega
 rw[hn,vX];split<;>omega
theorem Du(i:Int)(h1:-9223372036854775808≤i)(h2:i≤9223372036854775807) :
 ahy i (FloatKind.f64.nearest i) (fl i).1 (fl i).2 (i-(fl i).2):=by
 have rH:FloatKind.f64.nearest i=Ieee.double.nearest (decide (i<0)) i.natAbs 0:=rfl;by_cases hz:i=0
 ·subst hz;have e1:fl 0=(0,0):=by decide
  have e2:FloatKind.f64.nearest 0=0:=by decide
  rw[e1,e2];refine⟨rfl,by omega,by simp,by simp,?_,by decide,.inl (by decide),by simp,.inl rfl⟩;exact Ef Zi (by decide) (by simp) (by simp)
 by_cases hmin:i=-9223372036854775808
 ·subst hmin;have e1:fl (-9223372036854775808)=(14114281232179134464,0):=by kernel_rfl
  have e2:FloatKind.f64.nearest (-9223372036854775808)=14114281232179134464:=by kernel_rfl
  rw[e1,e2];refine⟨rfl,by omega,by simp,by simp,?_,by kernel_rfl,.inr (by kernel_rfl),by simp,.inl rfl⟩;exact Ef Zk (by kernel_rfl) (by simp) (by simp)
 have hm0:i.natAbs≠0:=by omega
 by_cases hL:i.natAbs.log2≤52
 ·have hsh:sh i.natAbs=0:=by unfold sh;omega
  have hfl:fl i=(FloatKind.f64.nearest i,0):=by
   unfold fl;by_cases hi:0≤i
   ·have e:i.toNat=i.natAbs:=by omega
    rw[ar hi,e,hsh,rH];simp only[zS,EM,qT,Nat.mod_one,bY (show ¬ i<0 by omega)]
   rw[ai hi,hsh,rH];simp only[zS,EM,qT,yj,fF,bT (show i<0 by omega)]
  have hs:=Zo (decide (i<0)) i.natAbs hm0 hL (FloatKind.f64.nearest i) rH i (by by_cases hi:i<0<;>simp[hi]<;>omega);rw[hfl];exact⟨rfl,by omega,by simp;omega,by simp,by simpa using hs.2.1,hs.2.2.1,.inl hs.2.2.2,hs.1,.inl rfl⟩
 obtain⟨d,hd⟩:∃d,i.natAbs.log2=52+d:=⟨i.natAbs.log2-52,by omega⟩;have hsh:sh i.natAbs=d:=by unfold sh;omega
 have hlt:=uR (n:=i.natAbs);have hge:=Jr hm0;have hd1:1≤d:=by omega
 have hd2:d≤11:=by
  rcases dH d 12 with h | h
  ·omega
  have:2 ^ 64≤2 ^ i.natAbs.log2:=lg (by omega) (by omega);have e:(2:Nat) ^ 64=18446744073709551616:=by decide
  omega
 have hp:0<2 ^ d:=jn (by omega);obtain⟨t,ht⟩:∃t,i.natAbs / 2 ^ d=t:=⟨_,rfl⟩;obtain⟨r,hr⟩:∃r,i.natAbs % 2 ^ d=r:=⟨_,rfl⟩;have kR:i.natAbs=t*2 ^ d+r:=by rw[← ht,← hr,nW];exact(sM _ _).symm
 have hrl:r<2 ^ d:=by rw[← hr];exact uT _ hp
 have Pk:2 ^ d≤2 ^ 11:=lg (by omega) hd2;have e11:(2:Nat) ^ 11=2048:=by decide
 have ht1:4503599627370496≤t:=by
  rw[← ht,MV hp,← Ie,← jy,← hd];exact hge
 have ht2:t<9007199254740992:=by
  rw[← ht,zR hp,← tS,← jy,show 53+d=i.natAbs.log2+1 by omega];exact hlt
 have KA:=fun neg=>Q9 neg i.natAbs d hm0 hd1 hd hd2
 rw[ht] at KA;have hup:up i.natAbs d=true→r≠0:=by
  intro hu rD;rw[kR,rD,fF,Rc] at hu
  cases hu
 have xO:d≤10:=by
  rcases dH d 11 with h | h
  ·omega
  have:2 ^ 63≤2 ^ i.natAbs.log2:=lg (by omega) (by omega);have e:(2:Nat) ^ 63=9223372036854775808:=by decide
  omega
 have h63:(t+1)*2 ^ d≤9223372036854775808:=by
  have e:(9223372036854775808:Nat)=2 ^ (63-d)*2 ^ d:=by rw[← jy,show 63-d+d=63 by omega]
  have h3:t*2 ^ d<9223372036854775808:=by omega
  rw[e] at h3 ⊢;exact iu _ (Nat.lt_of_mul_lt_mul_right h3)
 have e1:(t+1)*2 ^ d=t*2 ^ d+2 ^ d:=Ch _ _;rw[rH];by_cases hi:0≤i
 ·have e:i.toNat=i.natAbs:=by omega
  have hfl:fl i=(Ieee.double.word false ((d+1074)*4503599627370496+t),r):=by
   unfold fl;rw[ar hi,e,hsh,ht,hr,Ig false t d hd1 xO ht1 (by omega)]
  rw[hfl,bY (show ¬ i<0 by omega),KA];obtain⟨⟨s,m,p,a1,a2,a3,a4⟩,v2,-,v4⟩:=Ih false t d xO ht1 (by omega) (by omega) _ rfl _ rfl;have hv:=(v4 rfl).2 (by omega);have en:i-(r:Int)=((t*2 ^ d:Nat):Int):=by omega
  refine⟨rfl,by omega,by simp only;omega,by simp only;omega,by simp only;rw[en];exact hv.1,hv.2.1,.inl hv.2.2,v2,?_⟩
  cases hu:up i.natAbs d with
  | false=>exact .inl rfl
  | true =>
   refine .inr (.inl ⟨by omega,?_,?_⟩)
   ·rw[← Zn,Js,lh]
   obtain⟨w1,w2,-,w4⟩:=Ih false (t+1) d xO (by omega) (by omega) h63 _ rfl _ rfl;rw[Js];refine⟨?_,w1⟩;rcases wF h63 with h | h
   ·have hw:=(w4 rfl).2 h;exact .inr ⟨hw.2.1,_,hw.1,by omega⟩
   exact .inl ((w4 rfl).1 h)
 obtain⟨u,hu⟩:∃u,(i.natAbs+(2 ^ d-1)) / 2 ^ d=u:=⟨_,rfl⟩;have hu2:u=if r=0 then t else t+1:=by
  rw[← hu,kR,show t*2 ^ d+r+(2 ^ d-1)=(r+(2 ^ d-1))+t*2 ^ d by omega,Nat.add_mul_div_right _ _ hp];split
  ·rw[Cj (by omega)];omega
  rw[Nat.div_eq_of_lt_le (k:=1) (by omega) (by omega)];omega
 have xy:t≤u∧u≤t+1:=by rw[hu2];split<;>omega
 have ahA:u*2 ^ d≤9223372036854775808:=a_ (iu _ xy.2) h63;have hfl:fl i=(Ieee.double.word true ((d+1074)*4503599627370496+u),u*2 ^ d-i.natAbs):=by
  unfold fl;rw[ai hi,hsh,hu,Ig true u d hd1 xO (by omega) (by omega)]
 have Zp:i.natAbs≤u*2 ^ d∧u*2 ^ d<i.natAbs+2048:=by
  rw[hu2];split
  ·rename_i h;rw[h] at kR;omega
  omega
 rw[hfl,bT (show i<0 by omega),KA];obtain⟨v1,v2,v3,-⟩:=Ih true u d xO (by omega) (by omega) ahA _ rfl _ rfl;have hv:=v3 rfl;have en:i-((u*2 ^ d-i.natAbs:Nat):Int)=-((u*2 ^ d:Nat):Int):=by omega
 refine⟨rfl,by simp only;omega,by simp only;omega,by simp only;omega,by simp only;rw[en];exact hv.1,hv.2.1,hv.2.2,v2,?_⟩
 cases ahB:up i.natAbs d with
 | true =>
  left;have:=hup ahB;rw[hu2,ai this];rfl
 | false =>
  by_cases rD:r=0
  ·left;rw[hu2,ar rD];simp only[zT,fF]
  refine .inr (.inr ⟨by omega,?_,?_⟩)
  ·rw[hu2,ai rD];simp only[zT,fF];rw[← Zn,lh]
  obtain⟨w1,w2,w3,-⟩:=Ih true t d xO (by omega) (by omega) (by omega) _ rfl _ rfl;rw[zT];have hw:=w3 rfl;exact⟨⟨hw.2.1,_,hw.1,by omega⟩,w1⟩
end
section
open V
def be(k n:Nat):List UInt8:=(jQ k n).reverse
theorem fS(k n:Nat):(be k n).length=k:=by rw[be,List.length_reverse,jA]
theorem Zq(k n:Nat):be (k+1) n=UInt8.ofNat (n / 256 ^ k)::be k n:=by rw[be,TU,List.reverse_append];rfl
def eT(n:Nat):Nat:=if n<9223372036854775808 then n+9223372036854775808 else 18446744073709551615-n
theorem AK(n:Nat)(h:n<18446744073709551616):eT n<18446744073709551616:=by unfold eT;split<;>omega
def dX(n:Nat):Bool:=Ieee.double.order n n != some .eq
def i64(n:Nat):Int:=if n<9223372036854775808 then (n:Int) else (n:Int)-18446744073709551616
def fU:List UInt8→List UInt8
 | []=>[]
 | x::r=>if x=0 then 0::255::fU r else x::fU r
def cW(b:List UInt8):List UInt8:=fU b++[0,0]
theorem VY(b:List UInt8)(x:UInt8):fU (b++[x])=fU b++(if x=0 then [0,255] else [x]):=by
 induction b with
 | nil=>simp only[mF,fU]
 | cons y b ih=>simp only[zN,fU,ih];split<;>simp
theorem pJ(b:List UInt8):b.length≤(fU b).length∧(fU b).length≤2*b.length:=by
 induction b with
 | nil=>simp[fU]
 | cons x b ih=>simp only[fU];split<;>simp only[aU]<;>omega
def mM(n:Nat):List UInt8:=1::(be 8 (eT (fl (i64 n)).1)++(be 2 (fl (i64 n)).2++[0]))
def ki(n:Nat):List UInt8:=if dX n=true then 0::be 8 n else 1::(be 8 (eT n)++[0,0,1])
namespace V
def key:V→List UInt8
 | mk k n b l f =>
  if k=1 then [16] else if k=2 then [32,UInt8.ofNat n] else if k=3 then 48::mM n else if k=4 then 48::ki n
  else if k=5 then 64::cW b else if k=6 then 80::cW b
  else if k=7 then 96::((l.attach.map fun x=>1::key x.1).flatten++[0])
  else if k=8 then 112::((f.attach.map fun x=>1::(cW x.1.1.data.toList++key x.1.2)).flatten++[0]) else []
termination_by v=>SizeOf.sizeOf v
decreasing_by
 ·exact qZ x.2
 exact rf x.2
def dY(x:V):List UInt8:=1::key x
def dZ(x:ByteArray×V):List UInt8:=1::(cW x.1.data.toList++key x.2)
theorem zo(k:Int)(n:Nat)(b:List UInt8)(l:List V)(f:List (ByteArray×V)):(mk k n b l f).key =
 if k=1 then [16] else if k=2 then [32,UInt8.ofNat n] else if k=3 then 48::mM n else if k=4 then 48::ki n
 else if k=5 then 64::cW b else if k=6 then 80::cW b
 else if k=7 then 96::((l.map dY).flatten++[0])
 else if k=8 then 112::((f.map dZ).flatten++[0]) else []:=by
 rw[key];have e1:(l.attach.map fun x=>1::key x.1)=l.map dY:=by show l.attach.map (fun x=>dY x.1)=_;simp only[B6,B_]
 have e2:(f.attach.map fun x=>1::(cW x.1.1.data.toList++key x.1.2))=f.map dZ:=by show f.attach.map (fun x=>dZ x.1)=_;simp only[B6,B_]
 rw[e1,e2]
end V
theorem Eg(n:Nat)(h:n<18446744073709551616):-9223372036854775808≤i64 n∧i64 n≤9223372036854775807:=by unfold i64;split<;>omega
theorem ahC(l:List V):l.length≤((l.map V.dY).flatten).length:=by
 induction l with
 | nil=>simp
 | cons x l ih=>simp only[eW,l5,bD,V.dY,aU];omega
theorem ahD(l:List (ByteArray×V)):l.length≤((l.map V.dZ).flatten).length:=by
 induction l with
 | nil=>simp
 | cons x l ih=>simp only[eW,l5,bD,V.dZ,aU];omega
def bK(v:V):List UInt8×Int:=if v.good≠0 then ([],v.good) else if 96<v.key.length then ([],14) else (v.key,0)
theorem ady{v:V}(h:v.good=0):v.formed=true∧v.depth≤16:=by have:=KR.1 h;exact⟨this.1,this.2.2.1⟩
end
section
open V
def eZ(x:UInt8):UInt8:=UInt8.ofNat (255-x.toNat)
def flip(t:Bool)(b:List UInt8):List UInt8:=if t=true then b.map eZ else b
def qs:List V→Int
 | []=>0
 | v::l=>if (bK v).2≠0 then (bK v).2 else qs l
def jD:List V→List Bool→List UInt8
 | v::l,t::ts=>flip t v.key++jD l ts
 | _,_=>[]
def iX(l:List V)(ts:List Bool):List UInt8×Int:=
 if l.length≠ts.length then ([],1) else if qs l≠0 then ([],qs l) else if 96<(jD l ts).length then ([],14) else (jD l ts,0)
theorem FJ{v:V}(h:(bK v).2=0):v.good=0∧v.key.length≤96:=by
 unfold bK at h;split at h
 ·rename_i h0;exact absurd h h0
 split at h
 ·cases h
 exact⟨by omega,by omega⟩
theorem Zr:∀{l:List V},qs l=0→∀v∈l,(bK v).2=0
 | [],_,v,hv=>by cases hv
 | x::l,h,v,hv=>by
  rw[qs] at h;split at h
  ·rename_i h0;exact absurd h h0
  rcases iw.1 hv with rfl | hv
  ·rename_i h0;simpa using h0
  exact Zr h v hv
theorem VN{l:List V}{ts:List Bool}{b:List UInt8}(h:iX l ts=(b,0)):l.length=ts.length∧(∀v∈l,v.good=0)∧jD l ts=b∧b.length≤96:=by
 unfold iX at h;split at h
 ·cases (zU.1 h).2
 split at h
 ·rename_i h0;exact absurd (zU.1 h).2 h0
 split at h
 ·cases (zU.1 h).2
 rename_i h0 h1 h2;have e:jD l ts=b:=(zU.1 h).1;exact⟨by omega,fun v hv=>(FJ (Zr (by omega) v hv)).1,e,by rw[← e];omega⟩
end
abbrev fk:=@V.zo
section
open Ieee Go
def rv(r:Nat):Nat:=if r<4503599627370496 then r else (4503599627370496+r % 4503599627370496)*2 ^ (r / 4503599627370496-1)
theorem Zt(r:Nat):rv r<rv (r+1):=by
 unfold rv;by_cases h1:r+1<4503599627370496
 ·rw[ar (by omega),ar h1];omega
 by_cases h2:r<4503599627370496
 ·obtain rfl:r=4503599627370495:=by omega
  rw[ar (by omega),ai (by omega)];decide
 rw[ai h2,ai h1];obtain⟨e,he⟩:∃e,r / 4503599627370496=e+1:=⟨r / 4503599627370496-1,by omega⟩;have hp:0<2 ^ e:=jn (by omega);by_cases h3:r % 4503599627370496+1<4503599627370496
 ·rw[show (r+1) / 4503599627370496=e+1 by omega,show (r+1) % 4503599627370496=r % 4503599627370496+1 by omega,he,wG];exact uS (by omega) hp
 rw[show (r+1) / 4503599627370496=e+2 by omega,show (r+1) % 4503599627370496=0 by omega,he,wG,show e+2-1=e+1 by omega,uO];have:(4503599627370496+r % 4503599627370496)*2 ^ e<(4503599627370496*2)*2 ^ e:=uS (by omega) hp;rw[fF,← qW,Nat.mul_right_comm];exact this
theorem Eh{a b:Nat}(h:a<b):rv a<rv b:=by
 obtain⟨d,rfl⟩:∃d,b=a+1+d:=⟨b-a-1,by omega⟩;clear h
 induction d with
 | zero=>exact Zt a
 | succ d ih=>exact EI ih (Zt _)
theorem LF{a b:Nat}:rv a<rv b↔a<b:=by
 constructor
 ·intro h;rcases ET a b with h1 | h1 | h1
  ·exact h1
  ·subst h1;omega
  have:=Eh h1;omega
 exact Eh
theorem Re:rv 0=0:=rfl
theorem ahE{r:Nat}(h:0<r):0<rv r:=by have:=Eh h;rwa [Re] at this
def sv(n:Nat):Int:=if n<9223372036854775808 then (rv n:Int) else -(rv (n-9223372036854775808):Int)
def sm(n:Nat):Int:=if n<9223372036854775808 then (n:Int) else -((n-9223372036854775808:Nat):Int)
theorem uw(a b:Nat):sv a<sv b↔sm a<sm b:=by
 unfold sv sm;by_cases ha:a<9223372036854775808
 ·rw[ar ha,ar ha];by_cases hb:b<9223372036854775808
  ·rw[ar hb,ar hb];have:=@LF a b;omega
  rw[ai hb,ai hb];omega
 rw[ai ha,ai ha];by_cases hb:b<9223372036854775808
 ·rw[ar hb,ar hb];have h1:=@LF 0 (a-9223372036854775808);have h2:=@LF 0 b;rw[Re] at h1 h2;omega
 rw[ai hb,ai hb];have:=@LF (b-9223372036854775808) (a-9223372036854775808);omega
theorem LG(a b:Nat):sv a=sv b↔sm a=sm b:=by
 have h1:=uw a b;have h2:=uw b a;omega
theorem Ii{n:Nat}(hn:n<18446744073709551616)(hf:n % 9223372036854775808<9218868437227405312) :
 ∃m p,Ieee.double.read n=.number (decide (9223372036854775808≤n)) m p∧-1074≤p∧m*2 ^ (p+1074).toNat=rv (n % 9223372036854775808)∧m<9007199254740992∧(-1074<p→4503599627370496≤m):=by
 have hs:(n / 9223372036854775808 % 2==1)=decide (9223372036854775808≤n):=by
  by_cases h:9223372036854775808≤n
  ·rw[bT h,show n / 9223372036854775808 % 2=1 by omega];rfl
  rw[bY h,show n / 9223372036854775808 % 2=0 by omega];rfl
 unfold Format.read;simp only[tT,H_,AJ,Ia,hs];generalize n % 9223372036854775808=r at hf;unfold rv;by_cases h:r<4503599627370496
 ·rw[ar h,ar h];exact⟨_,_,rfl,by omega,by simp,by omega,fun hh=>by omega⟩
 rw[ai h,ai h,ar hf];refine⟨_,_,rfl,by omega,?_,by omega,fun _=>by omega⟩;rw[show (-1074+((r / 4503599627370496-1:Nat):Int)+1074).toNat=r / 4503599627370496-1 by omega]
theorem Rf{n:Nat}(hn:n<18446744073709551616)(hf:n % 9223372036854775808=9218868437227405312):Ieee.double.read n=.infinity (decide (9223372036854775808≤n)):=by
 have hs:(n / 9223372036854775808 % 2==1)=decide (9223372036854775808≤n):=by
  by_cases h:9223372036854775808≤n
  ·rw[bT h,show n / 9223372036854775808 % 2=1 by omega];rfl
  rw[bY h,show n / 9223372036854775808 % 2=0 by omega];rfl
 unfold Format.read;simp only[tT,H_,AJ,Ia,hs];rw[hf,ai (by omega),ai (by omega),ar rfl]
theorem ahF{n:Nat}(hf:9218868437227405312<n % 9223372036854775808):∃s t,Ieee.double.read n=.nan s t:=by
 unfold Format.read;simp only[tT,H_,AJ,Ia];rw[ai (by omega),ai (by omega),ai (by omega)];exact⟨_,_,rfl⟩
theorem ahG(a b:Int)(c:Nat)(hc:0<c):compare (a*(c:Int)) (b*(c:Int))=compare a b:=by
 have hc':(0:Int)<(c:Int):=by omega
 rcases yo a b with h | h | h
 ·rw[vW h,vW (EU h hc')]
 ·rw[zn h,zn (by rw[h])]
 rw[vX h,vX (EU h hc')]
theorem Zu(s:Bool)(m:Nat)(p base:Int)(h1:-1074≤base)(h2:base≤p):signed s m (p-base).toNat*((2 ^ (base+1074).toNat:Nat):Int)=if s then -((m*2 ^ (p+1074).toNat:Nat):Int) else ((m*2 ^ (p+1074).toNat:Nat):Int):=by
 have e:m*2 ^ (p-base).toNat*2 ^ (base+1074).toNat=m*2 ^ (p+1074).toNat:=by
  rw[qW,← jy,show (p-base).toNat+(base+1074).toNat=(p+1074).toNat by omega]
 unfold signed;rw[ym]
 cases s
 ·simp only[ln,iJ];rw[← mG,e]
 simp only[iK];rw[pY,← mG,e]
theorem LH{n:Nat}(hn:n<18446744073709551616):sv n=if decide (9223372036854775808≤n)=true then -(rv (n % 9223372036854775808):Int) else (rv (n % 9223372036854775808):Int):=by
 unfold sv;by_cases h:9223372036854775808≤n
 ·rw[ai (by omega),bT h,ar rfl,show n % 9223372036854775808=n-9223372036854775808 by omega]
 rw[ar (by omega),bY h,ai (by decide),show n % 9223372036854775808=n by omega]
theorem LI{a b:Nat}(ha:a<18446744073709551616)(hb:b<18446744073709551616)(na:a % 9223372036854775808≤9218868437227405312)(nb:b % 9223372036854775808≤9218868437227405312) :
 Ieee.double.order a b=some (compare (sv a) (sv b)):=by
 unfold Format.order;rw[LH ha,LH hb];rcases wF na with na | na
 ·obtain⟨m,p,h1,h2,h3,-,-⟩:=Ii ha na;rw[h1];rcases wF nb with nb | nb
  ·obtain⟨m',p',k1,k2,k3,-,-⟩:=Ii hb nb;rw[k1];unfold Datum.order;simp only;have hc:=ahG (signed (decide (9223372036854775808≤a)) m (p-min p p').toNat) (signed (decide (9223372036854775808≤b)) m' (p'-min p p').toNat) (2 ^ (min p p'+1074).toNat) (jn (by omega));rw[Zu _ _ _ _ (by omega) (by omega),Zu _ _ _ _ (by omega) (by omega),h3,k3] at hc;rw[← hc]
  rw[Rf hb nb,nb];have:=Eh na;unfold Datum.order;simp only;generalize decide (9223372036854775808≤a)=s;generalize decide (9223372036854775808≤b)=t
  cases t
  ·simp only[ln,iJ];rw[vW (by split<;>omega)]
  simp only[iK];rw[vX (by split<;>omega)]
 rw[Rf ha na,na];rcases wF nb with nb | nb
 ·obtain⟨m',p',k1,k2,k3,-,-⟩:=Ii hb nb;rw[k1];have:=Eh nb;unfold Datum.order;simp only;generalize decide (9223372036854775808≤a)=s;generalize decide (9223372036854775808≤b)=t
  cases s
  ·simp only[ln,iJ];rw[vX (by split<;>omega)]
  simp only[iK];rw[vW (by split<;>omega)]
 rw[Rf hb nb,nb];unfold Datum.order;simp only;have:=ahE (show 0<9218868437227405312 by omega);generalize decide (9223372036854775808≤a)=s;generalize decide (9223372036854775808≤b)=t;generalize rv 9218868437227405312=x at this ⊢
 cases s<;>cases t<;>simp only[ln,iJ,iK]
 ·rw[zn rfl];rfl
 ·rw[vX (by omega)];rfl
 ·rw[vW (by omega)];rfl
 rw[zn rfl];rfl
theorem ahH{a b:Nat}(na:9218868437227405312<a % 9223372036854775808):Ieee.double.order a b=none:=by
 obtain⟨s,t,h⟩:=ahF na;unfold Format.order;rw[h];rfl
theorem exU(j:Nat):∃u:Nat,∀k,k=j→u=2 ^ k:=⟨2 ^ j,fun k h=>by rw[h]⟩
theorem Zv:∃u:Nat,∀k,k=1074→u=2 ^ k:=exU 1074
noncomputable def U1:Nat:=Classical.choose Zv
theorem Ij(k:Nat)(h:k=1074):2 ^ k=U1:=(wH Zv k h).symm
theorem LJ:0<U1:=by
 obtain⟨k,hk⟩:∃k,k=1074:=⟨_,rfl⟩;rw[← Ij k hk];exact jn (by decide)
theorem Zw(e t:Nat)(h1:4503599627370496≤t)(h2:t≤9007199254740992):rv (e*4503599627370496+t)=t*2 ^ e:=by
 unfold rv;rw[ai (by omega)];rcases wF h2 with h | rfl
 ·rw[show (e*4503599627370496+t) / 4503599627370496=e+1 by omega,show (e*4503599627370496+t) % 4503599627370496=t-4503599627370496 by omega,wG,show 4503599627370496+(t-4503599627370496)=t by omega]
 rw[show (e*4503599627370496+9007199254740992) / 4503599627370496=e+2 by omega,show (e*4503599627370496+9007199254740992) % 4503599627370496=0 by omega,show e+2-1=e+1 by omega,uO];omega
theorem Rg(neg:Bool)(r:Nat)(h:r<9223372036854775808):sv (Ieee.double.word neg r)=if neg then -(rv r:Int) else (rv r:Int):=by
 unfold sv Format.word;rw[tT]
 cases neg
 ·simp only[ln,iJ];rw[ar h]
 simp only[iK];rw[ai (by omega),show 9223372036854775808+r-9223372036854775808=r by omega]
theorem LK(neg:Bool)(r:Nat)(h:r<9223372036854775808):sm (Ieee.double.word neg r)=if neg then -(r:Int) else (r:Int):=by
 unfold sm Format.word;rw[tT]
 cases neg
 ·simp only[ln,iJ];rw[ar h]
 simp only[iK];rw[ai (by omega),show 9223372036854775808+r-9223372036854775808=r by omega]
theorem Zx(neg:Bool)(aM:Nat)(h0:aM≠0)(hL:aM.log2≤52):sv (Ieee.double.nearest neg aM 0)=if neg then -((aM*U1:Nat):Int) else ((aM*U1:Nat):Int):=by
 have hlt:=uR (n:=aM);have hge:=Jr h0;have hp:0<2 ^ (52-aM.log2):=jn (by omega);have ha:4503599627370496≤aM*2 ^ (52-aM.log2):=by
  have:=iu (2 ^ (52-aM.log2)) hge;rwa [← jy,show aM.log2+(52-aM.log2)=52 by omega,Ie] at this
 have hb:aM*2 ^ (52-aM.log2)<9007199254740992:=by
  have:=uS hlt hp;rwa [← jy,show aM.log2+1+(52-aM.log2)=53 by omega,tS] at this
 rw[Ic neg aM h0 hL,Rg _ _ (by omega),Zw _ _ ha (by omega),qW,← jy,Ij (52-aM.log2+(aM.log2+1022)) (by omega)]
theorem zq(neg:Bool)(t d:Nat)(hd2:d≤11)(h1:4503599627370496≤t)(h2:t≤9007199254740992):sv (Ieee.double.word neg ((d+1074)*4503599627370496+t))=if neg then -((t*2 ^ d*U1:Nat):Int) else ((t*2 ^ d*U1:Nat):Int):=by
 rw[Rg _ _ (by omega),Zw _ _ h1 h2,jy,← qW,Ij _ rfl]
structure Under (i:Int) (g rest:Nat):Prop where
 bits:g<18446744073709551616
 fin:g % 9223372036854775808<9218868437227405312
 val:sv g=(i-(rest:Int))*(U1:Int)
 top:∀f:Nat,sv f≤i*(U1:Int)→sv f≤sv g
theorem LL{i:Int}{g:Nat}(hb:g<18446744073709551616)(hf:g % 9223372036854775808<9218868437227405312)(h:sv g=i*(U1:Int)):Under i g 0:=
 ⟨hb,hf,by rw[h];simp,fun f hf=>by rw[h];exact hf⟩
theorem zr(neg:Bool)(r:Nat)(h:r<9223372036854775808):Ieee.double.word neg r % 9223372036854775808=r:=Zd r h neg
theorem Ei(neg:Bool)(r:Nat)(h:r<9223372036854775808):Ieee.double.word neg r<18446744073709551616:=by
 unfold Format.word;rw[tT];cases neg<;>simp<;>omega
theorem LM(i:Int)(h1:-9223372036854775808≤i)(h2:i≤9223372036854775807):Under i (fl i).1 (fl i).2:=by
 by_cases hz:i=0
 ·subst hz;have e1:fl 0=(0,0):=by decide
  rw[e1];exact LL (by decide) (by decide) (by simp[sv,rv])
 have hm0:i.natAbs≠0:=by omega
 by_cases hL:i.natAbs.log2≤52
 ·have hsh:sh i.natAbs=0:=by unfold sh;omega
  have hfl:fl i=(Ieee.double.nearest (decide (i<0)) i.natAbs 0,0):=by
   unfold fl;by_cases hi:0≤i
   ·have e:i.toNat=i.natAbs:=by omega
    rw[ar hi,e,hsh];simp only[zS,EM,qT,Nat.mod_one,bY (show ¬ i<0 by omega)]
   rw[ai hi,hsh];simp only[zS,EM,qT,yj,fF,bT (show i<0 by omega)]
  have hlt:=uR (n:=i.natAbs);have hp:0<2 ^ (52-i.natAbs.log2):=jn (by omega);have hb:i.natAbs*2 ^ (52-i.natAbs.log2)<9007199254740992:=by
   have:=uS hlt hp;rwa [← jy,show i.natAbs.log2+1+(52-i.natAbs.log2)=53 by omega,tS] at this
  have hs:=Zx (decide (i<0)) i.natAbs hm0 hL;have hr:(i.natAbs.log2+1022)*4503599627370496+i.natAbs*2 ^ (52-i.natAbs.log2)<9218868437227405312:=by omega
  rw[hfl];refine LL ?_ ?_ ?_
  ·rw[Ic _ _ hm0 hL];exact Ei _ _ (by omega)
  ·rw[Ic _ _ hm0 hL,zr _ _ (by omega)];exact hr
  show sv (Ieee.double.nearest (decide (i<0)) i.natAbs 0)=_;rw[hs,mG];by_cases hi:i<0
  ·rw[bT hi,ar rfl,← pY];congr 1;omega
  rw[bY hi,ai (by decide)];congr 1;omega
 obtain⟨d,hd⟩:∃d,i.natAbs.log2=52+d:=⟨i.natAbs.log2-52,by omega⟩;have hsh:sh i.natAbs=d:=by unfold sh;omega
 have hlt:=uR (n:=i.natAbs);have hge:=Jr hm0;have hd1:1≤d:=by omega
 have hd2:d≤11:=by
  rcases dH d 12 with h | h
  ·omega
  have:2 ^ 64≤2 ^ i.natAbs.log2:=lg (by omega) (by omega);have e:(2:Nat) ^ 64=18446744073709551616:=by decide
  omega
 have hp:0<2 ^ d:=jn (by omega);obtain⟨t,ht⟩:∃t,i.natAbs / 2 ^ d=t:=⟨_,rfl⟩;obtain⟨r,hr⟩:∃r,i.natAbs % 2 ^ d=r:=⟨_,rfl⟩;have kR:i.natAbs=t*2 ^ d+r:=by rw[← ht,← hr,nW];exact(sM _ _).symm
 have hrl:r<2 ^ d:=by rw[← hr];exact uT _ hp
 have ht1:4503599627370496≤t:=by
  rw[← ht,MV hp,← Ie,← jy,← hd];exact hge
 have ht2:t<9007199254740992:=by
  rw[← ht,zR hp,← tS,← jy,show 53+d=i.natAbs.log2+1 by omega];exact hlt
 have e1:(t+1)*2 ^ d=t*2 ^ d+2 ^ d:=Ch _ _;have hu1:=LJ;by_cases hmin:i=-9223372036854775808
 ·subst hmin;have e1:fl (-9223372036854775808)=(Ieee.double.word true ((11+1074)*4503599627370496+4503599627370496),0):=by kernel_rfl
  rw[e1];have hw:=Ei true ((11+1074)*4503599627370496+4503599627370496) (by omega);have hm:=zr true ((11+1074)*4503599627370496+4503599627370496) (by omega);refine LL hw (by rw[hm];omega) ?_;rw[show ((Ieee.double.word true ((11+1074)*4503599627370496+4503599627370496),0):Nat×Nat).1=Ieee.double.word true ((11+1074)*4503599627370496+4503599627370496) from rfl,zq true 4503599627370496 11 (by omega) (by omega) (by omega),ar rfl,mG,← pY];rfl
 have xO:d≤10:=by
  rcases dH d 11 with h | h
  ·omega
  have:2 ^ 63≤2 ^ i.natAbs.log2:=lg (by omega) (by omega);have e:(2:Nat) ^ 63=9223372036854775808:=by decide
  omega
 by_cases hi:0≤i
 ·have e:i.toNat=i.natAbs:=by omega
  have hfl:fl i=(Ieee.double.word false ((d+1074)*4503599627370496+t),r):=by
   unfold fl;rw[ar hi,e,hsh,ht,hr,Ig false t d hd1 xO ht1 (by omega)]
  have iP:=zq false t d hd2 ht1 (by omega);have Ik:=zq false (t+1) d hd2 (by omega) (by omega);rw[ai (by decide),mG] at iP Ik;rw[hfl];have hw:=Ei false ((d+1074)*4503599627370496+t) (by omega);have hm:=zr false ((d+1074)*4503599627370496+t) (by omega);refine⟨hw,by rw[hm];omega,?_,fun f hf=>?_⟩
  ·show sv (Ieee.double.word false ((d+1074)*4503599627370496+t))=_;rw[iP];congr 1;omega
  show sv f≤sv (Ieee.double.word false ((d+1074)*4503599627370496+t));rcases Int.lt_or_le (sv (Ieee.double.word false ((d+1074)*4503599627370496+t))) (sv f) with dC | hle
  ·rw[uw,LK _ _ (by omega),ai (by decide)] at dC;have h3:¬ sv f<sv (Ieee.double.word false ((d+1074)*4503599627370496+(t+1))):=by
    rw[uw,LK _ _ (by omega),ai (by decide)];omega
   rw[Ik] at h3;have h4:i*(U1:Int)<(((t+1)*2 ^ d:Nat):Int)*(U1:Int):=EU (by omega) (by omega);omega
  exact hle
 obtain⟨u,hu⟩:∃u,(i.natAbs+(2 ^ d-1)) / 2 ^ d=u:=⟨_,rfl⟩;have hu2:u=if r=0 then t else t+1:=by
  rw[← hu,kR,show t*2 ^ d+r+(2 ^ d-1)=(r+(2 ^ d-1))+t*2 ^ d by omega,Nat.add_mul_div_right _ _ hp];split
  ·rw[Cj (by omega)];omega
  rw[Nat.div_eq_of_lt_le (k:=1) (by omega) (by omega)];omega
 have xy:t≤u∧u≤t+1:=by rw[hu2];split<;>omega
 have hfl:fl i=(Ieee.double.word true ((d+1074)*4503599627370496+u),u*2 ^ d-i.natAbs):=by
  unfold fl;rw[ai hi,hsh,hu,Ig true u d hd1 xO (by omega) (by omega)]
 have Zp:i.natAbs≤u*2 ^ d:=by
  rw[hu2];split
  ·rename_i h;rw[h] at kR;omega
  omega
 have iP:=zq true u d hd2 (by omega) (by omega);rw[ar rfl,mG,← pY] at iP;rw[hfl];by_cases rD:r=0
 ·have xy:u=t:=by rw[hu2,ar rD]
  rw[xy] at iP Zp ⊢;have hz:t*2 ^ d-i.natAbs=0:=by rw[kR,rD];omega
  rw[hz];have hw:=Ei true ((d+1074)*4503599627370496+t) (by omega);have hm:=zr true ((d+1074)*4503599627370496+t) (by omega);exact LL hw (by rw[hm];omega) (by rw[show ((Ieee.double.word true ((d+1074)*4503599627370496+t),0):Nat×Nat).1=Ieee.double.word true ((d+1074)*4503599627370496+t) from rfl,iP];congr 1;omega)
 have xy:u=t+1:=by rw[hu2,ai rD]
 subst xy;have Ik:=zq true t d hd2 (by omega) (by omega);rw[ar rfl,mG,← pY] at Ik;have hw:=Ei true ((d+1074)*4503599627370496+(t+1)) (by omega);have hm:=zr true ((d+1074)*4503599627370496+(t+1)) (by omega);refine⟨hw,by rw[hm];omega,?_,fun f hf=>?_⟩
 ·show sv (Ieee.double.word true ((d+1074)*4503599627370496+(t+1)))=_;rw[iP];congr 1;simp only;omega
 show sv f≤sv (Ieee.double.word true ((d+1074)*4503599627370496+(t+1)));rcases Int.lt_or_le (sv (Ieee.double.word true ((d+1074)*4503599627370496+(t+1)))) (sv f) with dC | hle
 ·rw[uw,LK _ _ (by omega),ar rfl] at dC;have h3:¬ sv f<sv (Ieee.double.word true ((d+1074)*4503599627370496+t)):=by
   rw[uw,LK _ _ (by omega),ar rfl];omega
  rw[Ik] at h3;have h4:i*(U1:Int) < -((t*2 ^ d:Nat):Int)*(U1:Int):=EU (by omega) (by omega);omega
 exact hle
theorem Rh(neg:Bool)(aM:Nat)(h:aM.log2≤52∨∃t d,1≤d∧d≤10∧4503599627370496≤t∧t≤9007199254740992∧aM=t*2 ^ d)(hr:aM≤9223372036854775808)(hn:neg=false→aM<9223372036854775808) :
 Ieee.double.nearest neg aM 0<18446744073709551616∧Ieee.double.nearest neg aM 0 % 9223372036854775808<9218868437227405312 ∧
 sv (Ieee.double.nearest neg aM 0)=(if neg then -(aM:Int) else (aM:Int))*(U1:Int)∧floatToIntVal .f64 (Ieee.double.nearest neg aM 0) .i64=some (if neg then -(aM:Int) else (aM:Int)):=by
 by_cases h0:aM=0
 ·subst h0;have e:Ieee.double.nearest neg 0 0=Ieee.double.word neg 0:=by unfold Format.nearest;rw[ar rfl]
  rw[e];refine⟨Ei _ _ (by omega),by rw[zr _ _ (by omega)];omega,by rw[Rg _ _ (by omega),Re];cases neg<;>simp,?_⟩;have hr:Ieee.double.read (Ieee.double.word neg 0)=.number neg 0 (-1074):=by cases neg<;>decide
  exact Ef hr (by cases neg<;>decide) (by cases neg<;>simp) (by cases neg<;>simp)
 by_cases hL:aM.log2≤52
 ·obtain⟨a1,a2,-,-⟩:=Zo neg aM h0 hL _ rfl _ rfl;have hs:=Zx neg aM h0 hL;have hlt:=uR (n:=aM);have hp:0<2 ^ (52-aM.log2):=jn (by omega);have hb:aM*2 ^ (52-aM.log2)<9007199254740992:=by
   have:=uS hlt hp;rwa [← jy,show aM.log2+1+(52-aM.log2)=53 by omega,tS] at this
  have hm:=zr neg ((aM.log2+1022)*4503599627370496+aM*2 ^ (52-aM.log2)) (by omega);refine⟨a1,by rw[Ic _ _ h0 hL,hm];omega,?_,a2⟩;rw[hs,mG]
  cases neg
  ·simp only[ln,iJ]
  simp only[iK];rw[pY]
 obtain⟨t,d,hd1,hd2,ht1,ht2,rfl⟩:=h.resolve_left hL;rw[Ig neg t d hd1 hd2 ht1 ht2];have hs:=zq neg t d (by omega) ht1 ht2;have hm:=zr neg ((d+1074)*4503599627370496+t) (by omega);obtain⟨-,v2,v3,v4⟩:=Ih neg t d hd2 ht1 ht2 hr _ rfl _ rfl;refine⟨v2,by rw[hm];omega,?_,?_⟩
 ·rw[hs,mG]
  cases neg
  ·simp only[ln,iJ]
  simp only[iK];rw[pY]
 cases neg
 ·simp only[ln,iJ];exact((v4 rfl).2 (hn rfl)).1
 simp only[iK];exact(v3 rfl).1
theorem ahI(m q:Nat):Toward.down.cut false m q*2 ^ q≤m∧m<(Toward.down.cut false m q+1)*2 ^ q:=by
 have hc:Toward.down.cut false m q=m / 2 ^ q:=by
  unfold Toward.cut;simp only[Bool.false_and,zT,fF,Ib];rcases dH (m.log2+2) q with hq | hq
  ·have:=uR (n:=m);rw[JB (by omega),Cj (cU this (lg (by omega) (by omega))),Cj (cU this (lg (by omega) (by omega)))]
  rw[pW (by omega)]
 have hp:0<2 ^ q:=jn (by omega);rw[hc];exact⟨Nat.div_mul_le_self _ _,by rw[Ch];have:=sM m (2 ^ q);have:=uT m hp;rw[nW];omega⟩
theorem ahJ(m q:Nat):m≤Toward.down.cut true m q*2 ^ q∧Toward.down.cut true m q*2 ^ q<m+2 ^ q:=by
 have hp:0<2 ^ q:=jn (by omega);by_cases hq:m.log2+2<q
 ·have hlt:=uR (n:=m);have h1:m<2 ^ (m.log2+2):=cU hlt (lg (by omega) (by omega));have h2:m<2 ^ q:=cU hlt (lg (by omega) (by omega));have hc:Toward.down.cut true m q=(m != 0).toNat:=by
   unfold Toward.cut;simp only[sK,Ib,JB (show m.log2+2≤q by omega)];rw[Cj h1,Nat.mod_eq_of_lt h1,dg]
  rw[hc];by_cases h0:m=0
  ·subst h0;simp;exact hp
  have:(m != 0)=true:=by simpa using h0
  rw[this];simp only[Js,ng];omega
 have hc:Toward.down.cut true m q=m / 2 ^ q+(m % 2 ^ q != 0).toNat:=by
  unfold Toward.cut;simp only[sK,Ib,pW (show q≤m.log2+2 by omega)]
 rw[hc,jM];have h1:=sM m (2 ^ q);have h2:=uT m hp;rw[nW] at h1;by_cases h0:m % 2 ^ q=0
 ·have:(m % 2 ^ q != 0)=false:=by simp[h0]
  rw[this];simp only[zT,Nat.zero_mul];omega
 have:(m % 2 ^ q != 0)=true:=by simpa using h0
 rw[this];simp only[Js,ng];omega
def nR(f:Nat):Nat:=Ieee.double.write ((Ieee.double.read f).integral .down)
theorem Ri(c:Nat)(h:c<9007199254740992):c.log2≤52:=by
 by_cases h0:c=0
 ·subst h0;decide
 have:=(Nat.log2_lt h0 (k:=53)).2 (by rw[tS];exact h);omega
theorem ahK(f:Nat)(hf:f<18446744073709551616)(fin:f % 9223372036854775808<9218868437227405312)(hlo:-9223372036854775808*(U1:Int)≤sv f)(hhi:sv f<9223372036854775808*(U1:Int)) :
 ∃k:Int,nR f<18446744073709551616∧nR f % 9223372036854775808<9218868437227405312∧sv (nR f)=k*(U1:Int)∧floatToIntVal .f64 (nR f) .i64=some k∧k*(U1:Int)≤sv f∧sv f<(k+1)*(U1:Int):=by
 have hu:=LJ;obtain⟨m,p,h1,h2,h3,h4,h5⟩:=Ii hf fin;have iP:=LH hf;rw[← h3] at iP;generalize decide (9223372036854775808≤f)=s at h1 iP;unfold nR;rw[h1];unfold Datum.integral;simp only;unfold Format.write;simp only;rcases Int.lt_or_le p 0 with hp | hp
 ·obtain⟨q,rfl⟩:∃q:Nat,p=-(q:Int):=⟨(-p).toNat,by omega⟩;have e1:(-(q:Int)).toNat=0:=by omega
  have e2:(- -(q:Int)).toNat=q:=by omega
  rw[e1,e2,MT];obtain⟨P,hP⟩:∃P,2 ^ (-(q:Int)+1074).toNat=P:=⟨_,rfl⟩;have Zy:0<P:=by rw[← hP];exact jn (by omega)
  have hU:U1=2 ^ q*P:=by rw[← hP,← jy,Ij _ (by omega)]
  rw[hP] at iP;have hq:2 ^ 1≤2 ^ q:=lg (by omega) (by omega)
  cases s
  ·have hc:=ahI m q;obtain⟨c,hcc⟩:∃c,Toward.down.cut false m q=c:=⟨_,rfl⟩;rw[hcc] at hc ⊢;have hc2:c<9007199254740992:=by
    rcases dH c 9007199254740992 with h | h
    ·exact h
    have:=Nat.mul_le_mul h hq;omega
   obtain⟨w1,w2,w3,w4⟩:=Rh false c (.inl (Ri c hc2)) (by omega) (fun _=>by omega);simp only[ln,iJ] at w3 w4 iP;refine⟨c,w1,w2,w3,w4,?_,?_⟩
   ·rw[iP,hU,← mG];have:=iu P hc.1;rw[qW] at this;omega
   rw[iP,hU];have:=uS hc.2 Zy;rw[qW] at this;have e:((c:Int)+1)*((2 ^ q*P:Nat):Int)=(((c+1)*(2 ^ q*P):Nat):Int):=by rw[mG];rfl
   rw[e];omega
  have hc:=ahJ m q;obtain⟨c,hcc⟩:∃c,Toward.down.cut true m q=c:=⟨_,rfl⟩;rw[hcc] at hc ⊢;have hc2:c<9007199254740992:=by
   rcases dH c 9007199254740992 with h | h
   ·exact h
   have h3:=iu (2 ^ q) h;have:9007199254740991*2 ^ q+2 ^ q=9007199254740992*2 ^ q:=by omega
   have:=Nat.mul_le_mul_left 9007199254740991 hq;omega
  obtain⟨w1,w2,w3,w4⟩:=Rh true c (.inl (Ri c hc2)) (by omega) (fun h=>by cases h);simp only[iK] at w3 w4 iP;refine⟨-(c:Int),w1,w2,w3,w4,?_,?_⟩
  ·rw[iP,hU,pY,← mG];have:=iu P hc.1;rw[qW] at this;omega
  rw[iP,hU,Int.add_mul,pY,← mG,Int.one_mul];have:=uS hc.2 Zy;rw[qW,jM] at this;omega
 obtain⟨d,rfl⟩:∃d:Nat,p=(d:Int):=⟨p.toNat,by omega⟩;have e1:((d:Int)).toNat=d:=by omega
 have e2:(-(d:Int)).toNat=0:=by omega
 have e3:((d:Int)+1074).toNat=d+1074:=by omega
 have hm:=h5 (by omega);rw[e1,e2,Q8,ym];rw[e3,jy,← qW,Ij _ rfl,mG] at iP;obtain⟨x,hx⟩:∃x,m*2 ^ d=x:=⟨_,rfl⟩;rw[hx] at iP ⊢;have hx1:x≤9223372036854775808:=by
  cases s
  ·simp only[ln,iJ] at iP;rw[iP] at hhi;have:=Int.lt_of_mul_lt_mul_right hhi (by omega);omega
  simp only[iK] at iP;rw[iP,← pY] at hlo;have:=Int.le_of_mul_le_mul_right hlo (by omega);omega
 have hx2:s=false→x<9223372036854775808:=by
  intro e;subst e;simp only[ln,iJ] at iP;rw[iP] at hhi;have:=Int.lt_of_mul_lt_mul_right hhi (by omega);omega
 have hd:d≤11:=by
  rcases dH d 12 with h | h
  ·omega
  have h6:2 ^ 12≤2 ^ d:=lg (by omega) h;have h7:=Nat.mul_le_mul hm h6;have e12:(2:Nat) ^ 12=4096:=by decide
  rw[hx] at h7;omega
 have hform:x.log2≤52∨∃t d,1≤d∧d≤10∧4503599627370496≤t∧t≤9007199254740992∧x=t*2 ^ d:=by
  by_cases hd0:d=0
  ·subst hd0;refine .inl (Ri x ?_);rw[← hx];simp;omega
  by_cases ahL:d=11
  ·subst ahL;have e11:(2:Nat) ^ 11=2048:=by decide
   refine .inr ⟨9007199254740992,10,by omega,by omega,by omega,by omega,?_⟩;have e10:(2:Nat) ^ 10=1024:=by decide
   omega
  exact .inr ⟨m,d,by omega,by omega,hm,by omega,hx.symm⟩
 obtain⟨w1,w2,w3,w4⟩:=Rh s x hform hx1 hx2;refine⟨_,w1,w2,w3,w4,?_,?_⟩
 ·rw[iP];cases s
  ·simp only[ln,iJ];omega
  simp only[iK];rw[pY];omega
 rw[iP];cases s
 ·simp only[ln,iJ];rw[Int.add_mul,Int.one_mul];omega
 simp only[iK];rw[Int.add_mul,pY,Int.one_mul];omega
end
section
open Go.RowKit
section
variable {P:Program}
theorem zt(w:World)(dT sT ty elem:TypeId)(z g o dLen dCap:Nat)(a:Addr)(sLen sCap:Nat)(cs:List Value)
 (hu:P.underlying dT=some (.slice elem)) (hs:(P.info? elem).map (·.size)=some z) (hn:cs.length=Nat.min sLen dLen*z)
 (hsrc:∀j v,cs[j]?=some v→w.cell? (a.add j)=some v) (hc:∀j,j<cs.length→(w.cell? ⟨g,o+j,none⟩).isSome=true) (hf:∀j,j<cs.length→w.frozen? ⟨g,o+j,none⟩=false) (h1:∀v∈cs,v.oneCell'=true) :
 (Builtin.copy_ #[dT,sT] ty #[.slice (some ⟨g,o,none⟩) dLen dCap,.slice (some a) sLen sCap]).run P w=.ok (goInt (Nat.min sLen dLen)) (w.setCells g o cs):=by
 have hl:=run_loadCells_list (P:=P) w a cs hsrc;have hst:=run_storeCells_cells (P:=P) g o cs 0 w (by simpa using hc) (by simpa using hf) h1;simp only[fF] at hst
 cases hq:P.info? elem with
 | none=>simp[hq] at hs
 | some i =>
  have hi:i.size=z:=by simpa [hq] using hs
  simp[Builtin.copy_,wB hu,Builtin.lenOf,Builtin.firstCells,sizeOf,typeInfo,hq,hi,← hn,hl,hst]
end
theorem mP{w:World}{base z n c:Nat}{T:TypeId}{A:Option Addr}{xs:List Value}(h:w.ownsRow base T z (.slice A n c) n xs)(hn:0<n) :
 ∃g cur,A=some ⟨g,0,none⟩∧base≤g∧w.heap[g]?=some (.cells cur T (0,0))∧n≤c∧c≤maxLen∧cur.size=c*z∧cur.toList.take (n*z)=xs∧xs.length=n*z:=by
 obtain⟨hl,h0 | ⟨g,cap,cur,hv,hb,hg,hnc,hcm,hcs,ht⟩⟩:=h
 ·omega
 injection hv with h1 _ h3;subst h1 h3;exact⟨g,cur,rfl,hb,hg,hnc,hcm,hcs,ht,hl⟩
theorem mn{w:World}{g:Nat}{T:TypeId}{cur:Array Value}(hg:w.heap[g]?=some (.cells cur T (0,0)))(j:Nat)(hj:j<cur.size):(w.cell? ⟨g,j,none⟩).isSome=true∧w.frozen? ⟨g,j,none⟩=false:=by
 constructor
 ·rw[uM w g j cur T (0,0) hg,Array.getElem?_eq_getElem hj];rfl
 simp[World.frozen?,hg]
theorem vC{w:World}{g z n:Nat}{T:TypeId}{cur:Array Value}{xs:List Value}(hg:w.heap[g]?=some (.cells cur T (0,0)))(ht:cur.toList.take (n*z)=xs)(j:Nat)(v:Value)(hj:xs[j]?=some v):w.cell? ⟨g,j,none⟩=some v:=by
 rw[uM w g j cur T (0,0) hg,← pg];rw[← ht,Cn] at hj;split at hj
 ·exact hj
 cases hj
theorem Gd{w:World}{base z n c g:Nat}{T:TypeId}{cur:Array Value}{xs:List Value}(hb:base≤g)(hg:w.heap[g]?=some (.cells cur T (0,0)))(hnc:n≤c)(hcm:c≤maxLen)(hcs:cur.size=c*z)(ht:cur.toList.take (n*z)=xs)(hl:xs.length=n*z):w.ownsRow base T z (.slice (some ⟨g,0,none⟩) n c) n xs:=
 ⟨hl,.inr ⟨g,c,cur,rfl,hb,hg,hnc,hcm,hcs,ht⟩⟩
theorem xE{w:World}{g o:Nat}{T:TypeId}{cur:Array Value}(hg:w.heap[g]?=some (.cells cur T (0,0)))(vs:List Value)(h:o+vs.length≤cur.size) :
 ∃cur':Array Value,(w.setCells g o vs).heap[g]?=some (.cells cur' T (0,0))∧cur'.size=cur.size∧cur'.toList=cur.toList.take o++vs++cur.toList.drop (o+vs.length):=
 ⟨_,Nb g T vs w o cur hg h,by simp;omega,by simp⟩
theorem Zz{α:Type}(l vs r:List α)(o k:Nat)(ho:o≤l.length)(hk:k=o+vs.length):(l.take o++vs++r).take k=l.take o++vs:=by
 rw[EW];simp;omega
theorem ZA{w:World}{base z n c g:Nat}{T:TypeId}{xs vs:List Value}(h:w.ownsRow base T z (.slice (some ⟨g,0,none⟩) n c) n xs)(i:Nat)(hi:i<n)(hroom:n+1≤c)(hz:vs.length=z) :
 ((w.setCells g ((i+1)*z) (xs.drop (i*z))).setCells g (i*z) vs).ownsRow base T z (.slice (some ⟨g,0,none⟩) (n+1) c) (n+1) (xs.take (i*z)++vs++xs.drop (i*z)):=by
 obtain⟨g',cur,hA,hb,hg,hnc,hcm,hcs,ht,hl⟩:=mP h (by omega);injection hA with hA;injection hA with hA _;subst hA;have h1:(i+1)*z≤n*z:=iu _ hi;have h2:(n+1)*z≤c*z:=iu _ hroom;have h3:(i+1)*z=i*z+z:=by rw[jM,ng]
 have h4:(n+1)*z=n*z+z:=by rw[jM,ng]
 have hd:(xs.drop (i*z)).length=n*z-i*z:=by rw[iI,hl]
 obtain⟨c1,hg1,hs1,e1⟩:=xE (o:=(i+1)*z) hg (xs.drop (i*z)) (by rw[hd];omega);obtain⟨c2,hg2,hs2,e2⟩:=xE (o:=i*z) hg1 vs (by rw[hz,hs1,hcs];omega);have hcl:cur.toList.length=c*z:=by simpa using hcs
 have Ej:cur.toList.take (i*z)=xs.take (i*z):=by rw[← ht,List.take_take,pW (by omega)]
 have hc1:c1.toList.take (i*z)=xs.take (i*z):=by
  rw[e1,mE,List.take_append_of_le_length (by rw[eD];omega),List.take_take,pW (by omega),Ej]
 have ahM:(c1.toList.drop (i*z+z)).take (n*z-i*z)=xs.drop (i*z):=by
  rw[e1,← h3,mE,List.drop_left' (by rw[eD];omega),EW hd]
 refine Gd hb hg2 hroom hcm (by rw[hs2,hs1,hcs]) ?_ ?_
 ·rw[e2,hz,hc1];have hl2:(xs.take (i*z)++vs).length=i*z+z:=by rw[bD,eD,hz];omega
  rw[h4,show n*z+z=(i*z+z)+(n*z-i*z) by omega,← hl2,List.take_length_add_append,hl2,ahM]
 rw[bD,bD,eD,hz,hd];omega
theorem ZB{w:World}{base z n i G N:Nat}{T:TypeId}{ROW:Array Value}{xs vs:List Value}(hN:w.heap[N]?=some (.cells ROW T (0,0)))(hb:base≤N)(hs:ROW.size=G*z)(ht:ROW.toList.take (i*z)=xs.take (i*z))(hl:xs.length=n*z)(hz:vs.length=z)(hi:i<n)(hG:n+1≤G)(xP:G≤maxLen) :
 ((w.setCells N (i*z) vs).drew.setCells N ((i+1)*z) (xs.drop (i*z))).ownsRow base T z (.slice (some ⟨N,0,none⟩) (n+1) G) (n+1) (xs.take (i*z)++vs++xs.drop (i*z)):=by
 have h1:(i+1)*z≤n*z:=iu _ hi;have h2:(n+1)*z≤G*z:=iu _ hG;have h3:(i+1)*z=i*z+z:=by rw[jM,ng]
 have h4:(n+1)*z=n*z+z:=by rw[jM,ng]
 have hd:(xs.drop (i*z)).length=n*z-i*z:=by rw[iI,hl]
 obtain⟨c1,hg1,hs1,e1⟩:=xE (o:=i*z) hN vs (by rw[hz,hs];omega);obtain⟨c2,hg2,hs2,e2⟩:=xE (w:=(w.setCells N (i*z) vs).drew) (o:=(i+1)*z) hg1 (xs.drop (i*z)) (by rw[hd,hs1,hs];omega);have hcl:ROW.toList.length=G*z:=by simpa using hs
 have hc1:c1.toList.take ((i+1)*z)=xs.take (i*z)++vs:=by
  rw[e1,Zz _ _ _ _ _ (by omega) (by omega),ht]
 refine Gd hb hg2 hG xP (by rw[hs2,hs1,hs]) ?_ ?_
 ·rw[e2,Zz _ _ _ _ _ (by rw[ye,hs1,hs];omega) (by rw[hd];omega),hc1]
 rw[bD,bD,eD,hz,hd];omega
end
section
open Go.RowKit
section
variable {P:Program} {ops:Array Oper} {a:Act}
theorem LN{S:World→Prop}{ty t:TypeId}{x:Operand}{d:Option Tmp}{p:String}{af:Array Edge}{g o:Nat}{c:Cv}{td:TypeDesc}(hu:P.underlying ty=some td)(hd:td.isRow=true)(hx:a.eval x=.pointer (some ⟨g,o,none⟩))(hi:(P.info? ty).map (·.size)=some 5)
 (hget:∀w,S w→∀j v,c.cells.toList[j]?=some v→w.cell? ⟨g,o+j,none⟩=some v):YieldsIf P ops S ⟨d,.load ty x,t,p,af,none⟩ c.agg a:=
 yieldsIf_load_mid (by simp[Region.wanted]) ty x rfl g o hx c.cells.toList td (fun w hS j v hv=>hget w hS j v hv) hu hd hi
end
section
variable {P:Program} {ops:Array Oper} {Q:Exit→Act→World→Prop} {a:Act} {w:World} {K:Act→World→Prop} {E:Prop}
theorem ahN(w:World)(g:Nat)(cs:Array Value):w.grownBy (w.setRow g cs) (some g):=
 ⟨rfl,rfl,rfl,by simp[World.setRow],fun k _ hk=>by
  have:¬ g=k:=fun e=>hk (by rw[e])
  simp[World.setRow,BX,this]⟩
theorem Blk.ahO{w:World}{g:Nat}{t:TypeId}{cs:Array Value}(h:Blk w g t cs)(cs':Array Value):Blk (w.setRow g cs') g t cs':=by
 unfold Blk at h ⊢;simp[World.setRow,BX,h]
theorem ahP{ty t:TypeId}{x y:Operand}{p:String}{af:Array Edge}{g n:Nat}{cells old:Array Value}(hx:a.eval x=.pointer (some ⟨g,0,none⟩))(hy:a.eval y=.agg cells)(hB:Blk w g ty old)(hi:(P.info? ty).map (·.size)=some n)
 (hold:old.size=n) (hn:cells.size=n) (h1:cells.all (·.oneCell')=true)
 (h:∀w',Blk w' g ty cells→w.grownBy w' (some g)→w'.heap.size=w.heap.size→K a w'):if Region.wanted ⟨none,.store ty x y,t,p,af,none⟩ (yielded ops a.tmps)=true then Oper.wp P ⟨none,.store ty x y,t,p,af,none⟩ a w K Q else E:=by
 rw[ar (by simp[Region.wanted])];exact wp_store_row ty x y rfl g cells hx hy ty old hB (by rw[hn];exact hi) (by omega) h1 (h _ (hB.ahO cells) (ahN w g cells) (by simp[World.setRow]))
end
abbrev LP(ck cl ch cx:Cv):Array Value:=#[.int .i64 ck.k,.int .u64 ck.n,.slice ck.aB ck.nB ck.cB,.slice ck.aL ck.nL ck.cL,.slice ck.aF ck.nF ck.cF,.int .i64 cl.k,.int .u64 cl.n,.slice cl.aB cl.nB cl.cB,.slice cl.aL cl.nL cl.cL,.slice cl.aF cl.nF cl.cF,.int .i64 ch.k,.int .u64 ch.n,.slice ch.aB ch.nB ch.cB,.slice ch.aL ch.nL ch.cL,.slice ch.aF ch.nF ch.cF,.int .i64 cx.k,.int .u64 cx.n,.slice cx.aB cx.nB cx.cB,.slice cx.aL cx.nL cx.cL,.slice cx.aF cx.nF cx.cF]
abbrev LQ:Array Value:=#[.int .i64 0,.int .u64 0,.slice none 0 0,.slice none 0 0,.slice none 0 0,.int .i64 0,.int .u64 0,.slice none 0 0,.slice none 0 0,.slice none 0 0,.int .i64 0,.int .u64 0,.slice none 0 0,.slice none 0 0,.slice none 0 0,.int .i64 0,.int .u64 0,.slice none 0 0,.slice none 0 0,.slice none 0 0]
theorem LR:(prog.info? 27).map (·.size)=some 5:=by kernel_rfl
theorem ahQ:(prog.info? 85).map (·.size)=some 20:=by kernel_rfl
theorem ahR(ck cl ch cx:Cv):(LP ck cl ch cx).all (·.oneCell')=true:=by simp[LP,Value.oneCell']
theorem ahS{w:World}{g:Nat}{t:TypeId}{ck cl ch cx:Cv}{a b c d:V}(h:Blk w g t (LP ck cl ch cx))(h1:In w a ck)(h2:In w b cl)(h3:In w c ch)(h4:In w d cx):InL w (some ⟨g,0,none⟩) 4 [a,b,c,d]:=by
 have hlt:=h.lt;unfold InL In;rw[IsV];refine⟨rfl,rfl,rfl,rfl,rfl,by decide,by decide,by decide,by simp,by simp,by simp,by simp,by simp,by simp,⟨rfl,fun h=>by simp at h⟩,fun i hi=>?_,fun i hi=>by simp at hi⟩;have hi4:i<4:=hi;have hj3:i=0∨i=1∨i=2∨i=3:=by omega
 rcases hj3 with rfl | rfl | rfl | rfl
 ·exact⟨g,0,ck,rfl,⟨⟨h.cell 0,aS _,hlt⟩,⟨h.cell 1,aS _,hlt⟩,⟨h.cell 2,aS _,hlt⟩,⟨h.cell 3,aS _,hlt⟩,⟨h.cell 4,aS _,hlt⟩⟩,h1⟩
 ·exact⟨g,0,cl,rfl,⟨⟨h.cell 5,aS _,hlt⟩,⟨h.cell 6,aS _,hlt⟩,⟨h.cell 7,aS _,hlt⟩,⟨h.cell 8,aS _,hlt⟩,⟨h.cell 9,aS _,hlt⟩⟩,h2⟩
 ·exact⟨g,0,ch,rfl,⟨⟨h.cell 10,aS _,hlt⟩,⟨h.cell 11,aS _,hlt⟩,⟨h.cell 12,aS _,hlt⟩,⟨h.cell 13,aS _,hlt⟩,⟨h.cell 14,aS _,hlt⟩⟩,h3⟩
 exact⟨g,0,cx,rfl,⟨⟨h.cell 15,aS _,hlt⟩,⟨h.cell 16,aS _,hlt⟩,⟨h.cell 17,aS _,hlt⟩,⟨h.cell 18,aS _,hlt⟩,⟨h.cell 19,aS _,hlt⟩⟩,h4⟩
def vz(w:World)(A:Option Addr)(l:List Rq):Prop:=∀i (hi:i<l.length),∃(bk o:Nat) (ck cl ch cx:Cv),A=some ⟨bk,o,none⟩∧bk<w.heap.size ∧
 (∀k v,(cP l[i].bp l[i].aD l[i].index l[i].path l[i].unique ck cl ch cx l[i].n)[k]?=some v→w.cell? ⟨bk,o+i*26+k,none⟩=some v)∧In w l[i].key ck∧In w l[i].low cl∧In w l[i].high ch∧In w l[i].doc cx
theorem vz.grow{w w':World}{A:Option Addr}{l:List Rq}(h:vz w A l)(hg:Grow w w'):vz w' A l:=fun i hi=>by
 obtain⟨bk,o,ck,cl,ch,cx,ha,hb,hc,h1,h2,h3,h4⟩:=h i hi;exact⟨bk,o,ck,cl,ch,cx,ha,cU hb hg.size,fun k v hv=>(hg.below.cell (p:=⟨bk,_,none⟩) hb).trans (hc k v hv),h1.grow hg,h2.grow hg,h3.grow hg,h4.grow hg⟩
def qM(l:List Rq):Nat:=(l.map fun q=>([q.key,q.low,q.high,q.doc].map V.count).sum).sum
theorem ZC(l:List Rq)(m:Nat)(h:m<l.length):qM (l.take (m+1))=qM (l.take m)+([l[m].key,l[m].low,l[m].high,l[m].doc].map V.count).sum:=CJ (fun q:Rq=>([q.key,q.low,q.high,q.doc].map V.count).sum) l m h
theorem ZE(l:List Rq)(m:Nat):qM (l.take m)≤qM l:=Aa (fun q:Rq=>([q.key,q.low,q.high,q.doc].map V.count).sum) l m
theorem ahT{l:List Rq}{q:Rq}(h:q∈l):q.key.count+q.low.count+q.high.count+q.doc.count≤qM l:=by
 obtain⟨i,hi,rfl⟩:=sJ.1 h;have h1:=ZC l i hi;have h2:=ZE l (i+1);simp only[eW,mZ,pc,Cf] at h1;omega
theorem ZF:∀(l:List Rq),4*l.length≤qM l
 | []=>by simp[qM]
 | q::r=>by
  have ih:=ZF r;have h1:=Ab q.key;have h2:=Ab q.low;have h3:=Ab q.high;have h4:=Ab q.doc;simp only[qM,eW,mZ,pc,Cf,aU] at ih ⊢;omega
theorem ahU{d n:Int}{c i p:ByteArray}{u:Bool}{ck cl ch cx:Cv}{j:Nat}{v:Value}(h:ck.cells.toList[j]?=some v):(cP d c i p u ck cl ch cx n)[5+j]?=some v:=by
 rcases j with _ | _ | _ | _ | _ | j
 ·exact h
 ·exact h
 ·exact h
 ·exact h
 ·exact h
 simp at h
theorem ahV{d n:Int}{c i p:ByteArray}{u:Bool}{ck cl ch cx:Cv}{j:Nat}{v:Value}(h:cl.cells.toList[j]?=some v):(cP d c i p u ck cl ch cx n)[10+j]?=some v:=by
 rcases j with _ | _ | _ | _ | _ | j
 ·exact h
 ·exact h
 ·exact h
 ·exact h
 ·exact h
 simp at h
theorem ahW{d n:Int}{c i p:ByteArray}{u:Bool}{ck cl ch cx:Cv}{j:Nat}{v:Value}(h:ch.cells.toList[j]?=some v):(cP d c i p u ck cl ch cx n)[15+j]?=some v:=by
 rcases j with _ | _ | _ | _ | _ | j
 ·exact h
 ·exact h
 ·exact h
 ·exact h
 ·exact h
 simp at h
theorem ahX{d n:Int}{c i p:ByteArray}{u:Bool}{ck cl ch cx:Cv}{j:Nat}{v:Value}(h:cx.cells.toList[j]?=some v):(cP d c i p u ck cl ch cx n)[20+j]?=some v:=by
 rcases j with _ | _ | _ | _ | _ | j
 ·exact h
 ·exact h
 ·exact h
 ·exact h
 ·exact h
 simp at h
theorem ahY(l:List Rq)(A:Option Addr)(cap:Nat)(w:World)(hq:vz w A l)(hl:l.length≤140737488355328) :
 Calls prog 16 #[.slice A l.length cap] w fun e w'=>e=.returned (.bool (decide (20000≤qM l)))∧Grow w w':=by
 have HQ:=aa hq;clear hq;go_enter func16,ntmps16;go_wp2_with fail;go_loopg [3,4] (l.length+1) (fun gk t i wr=>∃(m:Nat) (T:Int),m≤l.length∧gk+m=l.length+1∧i=.int .i64 m∧t=.int .i64 T∧1≤T∧T≤20000∧T+(qM (l.take m):Nat)=20000∧Grow w wr);exact⟨0,20000,by omega,by omega,rfl,rfl,by omega,by omega,by simp[qM],ah w⟩;rename World=>w1;obtain⟨m,T,hm,hg,rfl,rfl,hT0,E9,qa,hw⟩:=hrel;have qp:=aa hw;have fV:=aa qa;clear qa;obtain⟨gk0,rfl⟩:∃g,gk=g+1:=⟨gk-1,by omega⟩;by_cases ig:m<l.length
 ·have h1:=ZC l m ig;have h2:=ZE l (m+1);rw[h1] at h2;have ZG:=HQ.o.grow hw m ig;obtain⟨q,ZH⟩:∃q,l[m]=q:=⟨_,rfl⟩;rw[ZH] at ZG h1 h2;obtain⟨g,o,ck,cl,ch,cx,rfl,hgl,hcell,h3,h4,h5,h6⟩:=ZG;have Rj:=aa h2;have ZI:=aa h1;have HC:=aa (fun(w':World) (hg':Grow w1 w') k v (hv:(cP q.bp q.aD q.index q.path q.unique ck cl ch cx q.n)[k]?=some v)=>(hg'.below.cell (p:=⟨g,o+m*26+k,none⟩) hgl).trans (hcell k v hv));have H1:=aa h3;have H2:=aa h4;have H3:=aa h5;have H4:=aa h6;clear h1 h2 h3 h4 h5 h6 hcell ZH hw;go_wp2_with fail;refine dN ?_;refine dO (S:=fun W=>∀k v,(cP q.bp q.aD q.index q.path q.unique ck cl ch cx q.n)[k]?=some v→W.cell? ⟨g,o+m*26+k,none⟩=some v) (by kernel_rfl) (HC.o _ (ah _).drew) (fun hHeld=>?_)
  refine aj 0 ?_;refine aj 1 ?_;refine aj 2 ?_;refine aj 3 ?_;refine pq (i:=4) (v:=ck.agg) (by simp only[uV,uW,uX];rfl) (by kernel_rfl) (by kernel_rfl) (by kernel_rfl) (fun _ _ _ h=>h) (LN (g:=g) (o:=o+m*26+5) (c:=ck) underlying27 rfl rfl LR (fun w' hS j v hv=>by
   have:=hS (5+j) v (ahU hv);rwa [← lh] at this)) (by assumption) ?_
  try simp only[ak]
  refine aj 5 ?_;refine aj 6 ?_;refine aj 7 ?_;refine aj 8 ?_;refine pq (i:=9) (v:=cl.agg) (by simp only[uV,uW,uX];rfl) (by kernel_rfl) (by kernel_rfl) (by kernel_rfl) (fun _ _ _ h=>h) (LN (g:=g) (o:=o+m*26+10) (c:=cl) underlying27 rfl rfl LR (fun w' hS j v hv=>by
   have:=hS (10+j) v (ahV hv);rwa [← lh] at this)) (by assumption) ?_
  try simp only[ak]
  refine aj 10 ?_;refine aj 11 ?_;refine aj 12 ?_;refine aj 13 ?_;refine pq (i:=14) (v:=ch.agg) (by simp only[uV,uW,uX];rfl) (by kernel_rfl) (by kernel_rfl) (by kernel_rfl) (fun _ _ _ h=>h) (LN (g:=g) (o:=o+m*26+15) (c:=ch) underlying27 rfl rfl LR (fun w' hS j v hv=>by
   have:=hS (15+j) v (ahW hv);rwa [← lh] at this)) (by assumption) ?_
  try simp only[ak]
  refine aj 15 ?_;refine aj 16 ?_;refine aj 17 ?_;refine aj 18 ?_;refine pq (i:=19) (v:=cx.agg) (by simp only[uV,uW,uX];rfl) (by kernel_rfl) (by kernel_rfl) (by kernel_rfl) (fun _ _ _ h=>h) (LN (g:=g) (o:=o+m*26+20) (c:=cx) underlying27 rfl rfl LR (fun w' hS j v hv=>by
   have:=hS (20+j) v (ahX hv);rwa [← lh] at this)) (by assumption) ?_
  try simp only[ak]
  refine aj 20 ?_;refine aR 21 (fun K hK=>?_);replace hK:=aa hK;go_simp;have HG2:=aa (((ah w1).alloc (.cells LQ 85)).drew);have eV:=aa (show Blk (w1.alloc (.cells LQ 85)).drew w1.heap.size 85 LQ from aH w1 _ _);generalize (w1.alloc (.cells LQ 85)).drew=w2 at HG2 eV ⊢;refine aV hK (HC.o _ HG2.o) (fun hHeld=>?_);clear hK K;refine aR 22 (fun K hK=>?_);replace hK:=aa hK;refine ahP (g:=w1.heap.size) (n:=20) (cells:=LP ck cl ch cx) rfl rfl eV.o ahQ rfl rfl (ahR _ _ _ _) (fun w3 fR hg3 hz3=>?_);have aJ:=aa (show Grow w1 w3 from HG2.o.grown hg3 (fun k e=>by injection e with e;omega));have HL:=aa (show InL w3 (some ⟨w1.heap.size,0,none⟩) 4 [q.key,q.low,q.high,q.doc] from ahS fR (H1.o.grow aJ.o) (H2.o.grow aJ.o) (H3.o.grow aJ.o) (H4.o.grow aJ.o))
  refine hK.out _ _ (HC.o _ aJ.o) (fun hHeld=>?_);clear hK K fR hg3 hz3 HG2 eV
  try simp only[ak]
  refine cz ?_;clear hHeld;obtain⟨L,hL⟩:∃L,[q.key,q.low,q.high,q.doc]=L:=⟨_,rfl⟩;have hL4:L.length=4:=by rw[← hL];rfl
  rw[hL] at HL Rj ZI;have ZJ:=aa hL4;clear hL hL4;go_wp2_with fail;go_loopg [3,6] 5 (fun gk t i w4=>∃(j:Nat) (T':Int),j≤4∧gk+j=5∧i=.int .i64 j∧t=.int .i64 T'∧1≤T'∧T'≤20000∧T'+((((L.take j).map V.count).sum:Nat):Int)=T∧Grow w3 w4);exact⟨0,T,by omega,by omega,rfl,rfl,by omega,by omega,by simp,ah w3⟩;obtain⟨j,T',hj,hg,rfl,rfl,ama,amb,ZK,hw⟩:=hrel;have HW:=aa hw;have Rk:=aa ZK;clear ZK;by_cases hlt:j<4
  ·obtain⟨gk',rfl⟩:=bP gk (by omega);have hlt':j<L.length:=by rw[ZJ.o];exact hlt
   obtain⟨v,hv⟩:∃v,L[j]=v:=⟨_,rfl⟩;obtain⟨bk,o2,x,ha,hbk,e0,e1,e2,e3,e4,hx⟩:=In.fJ (HL.o.grow hw) j hlt';obtain⟨rfl,rfl⟩:w1.heap.size=bk∧0=o2:=by simpa using ha
   simp only[dg] at e0 e1 e2 e3 e4;rw[hv] at hx;have hs:=CJ V.count L j hlt';rw[hv] at hs;have HS:=aa hs;have hle:=Aa V.count L (j+1);rw[hs] at hle;have vS:=aa hle;have CL:=Ab v;have fP:=aa (T_ v T' wr x (by omega) (by omega) hx);clear hw hx hs hle ha hbk hv hlt';go_wp2_with fail;refine fP.o.mono ?_;rintro e w5 ⟨r,rfl,hr,hb2⟩;have aO:=aa hb2;clear hb2;by_cases dC:((v.count:Nat):Int)<T'
   ·have hd:decide (((v.count:Nat):Int)<T')=true:=bT dC;have HR:=aa (hr dC);clear hr;go_wp2_with fail;go_roundg gk';have h1:=HR.o;have h2:=Rk.o;have h3:=HS.o;exact⟨j+1,r,by omega,by omega,by go_num,rfl,by omega,by omega,by rw[h3];push_cast;omega,HW.o.trans aO.o⟩;omega
   have hd:decide (((v.count:Nat):Int)<T')=false:=bY dC;clear hr;go_wp2_with fail;go_ret;have h2:=Rk.o;have h3:=vS.o;have h4:=fV.o;have h5:=Rj.o;exact⟨dm (bT (by omega)).symm,qp.o.trans (aJ.o.trans (HW.o.trans aO.o))⟩
  obtain rfl:j=4:=by omega
  have h2:=Rk.o;rw[show L.take 4=L from pV (by rw[ZJ.o];omega)] at h2;have H2':=aa h2;clear hw h2;go_wp2_with fail;go_roundg gk0;have h2:=H2'.o;have h4:=fV.o;have h5:=Rj.o;have h6:=ZI.o;exact⟨m+1,T',by omega,by omega,by go_num,rfl,by omega,by omega,by omega,qp.o.trans (aJ.o.trans HW.o)⟩;omega
 obtain rfl:m=l.length:=by omega
 have h2:=fV.o;rw[fC] at h2;have H2:=aa h2;clear h2 hw;go_wp2_with fail;go_ret;exact⟨dm (bY (by have:=H2.o;omega)).symm,qp.o⟩
end
section
open Go.RowKit Go.Shelf
theorem LS{w w':World}{r:Option Nat}(h:w.drew.grownBy w' r):w.grownBy w' r:=⟨h.os,h.tape,h.output,h.size,h.block⟩
theorem Rl{A:Option Addr}{m n c:Nat}(h:m=n):Ending.returned (.slice A m c)=.returned (.slice A n c):=by rw[h]
theorem mq:prog.underlying 42=some (.slice 48):=by kernel_rfl
theorem Gw:(prog.info? 48).map (fun i=>(i.zero,i.size,i.bytes))=some (some (.agg #[.string ⟨#[]⟩,.slice none 0 0,.slice none 0 0]),3,64):=by kernel_rfl
theorem ahZ(n:Nat)(A:Option Addr)(cap:Nat)(news:List Value)(w:World)(hr:Reads (bE w 0 w.heap.size) 3 A n news)(h1:∀u∈news,u.oneCell'=true)(hn:n≤1000000000000) :
 Calls prog 38 #[.slice A n cap] w fun e w'=>∃A' c',e=.returned (.slice A' n c')∧w'.ownsRow w.heap.size 48 3 (.slice A' n c') n news∧Grow w w':=by
 rcases A with _ | a
 ·have h0:n=0:=by
   rcases uN n with h | h
   ·exact h
   obtain⟨bk,o,e,_⟩:=hr.2 h;cases e
  subst h0;have hx:news=[]:=j4 (by simpa using hr.1);subst hx;have he:=fun w=>Lib.run_eql_slice_nil (P:=prog) w 42 48 none 0 cap 0 0 mq
  go_enter func38,ntmps38;go_wp2_with fail;go_ret;exact⟨none,0,rfl,iH _ _ _ _,ah w⟩
 obtain⟨i0,hi0,hz0,hz1,hz2⟩:=info_parts Gw;have fX:=aa hi0;have fY:=aa hz0;have fZ:=aa hz1;have f_:=aa hz2;have HS:=aa (ej (P:=prog) (c:=cap) mq (dW (eO ((ah w).alloc (.cells #[] 48)).below (av _) (av _) (av _)) hr) h1);have he:=fun w=>Lib.run_eql_slice_nil (P:=prog) w 42 48 (some a) n cap 0 0 mq
 clear hr h1 hi0 hz0 hz1 hz2;go_enter func38,ntmps38;go_wp2_with (at_builtin;refine sO rfl (.tmp 5) (.tmp 6) 42 42 rfl w.heap.size 48 i0 _ 3 64 mq fX.o fY.o fZ.o f_.o rfl (.slice (some ⟨w.heap.size,0,none⟩) 0 0) 0 [] rfl (qU w #[] 0 (av _) (by simp[maxLen]) rfl) _ n news rfl HS.o (by omega) (by simp only[maxLen];omega) (by simp) ?_;intro A3 c3 w3 gA pP ux;rw[dg,mF] at gA;have g_:=aa gA;have aJ:=aa (((ah w).alloc (.cells #[] 48)).grown pP (fun k hk=>by have hk2:w.heap.size=k:=(by simpa [Value.ownBlock] using hk);omega));clear gA pP ux);go_ret;exact⟨A3,c3,Rl (by omega),g_.o,aJ.o⟩
theorem tU:prog.underlying 46=some (.slice 64):=by kernel_rfl
theorem Pz:(prog.info? 64).map (fun i=>(i.zero,i.size,i.bytes))=some (some (.agg #[.string ⟨#[]⟩,.string ⟨#[]⟩,.bool false]),3,40):=by kernel_rfl
theorem ah0(n:Nat)(A:Option Addr)(cap:Nat)(news:List Value)(w:World)(hr:Reads (bE w 0 w.heap.size) 3 A n news)(h1:∀u∈news,u.oneCell'=true)(hn:n≤1000000000000) :
 Calls prog 40 #[.slice A n cap] w fun e w'=>∃A' c',e=.returned (.slice A' n c')∧w'.ownsRow w.heap.size 64 3 (.slice A' n c') n news∧Grow w w':=by
 rcases A with _ | a
 ·have h0:n=0:=by
   rcases uN n with h | h
   ·exact h
   obtain⟨bk,o,e,_⟩:=hr.2 h;cases e
  subst h0;have hx:news=[]:=j4 (by simpa using hr.1);subst hx;have he:=fun w=>Lib.run_eql_slice_nil (P:=prog) w 46 64 none 0 cap 0 0 tU
  go_enter func40,ntmps40;go_wp2_with fail;go_ret;exact⟨none,0,rfl,iH _ _ _ _,ah w⟩
 obtain⟨i0,hi0,hz0,hz1,hz2⟩:=info_parts Pz;have fX:=aa hi0;have fY:=aa hz0;have fZ:=aa hz1;have f_:=aa hz2;have HS:=aa (ej (P:=prog) (c:=cap) tU (dW (eO ((ah w).alloc (.cells #[] 64)).below (av _) (av _) (av _)) hr) h1);have he:=fun w=>Lib.run_eql_slice_nil (P:=prog) w 46 64 (some a) n cap 0 0 tU
 clear hr h1 hi0 hz0 hz1 hz2;go_enter func40,ntmps40;go_wp2_with (at_builtin;refine sO rfl (.tmp 5) (.tmp 6) 46 46 rfl w.heap.size 64 i0 _ 3 40 tU fX.o fY.o fZ.o f_.o rfl (.slice (some ⟨w.heap.size,0,none⟩) 0 0) 0 [] rfl (qU w #[] 0 (av _) (by simp[maxLen]) rfl) _ n news rfl HS.o (by omega) (by simp only[maxLen];omega) (by simp) ?_;intro A3 c3 w3 gA pP ux;rw[dg,mF] at gA;have g_:=aa gA;have aJ:=aa (((ah w).alloc (.cells #[] 64)).grown pP (fun k hk=>by have hk2:w.heap.size=k:=(by simpa [Value.ownBlock] using hk);omega));clear gA pP ux);go_ret;exact⟨A3,c3,Rl (by omega),g_.o,aJ.o⟩
theorem sA:prog.underlying 24=some (.slice 27):=by kernel_rfl
theorem Rm:(prog.info? 27).map (fun i=>(i.zero,i.size,i.bytes))=some (some (.agg #[.int .i64 0,.int .u64 0,.slice none 0 0,.slice none 0 0,.slice none 0 0]),5,88):=by kernel_rfl
theorem XW(n:Nat)(A:Option Addr)(cap:Nat)(news:List Value)(w:World)(hr:Reads (bE w 0 w.heap.size) 5 A n news)(h1:∀u∈news,u.oneCell'=true)(hn:n≤1000000000000) :
 Calls prog 39 #[.slice A n cap] w fun e w'=>∃A' c',e=.returned (.slice A' n c')∧w'.ownsRow w.heap.size 27 5 (.slice A' n c') n news∧Grow w w':=by
 rcases A with _ | a
 ·have h0:n=0:=by
   rcases uN n with h | h
   ·exact h
   obtain⟨bk,o,e,_⟩:=hr.2 h;cases e
  subst h0;have hx:news=[]:=j4 (by simpa using hr.1);subst hx;have he:=fun w=>Lib.run_eql_slice_nil (P:=prog) w 24 27 none 0 cap 0 0 sA
  go_enter func39,ntmps39;go_wp2_with fail;go_ret;exact⟨none,0,rfl,iH _ _ _ _,ah w⟩
 obtain⟨i0,hi0,hz0,hz1,hz2⟩:=info_parts Rm;have fX:=aa hi0;have fY:=aa hz0;have fZ:=aa hz1;have f_:=aa hz2;have HS:=aa (ej (P:=prog) (c:=cap) sA (dW (eO ((ah w).alloc (.cells #[] 27)).below (av _) (av _) (av _)) hr) h1);have he:=fun w=>Lib.run_eql_slice_nil (P:=prog) w 24 27 (some a) n cap 0 0 sA
 clear hr h1 hi0 hz0 hz1 hz2;go_enter func39,ntmps39;go_wp2_with (at_builtin;refine sO rfl (.tmp 5) (.tmp 6) 24 24 rfl w.heap.size 27 i0 _ 5 88 sA fX.o fY.o fZ.o f_.o rfl (.slice (some ⟨w.heap.size,0,none⟩) 0 0) 0 [] rfl (qU w #[] 0 (av _) (by simp[maxLen]) rfl) _ n news rfl HS.o (by omega) (by simp only[maxLen];omega) (by simp) ?_;intro A3 c3 w3 gA pP ux;rw[dg,mF] at gA;have g_:=aa gA;have aJ:=aa (((ah w).alloc (.cells #[] 27)).grown pP (fun k hk=>by have hk2:w.heap.size=k:=(by simpa [Value.ownBlock] using hk);omega));clear gA pP ux);go_ret;exact⟨A3,c3,Rl (by omega),g_.o,aJ.o⟩
end
end Go.Proofs.YtndjopkdbdcmdaaGreatDoor
