/- Part 6 of the proof of pgets_card. -/
import Derived.Test.YtndjopkdbdcmdaaGreatDoorPge2
import Derived.Test.YtndjopkdbdcmdaaGreatDoorPge3
import Derived.Laws.Rows
import Derived.Deep.RegionHeld
import Derived.Deep.MidRow
import Derived.Great.BuildSlice
set_option linter.unusedVariables false
set_option linter.unusedSimpArgs false
set_option maxRecDepth 100000
set_option maxHeartbeats 12800000
open Go.Proofs.Tryz
open Go.RowKit
namespace Go.Proofs.YtndjopkdbdcmdaaGreatDoor
variable {A:Option Addr}{B g j:Nat}{P:Program}{S:Nat→Prop}{af:Array Edge}{args cs:Array Value}{ch ck cl cx:Cv}{d:Option Tmp}{p:String}{q:Rq}{t ty:TypeId}{v:Value}{w w':World}{x y:Operand}
def vY:List UInt8→Nat→Int
 | [],n=>n
 | c::r,n=>if c.toNat<48∨57<c.toNat then -1 else vY r (10*n+(c.toNat-48))
def oJ(s:List UInt8):Int:=if s=[]∨4<s.length∨(1<s.length∧s.head?=some 48) then -1 else vY s 0
theorem abx(s:List UInt8)(j:Nat)(h:j<s.length)(n:Nat):vY (s.drop j) n=if s[j].toNat<48∨57<s[j].toNat then -1 else vY (s.drop (j+1)) (10*n+(s[j].toNat-48)):=by
 rw[yX h,vY]
theorem GM(s:ByteArray)(j:Nat)(h:j<s.size):s[j]=s.data.toList[j]'(by simpa using h):=by
 show s.data[j]=_;simp
theorem toList_data(s:ByteArray):s.toList=s.data.toList:=by
 exact ByteArray.toList_eq s
theorem ak4(s:ByteArray)(w:World):Calls prog 91 #[.string s] w fun e w'=>e=.returned (.int .i64 (oJ s.data.toList))∧w=w':=by
 obtain⟨z,hz⟩:∃z,oJ s.data.toList=z:=⟨_,rfl⟩;rw[hz];have hlen:s.data.toList.length=s.size:=by simp
 by_cases h0:s.size=0
 ·have he:s.data.toList=[]:=AW.1 (by omega);have hz':z=-1:=by rw[← hz,he];rfl
  have pI:s=⟨#[]⟩:=by apply Dg;apply yY;exact he
  subst pI;subst hz';clear h0 hz he hlen;go_enter func91,ntmps91;go_wp2_with fail;go_ret;exact⟨rfl,rfl⟩
 have hne:s.data.toList≠[]:=fun h=>h0 (by rw[← hlen,h];rfl)
 have tz:¬ s.toList=[]:=by
  intro h;have:=toList_data s;rw[h] at this;exact hne this.symm
 have hl2:s.toList.isEmpty=false:=by simpa using tz
 have hpos:0<s.size:=by omega
 by_cases h4:4<s.size
 ·have hz':z=-1:=by rw[← hz];unfold oJ;rw[aD (.inr (.inl (by omega)))]
  subst hz';clear h0 hz hne hlen;go_enter func91,ntmps91;go_wp2_with fail;go_ret;exact⟨rfl,rfl⟩
 obtain⟨x,hx⟩:∃x,s[0]'hpos=x:=⟨_,rfl⟩;have hx0:s.data.toList.head?=some x:=by
  rw[← hx,GM s 0 hpos,List.head?_eq_getElem?,bH]
 have hxl:=x.toNat_lt;by_cases h1:1<s.size∧x.toNat=48
 ·have hz':z=-1:=by
   rw[← hz];unfold oJ;rw[aD (.inr (.inr ⟨by omega,by rw[hx0];congr 1;apply yZ.1;exact h1.2⟩))]
  subst hz';obtain⟨h1,h2⟩:=h1;have JB:((x.toNat:Int)==48)=true:=by simp;omega
  clear h0 hz hne hlen hx0 h2;go_enter func91,ntmps91;go_wp2_with fail;go_ret;exact⟨rfl,rfl⟩
 have hz':vY s.data.toList 0=z:=by
  rw[← hz];unfold oJ;rw[ak];rintro(h | h | ⟨h,h'⟩)
  ·exact hne h
  ·omega
  exact h1 ⟨by omega,by rw[hx0] at h';injection h' with h';rw[h'];rfl⟩
 have HZ:=aa hz';have hs1:¬ 1<s.size∨(1<s.size∧((x.toNat:Int)==48)=false):=by
  rcases gp 1 s.size with h | h
  ·right;exact⟨h,by simp;omega⟩
  left;omega
 clear hz hz' hne hlen hx0 h1 h0;have hs4:s.size≤4:=by omega
 have hsj:∀(n:Nat) (j:Nat),j<s.size→n<10 ^ j→n≤999:=fun n j h1 h2=>by
  have:10 ^ j≤10 ^ 3:=ny (by omega) (by omega);omega
 have UL:=aa hsj;clear hsj;rcases hs1 with hs1 | ⟨hs1,hs2⟩
 all_goals
  go_enter func91,ntmps91
  go_wp2_with fail
  go_loopg [3,24] (s.size+1) (fun gk a i wr=>w=wr∧∃(j n:Nat),j≤s.size∧gk+j=s.size+1∧i=.int .i64 j∧a=.int .i64 (n:Int)∧n<10 ^ j∧vY (s.data.toList.drop j) n=z)
  exact⟨rfl,0,0,by omega,by omega,rfl,rfl,by simp,HZ.o⟩
  obtain⟨rfl,j,n,hj,ji,rfl,rfl,hn,hf⟩:=hrel
  have HF:=aa hf
  have HN:=aa hn
  clear hf
  by_cases hlt:j<s.size
  ·obtain⟨gk',rfl⟩:=bz gk (by omega)
   have hn9:=UL.o n j hlt hn
   clear hn
   have hstep:=abx s.data.toList j (by simpa using hlt) n
   rw[HF.o,← GM s j hlt] at hstep
   obtain⟨y,hy⟩:∃y,s[j]=y:=⟨_,rfl⟩
   rw[hy] at hstep
   have HST:=aa hstep
   have C8:=y.toNat_lt
   clear hstep
   by_cases c1:y.toNat<48
   ·have HE:=aa (show z=-1 by rw[HST.o,aD (.inl c1)])
    go_wp2_with fail
    go_ret
    exact⟨ij HE.o.symm,rfl⟩
   by_cases c2:57<y.toNat
   ·have HE:=aa (show z=-1 by rw[HST.o,aD (.inr c2)])
    go_wp2_with fail
    go_ret
    exact⟨ij HE.o.symm,rfl⟩
   have HE:=aa (show z=vY (s.data.toList.drop (j+1)) (10*n+(y.toNat-48)) by rw[HST.o,ak (by omega)])
   go_wp2_with fail
   go_roundg gk'
   exact⟨rfl,j+1,10*n+(y.toNat-48),by omega,by omega,by go_num,by go_num,by have:=HN.o;rw[AX];omega,HE.o.symm⟩
   omega
  obtain rfl:j=s.size:=by omega
  have HE:=aa (show z=(n:Int) by rw[← HF.o,J4 (by simp)];rfl)
  clear hn
  go_wp2_with fail
  go_ret
  exact⟨ij HE.o.symm,rfl⟩
theorem aev(s:ByteArray)(w:World):Calls prog 104 #[.string s] w fun e w'=>e=.returned (.int .i64 (oJ s.data.toList))∧w=w':=by
 obtain⟨z,hz⟩:∃z,oJ s.data.toList=z:=⟨_,rfl⟩;rw[hz];have hlen:s.data.toList.length=s.size:=by simp
 by_cases h0:s.size=0
 ·have he:s.data.toList=[]:=AW.1 (by omega);have hz':z=-1:=by rw[← hz,he];rfl
  have pI:s=⟨#[]⟩:=by apply Dg;apply yY;exact he
  subst pI;subst hz';clear h0 hz he hlen;go_enter func104,ntmps104;go_wp2_with fail;go_ret;exact⟨rfl,rfl⟩
 have hne:s.data.toList≠[]:=fun h=>h0 (by rw[← hlen,h];rfl)
 have tz:¬ s.toList=[]:=by
  intro h;have:=toList_data s;rw[h] at this;exact hne this.symm
 have hl2:s.toList.isEmpty=false:=by simpa using tz
 have hpos:0<s.size:=by omega
 by_cases h4:4<s.size
 ·have hz':z=-1:=by rw[← hz];unfold oJ;rw[aD (.inr (.inl (by omega)))]
  subst hz';clear h0 hz hne hlen;go_enter func104,ntmps104;go_wp2_with fail;go_ret;exact⟨rfl,rfl⟩
 obtain⟨x,hx⟩:∃x,s[0]'hpos=x:=⟨_,rfl⟩;have hx0:s.data.toList.head?=some x:=by
  rw[← hx,GM s 0 hpos,List.head?_eq_getElem?,bH]
 have hxl:=x.toNat_lt;by_cases h1:1<s.size∧x.toNat=48
 ·have hz':z=-1:=by
   rw[← hz];unfold oJ;rw[aD (.inr (.inr ⟨by omega,by rw[hx0];congr 1;apply yZ.1;exact h1.2⟩))]
  subst hz';obtain⟨h1,h2⟩:=h1;have JB:((x.toNat:Int)==48)=true:=by simp;omega
  clear h0 hz hne hlen hx0 h2;go_enter func104,ntmps104;go_wp2_with fail;go_ret;exact⟨rfl,rfl⟩
 have hz':vY s.data.toList 0=z:=by
  rw[← hz];unfold oJ;rw[ak];rintro(h | h | ⟨h,h'⟩)
  ·exact hne h
  ·omega
  exact h1 ⟨by omega,by rw[hx0] at h';injection h' with h';rw[h'];rfl⟩
 have HZ:=aa hz';have hs1:¬ 1<s.size∨(1<s.size∧((x.toNat:Int)==48)=false):=by
  rcases gp 1 s.size with h | h
  ·right;exact⟨h,by simp;omega⟩
  left;omega
 clear hz hz' hne hlen hx0 h1 h0;have hs4:s.size≤4:=by omega
 have hsj:∀(n:Nat) (j:Nat),j<s.size→n<10 ^ j→n≤999:=fun n j h1 h2=>by
  have:10 ^ j≤10 ^ 3:=ny (by omega) (by omega);omega
 have UL:=aa hsj;clear hsj;rcases hs1 with hs1 | ⟨hs1,hs2⟩
 all_goals
  go_enter func104,ntmps104
  go_wp2_with fail
  go_loopg [3,4] (s.size+1) (fun gk a i wr=>w=wr∧∃(j n:Nat),j≤s.size∧gk+j=s.size+1∧i=.int .i64 j∧a=.int .i64 (n:Int)∧n<10 ^ j∧vY (s.data.toList.drop j) n=z)
  exact⟨rfl,0,0,by omega,by omega,rfl,rfl,by simp,HZ.o⟩
  obtain⟨rfl,j,n,hj,ji,rfl,rfl,hn,hf⟩:=hrel
  have HF:=aa hf
  have HN:=aa hn
  clear hf
  by_cases hlt:j<s.size
  ·obtain⟨gk',rfl⟩:=bz gk (by omega)
   have hn9:=UL.o n j hlt hn
   clear hn
   have hstep:=abx s.data.toList j (by simpa using hlt) n
   rw[HF.o,← GM s j hlt] at hstep
   obtain⟨y,hy⟩:∃y,s[j]=y:=⟨_,rfl⟩
   rw[hy] at hstep
   have HST:=aa hstep
   have C8:=y.toNat_lt
   clear hstep
   by_cases c1:y.toNat<48
   ·have HE:=aa (show z=-1 by rw[HST.o,aD (.inl c1)])
    go_wp2_with fail
    go_ret
    exact⟨ij HE.o.symm,rfl⟩
   by_cases c2:57<y.toNat
   ·have HE:=aa (show z=-1 by rw[HST.o,aD (.inr c2)])
    go_wp2_with fail
    go_ret
    exact⟨ij HE.o.symm,rfl⟩
   have HE:=aa (show z=vY (s.data.toList.drop (j+1)) (10*n+(y.toNat-48)) by rw[HST.o,ak (by omega)])
   go_wp2_with fail
   go_roundg gk'
   exact⟨rfl,j+1,10*n+(y.toNat-48),by omega,by omega,by go_num,by go_num,by have:=HN.o;rw[AX];omega,HE.o.symm⟩
   omega
  obtain rfl:j=s.size:=by omega
  have HE:=aa (show z=(n:Int) by rw[← HF.o,J4 (by simp)];rfl)
  clear hn
  go_wp2_with fail
  go_ret
  exact⟨ij HE.o.symm,rfl⟩
section
open V
def be(k n:Nat):List UInt8:=(kW k n).reverse
theorem g_(k n:Nat):(be k n).length=k:=by rw[be,List.length_reverse,jJ]
def jT(n:Nat):Nat:=if n<9223372036854775808 then n+9223372036854775808 else 18446744073709551615-n
theorem Hz(n:Nat)(h:n<18446744073709551616):jT n<18446744073709551616:=by unfold jT;split<;>omega
def gZ(n:Nat):Bool:=Ieee.double.order n n != some .eq
def i64(n:Nat):Int:=if n<9223372036854775808 then (n:Int) else (n:Int)-18446744073709551616
def iX:List UInt8→List UInt8
 | []=>[]
 | x::r=>if x=0 then 0::255::iX r else x::iX r
def eH(b:List UInt8):List UInt8:=iX b++[0,0]
theorem Xd(b:List UInt8)(x:UInt8):iX (b++[x])=iX b++(if x=0 then [0,255] else [x]):=by
 induction b with
 | nil=>simp only[ql,iX]
 | cons y b ih=>simp only[AR,iX,ih];split<;>simp
theorem qF(b:List UInt8):b.length≤(iX b).length∧(iX b).length≤2*b.length:=by
 induction b with
 | nil=>simp[iX]
 | cons x b ih=>simp only[iX];split<;>simp only[aU]<;>omega
def uV(n:Nat):List UInt8:=1::(be 8 (jT (fl (i64 n)).1)++(be 2 (fl (i64 n)).2++[0]))
def oC(n:Nat):List UInt8:=if gZ n=true then 0::be 8 n else 1::(be 8 (jT n)++[0,0,1])
namespace V
def key:V→List UInt8
 | mk k n b l f =>
  if k=1 then [16] else if k=2 then [32,UInt8.ofNat n] else if k=3 then 48::uV n else if k=4 then 48::oC n
  else if k=5 then 64::eH b else if k=6 then 80::eH b
  else if k=7 then 96::((l.attach.map fun x=>1::key x.1).flatten++[0])
  else if k=8 then 112::((f.attach.map fun x=>1::(eH x.1.1.data.toList++key x.1.2)).flatten++[0]) else []
termination_by v=>SizeOf.sizeOf v
decreasing_by
 ·exact sV x.2
 exact sW x.2
def fE(x:V):List UInt8:=1::key x
def fF(x:ByteArray×V):List UInt8:=1::(eH x.1.data.toList++key x.2)
theorem ak5(k:Int)(n:Nat)(b:List UInt8)(l:List V)(f:List (ByteArray×V)):(mk k n b l f).key =
 if k=1 then [16] else if k=2 then [32,UInt8.ofNat n] else if k=3 then 48::uV n else if k=4 then 48::oC n
 else if k=5 then 64::eH b else if k=6 then 80::eH b
 else if k=7 then 96::((l.map fE).flatten++[0])
 else if k=8 then 112::((f.map fF).flatten++[0]) else []:=by
 rw[key];have e1:(l.attach.map fun x=>1::key x.1)=l.map fE:=by show l.attach.map (fun x=>fE x.1)=_;simp only[Dd,De]
 have e2:(f.attach.map fun x=>1::(eH x.1.1.data.toList++key x.1.2))=f.map fF:=by show f.attach.map (fun x=>fF x.1)=_;simp only[Dd,De]
 rw[e1,e2]
end V
theorem KP(n:Nat)(h:n<18446744073709551616):-9223372036854775808≤i64 n∧i64 n≤9223372036854775807:=by unfold i64;split<;>omega
theorem ak6(l:List V):l.length≤((l.map V.fE).flatten).length:=by
 induction l with
 | nil=>simp
 | cons x l ih=>simp only[fN,l8,bp,V.fE,aU];omega
theorem ak7(l:List (ByteArray×V)):l.length≤((l.map V.fF).flatten).length:=by
 induction l with
 | nil=>simp
 | cons x l ih=>simp only[fN,l8,bp,V.fF,aU];omega
def bl(v:V):List UInt8×Int:=if v.good≠0 then ([],v.good) else if 96<v.key.length then ([],14) else (v.key,0)
theorem aeh{v:V}(h:v.good=0):v.formed=true∧v.depth≤16:=by have:=Le.1 h;exact⟨this.1,this.2.2.1⟩
end
section
open V
def iq(x:UInt8):UInt8:=UInt8.ofNat (255-x.toNat)
def flip(t:Bool)(b:List UInt8):List UInt8:=if t=true then b.map iq else b
def rV:List V→Int
 | []=>0
 | v::l=>if (bl v).2≠0 then (bl v).2 else rV l
def jN:List V→List Bool→List UInt8
 | v::l,t::ts=>flip t v.key++jN l ts
 | _,_=>[]
def jt(l:List V)(ts:List Bool):List UInt8×Int:=
 if l.length≠ts.length then ([],1) else if rV l≠0 then ([],rV l) else if 96<(jN l ts).length then ([],14) else (jN l ts,0)
theorem Gt{v:V}(h:(bl v).2=0):v.good=0∧v.key.length≤96:=by
 unfold bl at h;split at h
 ·rename_i h0;exact absurd h h0
 split at h
 ·cases h
 exact⟨by omega,by omega⟩
theorem aby:∀{l:List V},rV l=0→∀v∈l,(bl v).2=0
 | [],_,v,hv=>by cases hv
 | x::l,h,v,hv=>by
  rw[rV] at h;split at h
  ·rename_i h0;exact absurd h h0
  rcases jI.1 hv with rfl | hv
  ·rename_i h0;simpa using h0
  exact aby h v hv
theorem aep{l:List V}{ts:List Bool}{b:List UInt8}(h:jt l ts=(b,0)):l.length=ts.length∧(∀v∈l,v.good=0)∧jN l ts=b∧b.length≤96:=by
 unfold jt at h;split at h
 ·cases (Bc.1 h).2
 split at h
 ·rename_i h0;exact absurd (Bc.1 h).2 h0
 split at h
 ·cases (Bc.1 h).2
 rename_i h0 h1 h2;have e:jN l ts=b:=(Bc.1 h).1;exact⟨by omega,fun v hv=>(Gt (aby (by omega) v hv)).1,e,by rw[← e];omega⟩
end
abbrev fP:=@V.ak5
section
open Go.RowKit Go.Shelf
theorem x_(w:World)(b:Int):(callFunc 138 #[.int .u64 b]).run prog w=.ok (.value (.float .f64 b.toNat)) w:=by kernel_rfl
theorem zu(b:Nat)(w:World):Calls prog 140 #[.float .f64 b] w fun e w'=>e=.returned (.bool (gZ b))∧w=w':=by
 go_enter func140,ntmps140;go_wp2;go_ret;exact⟨rfl,rfl⟩
theorem JC(f:Nat)(n:Int)(h:floatToIntVal .f64 f .i64=some n)(w:World):(convert 186 2 (.float .f64 f)).run prog w=.ok (.int .i64 n) w:=
 run_convert_float_int (P:=prog) w 186 2 .f64 .i64 f n (by kernel_rfl) (by kernel_rfl) h
end
section
open Go.RowKit
structure Kept (S:Nat→Prop) (w w':World):Prop where
 os:w'.os=w.os
 tape:w'.tape=w.tape
 output:w'.output=w.output
 size:w.heap.size≤w'.heap.size
 block:∀k,k<w.heap.size→¬ S k→w'.heap[k]?=w.heap[k]?
theorem Kept.refl(S:Nat→Prop)(w:World):Kept S w w:=⟨rfl,rfl,rfl,au _,fun _ _ _=>rfl⟩
theorem Kept.trans{a b c:World}(h:Kept S a b)(k:Kept S b c):Kept S a c:=
 ⟨k.os.trans h.os,k.tape.trans h.tape,k.output.trans h.output,aV h.size k.size,fun i hi hs=>(k.block i (bG hi h.size) hs).trans (h.block i hi hs)⟩
theorem Kept.mono{S':Nat→Prop}{a b:World}(h:Kept S a b)(hs:∀q,S q→S' q):Kept S' a b:=
 ⟨h.os,h.tape,h.output,h.size,fun k hk hn=>h.block k hk (fun q=>hn (hs k q))⟩
theorem Kept.grow{a b:World}(h:Grow a b):Kept S a b:=⟨h.os,h.tape,h.output,h.size,fun k hk _=>h.below.block k hk⟩
theorem Kept.set{a:World}(h:Kept S a w){p:Addr}(hp:S p.block)(u:Value):Kept S a (w.setCell p u):=
 ⟨h.os,h.tape,h.output,by rw[show (w.setCell p u).heap.size=w.heap.size by simp[World.setCell]];exact h.size,fun k hk hs=>(C_ w p u k (fun e=>hs (e ▸ hp))).trans (h.block k hk hs)⟩
theorem Kept.below{a b:World}(h:Kept S a b)(hB:B≤a.heap.size)(hs:∀q,S q→B≤q):Below B a b:=
 ⟨h.os,h.tape,h.output,h.size,fun k hk=>h.block k (by omega) (fun q=>by have:=hs k q;omega)⟩
theorem Kept.blk{a b:World}(h:Kept S a b)(hb:Blk a g t cs)(hs:¬ S g):Blk b g t cs:=(h.block g hb.lt hs).trans hb
end
abbrev cZ:=@Kept.refl
abbrev gN:=@Kept.grow
abbrev mr:=@Kept.set
abbrev cells2(c d:Cv):Array Value:=#[.int .i64 c.k,.int .u64 c.n,.slice c.aB c.nB c.cB,.slice c.aL c.nL c.cL,.slice c.aF c.nF c.cF,.int .i64 d.k,.int .u64 d.n,.slice d.aB d.nB d.cB,.slice d.aL d.nL d.cL,.slice d.aF d.nF d.cF]
theorem InL.row2{u v:V}{c d:Cv}(h:In w u c)(k:In w v d):InL (w.alloc (.cells (cells2 c d) 27)) (some ⟨w.heap.size,0,none⟩) 2 [u,v]:=by
 have hg:=(ah w).alloc (.cells (cells2 c d) 27);have hB:=az w 27 (cells2 c d);have h':=h.grow hg;have k':=k.grow hg;have hlt:=hB.lt;unfold InL In;rw[IsV];refine⟨rfl,rfl,rfl,rfl,rfl,by decide,by decide,by decide,by simp,by simp,by simp,by simp,by simp,by simp,⟨rfl,fun h=>by simp at h⟩,fun i hi=>?_,fun i hi=>by simp at hi⟩;have hi2:i=0∨i=1:=by simp at hi;omega
 rcases hi2 with rfl | rfl
 ·exact⟨w.heap.size,0,c,rfl,⟨⟨hB.cell 0,aR _,hlt⟩,⟨hB.cell 1,aR _,hlt⟩,⟨hB.cell 2,aR _,hlt⟩,⟨hB.cell 3,aR _,hlt⟩,⟨hB.cell 4,aR _,hlt⟩⟩,h'⟩
 exact⟨w.heap.size,0,d,rfl,⟨⟨hB.cell 5,aR _,hlt⟩,⟨hB.cell 6,aR _,hlt⟩,⟨hB.cell 7,aR _,hlt⟩,⟨hB.cell 8,aR _,hlt⟩,⟨hB.cell 9,aR _,hlt⟩⟩,k'⟩
section
open Ieee Go
def sg(a b:Int):Int:=if a<b then -1 else if b<a then 1 else 0
theorem AG{a b:Int}(h:a<b):sg a b=-1:=by unfold sg;rw[aD h]
theorem AH{a b:Int}(h:b<a):sg a b=1:=by unfold sg;rw[ak (by omega),aD h]
theorem rS{a b:Int}(h:a=b):sg a b=0:=by unfold sg;rw[ak (by omega),ak (by omega)]
noncomputable def abz(i:Int)(f:Nat):Int:=if i*(U1:Int)<sv f then -1 else if sv f<i*(U1:Int) then 1 else if f=9223372036854775808 then 1 else -1
noncomputable def ak8(k:Int)(n:Nat)(k':Int)(n':Nat):Int:=
 if k=3 then (if k'=3 then sg (i64 n) (i64 n') else if gZ n'=true then 1 else abz (i64 n) n')
 else if gZ n=true then (if k'=3 then -1 else if gZ n'=true then sg n n' else -1)
 else if k'=3 then -(abz (i64 n') n)
 else if gZ n'=true then 1
 else if sv n<sv n' then -1 else if sv n'<sv n then 1 else sg ((n' / 9223372036854775808:Nat):Int) ((n / 9223372036854775808:Nat):Int)
def rT(a b:Int):Int:=if a=0 then b else a
def UM:List Int→Int
 | []=>0
 | x::r=>rT x (UM r)
def cls(k:Int):Int:=if k=4 then 3 else k
namespace V
noncomputable def cmp:V→V→Int
 | mk k n b l f,mk k' n' b' l' f' =>
  if cls k≠cls k' then sg (cls k) (cls k')
  else if k=2 then sg n n'
  else if k=3∨k=4 then ak8 k n k' n'
  else if k=5∨k=6 then Lib.compareBytes b b'
  else rT (rT (UM (((l.attach).zip l').map fun p=>cmp p.1.1 p.2)) (UM (((f.attach).zip f').map fun p=>rT (Lib.compareBytes p.1.1.1.data.toList p.2.1.data.toList) (cmp p.1.1.2 p.2.2)))) (sg ((l.length+f.length:Nat):Int) ((l'.length+f'.length:Nat):Int))
termination_by v=>SizeOf.sizeOf v
decreasing_by
 ·exact sV p.1.2
 exact sW p.1.2
end V
def Diff(c:Int)(a b:List UInt8):Prop:=∃p x y a' b',a=p++x::a'∧b=p++y::b'∧x≠y∧c=sg (x.toNat:Int) (y.toNat:Int)
theorem Diff.here{x y:UInt8}(h:x≠y)(a b:List UInt8):Diff (sg (x.toNat:Int) (y.toNat:Int)) (x::a) (y::b):=⟨[],x,y,a,b,rfl,rfl,h,rfl⟩
theorem toNat_ne{x y:UInt8}(h:x≠y):x.toNat≠y.toNat:=fun e=>h (yZ.1 e)
theorem ada{a b:Int}(h:a≠b):sg a b≠0:=by
 unfold sg;repeat' split
 all_goals omega
theorem Ns(p a b:List UInt8):Lib.compareBytes (p++a) (p++b)=Lib.compareBytes a b:=by
 induction p with
 | nil=>rfl
 | cons x p ih=>rw[AR,AR,Lib.compareBytes,ak (by simp),ak (by simp),ih]
theorem Diff.cmp{c:Int}{a b:List UInt8}(h:Diff c a b):Lib.compareBytes a b=c:=by
 obtain⟨p,x,y,a',b',rfl,rfl,h1,rfl⟩:=h;rw[Ns,Lib.compareBytes];have:=toNat_ne h1;simp only[Bf];by_cases h:x.toNat<y.toNat
 ·rw[aD h,AG (by omega)]
 rw[ak h,aD (show y.toNat<x.toNat by omega),AH (by omega)]
theorem UN{n:Nat}(hn:n<18446744073709551616):gZ n=decide (9218868437227405312<n % 9223372036854775808):=by
 unfold gZ;by_cases h:9218868437227405312<n % 9223372036854775808
 ·rw[aiB h,cj h];rfl
 rw[MG hn hn (by omega) (by omega),Am rfl,cm h];rfl
theorem abA{i j:Int}(h:i<j):i*(U1:Int)<j*(U1:Int):=N6 h (by have:=SN;omega)
theorem abB(b:Int):rT 0 b=b:=rfl
theorem abC{a:Int}(b:Int)(h:a≠0):rT a b=a:=by unfold rT;rw[ak h]
namespace V
def hd(k:Int):UInt8:=if k=1 then 16 else if k=2 then 32 else if k=3 then 48 else if k=4 then 48 else if k=5 then 64 else if k=6 then 80 else if k=7 then 96 else 112
end V
end
section
open Go.RowKit Go.Shelf
theorem abD(a:Int)(w:World):Calls prog 136 #[.int .i64 a] w fun e w'=>e=.returned (.bool false)∧w=w':=by
 go_enter func136,ntmps136;go_wp2;go_ret;exact⟨by simp,rfl⟩
theorem abE(a:Int)(w:World):Calls prog 180 #[.int .i64 a] w fun e w'=>e=.returned (.bool false)∧w=w':=by
 go_enter func180,ntmps180;go_wp2;go_ret;exact⟨by simp,rfl⟩
theorem abF(a:Int)(w:World):Calls prog 137 #[.int .u64 a] w fun e w'=>e=.returned (.bool false)∧w=w':=by
 go_enter func137,ntmps137;go_wp2;go_ret;exact⟨by simp,rfl⟩
theorem Nt(a:Nat)(w:World):Calls prog 181 #[.float .f64 a] w fun e w'=>e=.returned (.bool (gZ a))∧w=w':=by
 go_enter func181,ntmps181;go_wp2;go_ret;exact⟨rfl,rfl⟩
theorem BA(a b:Int)(w:World):Calls prog 92 #[.int .i64 a,.int .i64 b] w fun e w'=>e=.returned (.int .i64 (sg a b))∧w=w':=by
 rcases wD a b with h | h | h
 ·rw[AG h];go_enter func92,ntmps92;go_wp2_with (go_at_call 136;refine(abD _ _).mono ?_;rintro e w' ⟨rfl,rfl⟩);go_ret;exact⟨rfl,rfl⟩
 focus
  rw[rS h]
  subst h
 rotate_left
 focus
  rw[AH h]
  have h2:¬ a<b:=by omega
 all_goals
  go_enter func92,ntmps92
  go_wp2_with (go_at_call 136;refine(abD _ _).mono ?_;rintro e w' ⟨rfl,rfl⟩)
  go_ret
  exact⟨rfl,rfl⟩
theorem Wa(a b:Int)(w:World):Calls prog 139 #[.int .i64 a,.int .i64 b] w fun e w'=>e=.returned (.int .i64 (sg a b))∧w=w':=by
 rcases wD a b with h | h | h
 ·rw[AG h];go_enter func139,ntmps139;go_wp2_with (go_at_call 180;refine(abE _ _).mono ?_;rintro e w' ⟨rfl,rfl⟩);go_ret;exact⟨rfl,rfl⟩
 focus
  rw[rS h]
  subst h
 rotate_left
 focus
  rw[AH h]
  have h2:¬ a<b:=by omega
 all_goals
  go_enter func139,ntmps139
  go_wp2_with (go_at_call 180;refine(abE _ _).mono ?_;rintro e w' ⟨rfl,rfl⟩)
  go_ret
  exact⟨rfl,rfl⟩
theorem V_(a b:Int)(w:World):Calls prog 94 #[.int .u64 a,.int .u64 b] w fun e w'=>e=.returned (.int .i64 (sg a b))∧w=w':=by
 rcases wD a b with h | h | h
 ·rw[AG h];go_enter func94,ntmps94;go_wp2_with (go_at_call 137;refine(abF _ _).mono ?_;rintro e w' ⟨rfl,rfl⟩);go_ret;exact⟨rfl,rfl⟩
 focus
  rw[rS h]
  subst h
 rotate_left
 focus
  rw[AH h]
  have h2:¬ a<b:=by omega
 all_goals
  go_enter func94,ntmps94
  go_wp2_with (go_at_call 137;refine(abF _ _).mono ?_;rintro e w' ⟨rfl,rfl⟩)
  go_ret
  exact⟨rfl,rfl⟩
structure Num (x:Nat):Prop where
 bits:x<18446744073709551616
 le:x % 9223372036854775808≤9218868437227405312
theorem Num.of{x:Nat}(h:x<18446744073709551616)(hn:gZ x=false):Num x:=by
 rw[UN h] at hn;exact⟨h,by simpa using hn⟩
theorem Num.nan{x:Nat}(h:Num x):gZ x=false:=by rw[UN h.bits];exact cm (by have:=h.le;omega)
theorem Num.lt{x y:Nat}(h:Num x)(k:Num y)(hl:sv x<sv y):FloatKind.f64.format.order x y=some Ordering.lt:=(MG h.bits k.bits h.le k.le).trans (by rw[xB hl])
theorem Num.eq{x y:Nat}(h:Num x)(k:Num y)(hl:sv x=sv y):FloatKind.f64.format.order x y=some Ordering.eq:=(MG h.bits k.bits h.le k.le).trans (by rw[Am hl])
theorem Num.gt{x y:Nat}(h:Num x)(k:Num y)(hl:sv y<sv x):FloatKind.f64.format.order x y=some Ordering.gt:=(MG h.bits k.bits h.le k.le).trans (by rw[xC hl])
theorem ac8(x y:Nat)(hx:Num x)(hy:Num y)(w:World):Calls prog 141 #[.float .f64 x,.float .f64 y] w fun e w'=>e=.returned (.int .i64 (sg (sv x) (sv y)))∧w=w':=by
 have n1:=hx.nan;have n2:=hy.nan;rcases wD (sv x) (sv y) with h | h | h
 ·rw[AG h];have ho:=hx.lt hy h;clear h;go_enter func141,ntmps141;go_wp2_with (first | (go_at_call 181;refine(Nt x _).mono ?_;rintro e w' ⟨rfl,rfl⟩) | (go_at_call 181;refine(Nt y _).mono ?_;rintro e w' ⟨rfl,rfl⟩));go_ret;exact⟨rfl,rfl⟩
 focus
  rw[rS h]
  have ho:=hx.eq hy h
 rotate_left
 focus
  rw[AH h]
  have ho:=hx.gt hy h
 all_goals
  clear h
  go_enter func141,ntmps141
  go_wp2_with (first | (go_at_call 181;refine(Nt x _).mono ?_;rintro e w' ⟨rfl,rfl⟩) | (go_at_call 181;refine(Nt y _).mono ?_;rintro e w' ⟨rfl,rfl⟩))
  go_ret
  exact⟨rfl,rfl⟩
theorem ak9(f:Nat)(s:Bool)(m:Nat)(p:Int)(h:Ieee.double.read f=.number s m p)(w:World):(Extern.MathFloor.toIntegral "math.archFloor" .down #[.float .f64 f]).run prog w=.ok (.float .f64 (nj f)) w:=by
 have hd:FloatKind.f64.decode f=.number s m p:=h;change Sem.run prog (match FloatKind.f64.decode f with
  | .nan s t =>
   if FloatKind.f64.format.quiet t=t then pure (Value.float .f64 f) else do
   let kept ← choose (.extern "math.Floor,Ceil,Trunc,RoundToEven.signallingNaN kept" 2);pure (Value.float .f64 (if kept==1 then f else FloatKind.f64.encode (.nan s (FloatKind.f64.format.quiet t))))
  | d=>pure (Value.float .f64 (FloatKind.f64.encode (d.integral .down)))) w=_
 rw[hd];unfold nj;rw[h];rfl
theorem abG(f:Nat)(hf:f<18446744073709551616)(fin:f % 9223372036854775808<9218868437227405312)(w:World):Calls prog 182 #[.float .f64 f] w fun e w'=>e=.returned (.float .f64 (nj f))∧w=w':=by
 obtain⟨m, p, hr, -⟩:=IX hf fin;have HX:=aa (ak9 f _ m p hr);clear hr;go_enter func182, ntmps182;go_wp2_with fail;rw[run_callFunc_extern (P:=prog) (f:=204) (fn:=f204) (by kernel_rfl) (by kernel_rfl) (by kernel_rfl) (by kernel_rfl) (e:=Extern.MathFloor.toIntegral "math.archFloor" .down) (by kernel_rfl), HX.o];simp only[Result.andThen];rw[Kn];go_wp2_with fail;go_ret;exact⟨rfl, rfl⟩
theorem JD:sv 4890909195324358656=9223372036854775808*(U1:Int):=by
 have h:=SQ false 4503599627370496 11 (by omega) (by omega) (by omega);rw[show Ieee.double.word false ((11+1074)*4503599627370496+4503599627370496)=4890909195324358656 by unfold Ieee.Format.word;decide,ak (by decide),sU] at h;rw[h];rfl
theorem UO:sv 14114281232179134464=-9223372036854775808*(U1:Int):=by
 have h:=SQ true 4503599627370496 11 (by omega) (by omega) (by omega);rw[show Ieee.double.word true ((11+1074)*4503599627370496+4503599627370496)=14114281232179134464 by unfold Ieee.Format.word;decide,aD rfl,sU] at h;rw[h,← xO];rfl
theorem Nu:Num 4890909195324358656:=⟨by decide,by decide⟩
theorem UQ:Num 14114281232179134464:=⟨by decide,by decide⟩
noncomputable def kr(i:Int)(f:Nat):Int:=if i*(U1:Int)<sv f then -1 else if sv f<i*(U1:Int) then 1 else 0
inductive Nv (i:Int) (f:Nat):Int→Prop
 | high (h:FloatKind.f64.format.order f 4890909195324358656=some Ordering.gt∨FloatKind.f64.format.order f 4890909195324358656=some Ordering.eq):Nv i f (-1)
 | low (h1:FloatKind.f64.format.order f 4890909195324358656=some Ordering.lt) (h2:FloatKind.f64.format.order f 14114281232179134464=some Ordering.lt):Nv i f 1
 | mid (r k:Int) (fin:f % 9223372036854775808<9218868437227405312) (h1:FloatKind.f64.format.order f 4890909195324358656=some Ordering.lt) (h2:FloatKind.f64.format.order f 14114281232179134464=some Ordering.gt∨FloatKind.f64.format.order f 14114281232179134464=some Ordering.eq)
  (hk:floatToIntVal .f64 (nj f) .i64=some k) (h3:(i<k∧r=-1)∨(k<i∧r=1)∨(i=k∧((FloatKind.f64.format.order f (nj f)=some Ordering.gt∧FloatKind.f64.format.order (nj f) f=some Ordering.lt∧r=-1)∨(FloatKind.f64.format.order f (nj f)=some Ordering.eq∧FloatKind.f64.format.order (nj f) f=some Ordering.eq∧r=0)))):Nv i f r
theorem ways(i:Int)(f:Nat)(hf:Num f)(h1:-9223372036854775808≤i)(h2:i≤9223372036854775807):Nv i f (kr i f):=by
 have hu:=SN;by_cases a:sv f<9223372036854775808*(U1:Int)
 ·by_cases b:sv f < -9223372036854775808*(U1:Int)
  ·have e:kr i f=1:=by
    have:-9223372036854775808*(U1:Int)≤i*(U1:Int):=Int.mul_le_mul_of_nonneg_right h1 (by omega);unfold kr;rw[ak (by omega),aD (by omega)]
   rw[e];exact .low (hf.lt Nu (by rw[JD];exact a)) (hf.lt UQ (by rw[UO];exact b))
  have fin:f % 9223372036854775808<9218868437227405312:=by
   rcases xN hf.le with h | h
   ·exact h
   exfalso;have hs:=MF hf.bits;rw[h] at hs;have hi:=JD;have hl:=ME (show 4890909195324358656<9218868437227405312 by decide);have e1:sv 4890909195324358656=(rv 4890909195324358656:Int):=by unfold sv;rw[aD (by decide)]
   split at hs<;>omega
  obtain⟨k,w1,w2,w3,w4,w5,w6⟩:=aiG f hf.bits fin (by omega) a;have nf:Num (nj f):=⟨w1,by omega⟩;refine .mid _ k fin (hf.lt Nu (by rw[JD];exact a)) ?_ w4 ?_
  ·rcases N8 (Int.not_lt.1 b) with h | h
   ·exact .inl (hf.gt UQ (by rw[UO];exact h))
   exact .inr (hf.eq UQ (by rw[UO];exact h.symm))
  rcases wD i k with h | h | h
  ·left;refine⟨h,?_⟩;have:=abA h;unfold kr;rw[aD (by omega)]
  ·right;right;subst h;refine⟨rfl,?_⟩;rcases N8 w5 with h | h
   ·left;refine⟨hf.gt nf (by omega),nf.lt hf (by omega),?_⟩;unfold kr;rw[aD h]
   right;refine⟨hf.eq nf (by omega),nf.eq hf (by omega),?_⟩;unfold kr;rw[ak (by omega),ak (by omega)]
  right;left;refine⟨h,?_⟩;have:(k+1)*(U1:Int)≤i*(U1:Int):=Int.mul_le_mul_of_nonneg_right (by omega) (by omega);unfold kr;rw[ak (by omega),aD (by omega)]
 have e:kr i f=-1:=by
  have:i*(U1:Int)<9223372036854775808*(U1:Int):=abA (by omega);unfold kr;rw[aD (by omega)]
 rw[e];refine .high ?_;rcases N8 (Int.not_lt.1 a) with h | h
 ·exact .inl (hf.gt Nu (by rw[JD];exact h))
 exact .inr (hf.eq Nu (by rw[JD];exact h.symm))
theorem ac7(i:Int)(f:Nat)(hf:Num f)(h1:-9223372036854775808≤i)(h2:i≤9223372036854775807)(w:World):Calls prog 142 #[.int .i64 i,.float .f64 f] w fun e w'=>e=.returned (.int .i64 (kr i f))∧w=w':=by
 have hw:=ways i f hf h1 h2;have hb:=hf.bits;obtain⟨r,hr⟩:∃r,kr i f=r:=⟨_,rfl⟩;rw[hr] at hw ⊢;clear hr hf
 cases hw with
 | high h =>
  rcases h with h | h
  all_goals
   go_enter func142,ntmps142
   go_wp2_with fail
   go_ret
   exact⟨rfl,rfl⟩
 | low h1 h2 =>
  go_enter func142,ntmps142;go_wp2_with fail;go_ret;exact⟨rfl,rfl⟩
 | mid _ k fin h1 h2 hk h3 =>
  have hv:=JC (nj f) k hk;have oz:=aa (fun w=>abG f hb fin w);clear hk fin;obtain⟨F,hF⟩:∃F,nj f=F:=⟨_,rfl⟩;rw[hF] at hv h3 oz;clear hF hb;rcases h2 with h2 | h2<;>rcases h3 with ⟨h3,rfl⟩ | ⟨h3,rfl⟩ | ⟨rfl,⟨h3,h4,rfl⟩ | ⟨h3,h4,rfl⟩⟩
  all_goals
   go_enter func142,ntmps142
   first
   | have hs:sg i k=-1:=AG h3
   | have hs:sg i k=1:=AH h3
   | have hs:sg i i=0:=rS rfl
   go_wp2_with (first | (go_at_call 182;refine(oz.o _).mono ?_;rintro e w' ⟨rfl,rfl⟩) | (go_at_call 139;refine(Wa _ _ _).mono ?_;rintro e w' ⟨rfl,rfl⟩;rw[hs]))
   go_ret
   exact⟨rfl,rfl⟩
end
section
open Go.RowKit Go.Shelf
theorem Pc(i:Int)(f:Nat):kr i f=-1∨kr i f=0∨kr i f=1:=by
 unfold kr;repeat' split
 all_goals omega
theorem KO(n:Nat)(h:n<18446744073709551616):IntKind.i64.wrap (n:Int)=i64 n:=by
 unfold i64;rw[df];split<;>omega
end
section
open Go.RowKit Go.Shelf
theorem ya(k:Int)(w:World):Calls prog 93 #[.int .i64 k] w fun e w'=>e=.returned (.int .i64 (cls k))∧w=w':=by
 by_cases h:k=4
 ·subst h;go_enter func93,ntmps93;go_wp2_with fail;go_ret;exact⟨rfl,rfl⟩
 have hq:(k==4)=false:=by simpa using h
 have HC:=aa (show cls k=k by unfold cls;rw[ak h]);clear h;go_enter func93,ntmps93;go_wp2_with fail;go_ret;exact⟨ij HC.o.symm,rfl⟩
theorem ak_(a b:ByteArray)(w:World):Calls prog 143 #[.string a,.string b] w fun e w'=>e=.returned (.int .i64 (Lib.compareBytes a.data.toList b.data.toList))∧w=w':=by
 go_enter func143,ntmps143;go_wp2_with fail;rw[run_callFunc_extern (P:=prog) (f:=183) (fn:=f183) (by kernel_rfl) (by kernel_rfl) (by kernel_rfl) (by kernel_rfl) (e:=Extern.BytealgCompare.compare) (by kernel_rfl),Lib.run_compareString];simp only[Result.andThen];rw[Kn];go_wp2_with fail;go_ret;exact⟨rfl,rfl⟩
theorem Pf(a b:ByteArray)(w:World):Calls prog 97 #[.string a,.string b] w fun e w'=>e=.returned (.int .i64 (Lib.compareBytes a.data.toList b.data.toList))∧w=w':=by
 go_enter func97,ntmps97;go_wp2_with (go_at_call 143;refine(ak_ a b _).mono ?_;rintro e w' ⟨rfl,rfl⟩);go_ret;exact⟨rfl,rfl⟩
theorem Wb(a b:Int)(g cap:Nat)(t:TypeId)(w:World)(hB:Blk w g t #[.int .i64 a,.int .i64 b]):Calls prog 96 #[.slice (some ⟨g,0,none⟩) 2 cap] w fun e w'=>e=.returned (.int .i64 (rT a b))∧w=w':=by
 have hc:=hB.cell;have hlt:=hB.lt;clear hB;have hc0:=hc 0;have hc1:=hc 1;clear hc;by_cases ha:a=0
 ·subst ha;rw[abB];by_cases hb:b=0
  ·subst hb;go_enter func96,ntmps96;go_wp2_with fail;go_loopg [5,8] 3 (fun gk x i wr=>w=wr∧∃j:Nat,j≤2∧gk+j=3∧i=.int .i64 j);exact⟨rfl,0,by omega,by omega,rfl⟩;obtain⟨rfl,j,hj,hg,rfl⟩:=hrel;obtain⟨gk',rfl⟩:=bz gk (by omega);rcases j with _ | _ | _ | j
   ·go_wp2_with fail;go_roundg gk';exact⟨rfl,1,by omega,by omega,rfl⟩;omega
   ·go_wp2_with fail;go_roundg gk';exact⟨rfl,2,by omega,by omega,rfl⟩;omega
   ·go_wp2_with fail;go_ret;exact⟨rfl,rfl⟩
   omega
  have rq:(b != 0)=true:=by simpa using hb
  clear hb;go_enter func96,ntmps96;go_wp2_with fail;go_loopg [5,8] 3 (fun gk x i wr=>w=wr∧∃j:Nat,j≤1∧gk+j=3∧i=.int .i64 j);exact⟨rfl,0,by omega,by omega,rfl⟩;obtain⟨rfl,j,hj,hg,rfl⟩:=hrel;obtain⟨gk',rfl⟩:=bz gk (by omega);rcases j with _ | _ | j
  ·go_wp2_with fail;go_roundg gk';exact⟨rfl,1,by omega,by omega,rfl⟩;omega
  ·go_wp2_with fail;go_ret;exact⟨rfl,rfl⟩
  omega
 rw[abC b ha];have haq:(a != 0)=true:=by simpa using ha
 clear ha;go_enter func96,ntmps96;go_wp2_with fail;go_loopg [5,8] 3 (fun gk x i wr=>w=wr∧i=.int .i64 0);exact⟨rfl,rfl⟩;obtain⟨rfl,rfl⟩:=hrel;go_wp2_with fail;go_ret;exact⟨rfl,rfl⟩
theorem adj(a b:Int)(g cap:Nat)(t:TypeId)(w:World)(hB:Blk w g t #[.int .i64 a,.int .i64 b]):Calls prog 49 #[.slice (some ⟨g,0,none⟩) 2 cap] w fun e w'=>e=.returned (.int .i64 (rT a b))∧w=w':=by
 have hc:=hB.cell;have hlt:=hB.lt;clear hB;have hc0:=hc 0;have hc1:=hc 1;clear hc;by_cases ha:a=0
 ·subst ha;rw[abB];by_cases hb:b=0
  ·subst hb;go_enter func49,ntmps49;go_wp2_with fail;go_loopg [5,8] 3 (fun gk x i wr=>w=wr∧∃j:Nat,j≤2∧gk+j=3∧i=.int .i64 j);exact⟨rfl,0,by omega,by omega,rfl⟩;obtain⟨rfl,j,hj,hg,rfl⟩:=hrel;obtain⟨gk',rfl⟩:=bz gk (by omega);rcases j with _ | _ | _ | j
   ·go_wp2_with fail;go_roundg gk';exact⟨rfl,1,by omega,by omega,rfl⟩;omega
   ·go_wp2_with fail;go_roundg gk';exact⟨rfl,2,by omega,by omega,rfl⟩;omega
   ·go_wp2_with fail;go_ret;exact⟨rfl,rfl⟩
   omega
  have rq:(b != 0)=true:=by simpa using hb
  clear hb;go_enter func49,ntmps49;go_wp2_with fail;go_loopg [5,8] 3 (fun gk x i wr=>w=wr∧∃j:Nat,j≤1∧gk+j=3∧i=.int .i64 j);exact⟨rfl,0,by omega,by omega,rfl⟩;obtain⟨rfl,j,hj,hg,rfl⟩:=hrel;obtain⟨gk',rfl⟩:=bz gk (by omega);rcases j with _ | _ | j
  ·go_wp2_with fail;go_roundg gk';exact⟨rfl,1,by omega,by omega,rfl⟩;omega
  ·go_wp2_with fail;go_ret;exact⟨rfl,rfl⟩
  omega
 rw[abC b ha];have haq:(a != 0)=true:=by simpa using ha
 clear ha;go_enter func49,ntmps49;go_wp2_with fail;go_loopg [5,8] 3 (fun gk x i wr=>w=wr∧i=.int .i64 0);exact⟨rfl,rfl⟩;obtain⟨rfl,rfl⟩:=hrel;go_wp2_with fail;go_ret;exact⟨rfl,rfl⟩
theorem KR{f:FuncId}{a n:Nat}(h:Calls P f args (w.drewN (a+n)) fun e w'=>e=.returned v∧w.drewN (a+n)=w') :
 Calls P f args (w.drewN (a+n)) fun e w''=>e=.returned v∧∃m,w''=w.drewN (a+m):=h.mono fun _ _ q=>⟨q.1,n,q.2.symm⟩
theorem ala{a b:List UInt8}(h:a.take j=b.take j)(h1:j<a.length)(h2:j<b.length)(hne:a[j]≠b[j]):Lib.compareBytes a b=sg (a[j].toNat:Int) (b[j].toNat:Int):=by
 have e1:a=a.take j++a[j]::a.drop (j+1):=by rw[← yX h1,sO]
 have e2:b=a.take j++b[j]::b.drop (j+1):=by rw[h,← yX h2,sO]
 generalize a[j]=x at e1 hne ⊢;generalize b[j]=y at e2 hne ⊢;rw[e1,e2,Ns];exact(Diff.here hne _ _).cmp
theorem abH{a b:List UInt8}(h:a.take (min a.length b.length)=b.take (min a.length b.length)):Lib.compareBytes a b=sg (a.length:Int) (b.length:Int):=by
 rcases Nat.le_total a.length b.length with hl | hl
 ·rw[pj hl,fT] at h;have e:b=a++b.drop a.length:=by rw[h,dU,pj hl,sO]
  obtain⟨r,hr⟩:∃r,b.drop a.length=r:=⟨_,rfl⟩;rw[hr] at e;subst e;have:Lib.compareBytes a (a++r)=Lib.compareBytes [] r:=by have:=Ns a [] r;rwa [oZ] at this
  rw[this]
  cases r with
  | nil=>simp[Lib.compareBytes,sg]
  | cons x r=>rw[Lib.compareBytes,AG (by simp;omega)]
 rw[FY hl,fT] at h;have e:a=b++a.drop b.length:=by rw[← h,dU,pj hl,sO]
 obtain⟨r,hr⟩:∃r,a.drop b.length=r:=⟨_,rfl⟩;rw[hr] at e;subst e;have:Lib.compareBytes (b++r) b=Lib.compareBytes r []:=by have:=Ns b r [];rwa [oZ] at this
 rw[this]
 cases r with
 | nil=>simp[Lib.compareBytes,sg]
 | cons x r=>rw[Lib.compareBytes,AH (by simp;omega)]
end
section
variable {P:Program} {ops:Array Oper} {a:Act}
theorem Nw{S:World→Prop}{o:Nat}{c:Cv}{td:TypeDesc}(hu:P.underlying ty=some td)(hd:td.isRow=true)(hx:a.eval x=.pointer (some ⟨g,o,none⟩))(hi:(P.info? ty).map (·.size)=some 5)
 (hget:∀w,S w→∀j v,c.cells.toList[j]?=some v→w.cell? ⟨g,o+j,none⟩=some v):YieldsIf P ops S ⟨d,.load ty x,t,p,af,none⟩ c.agg a:=
 yieldsIf_load_mid (by simp[Region.wanted]) ty x rfl g o hx c.cells.toList td (fun w hS j v hv=>hget w hS j v hv) hu hd hi
end
section
variable {P:Program} {ops:Array Oper} {Q:Exit→Act→World→Prop} {a:Act} {w:World} {K:Act→World→Prop} {E:Prop}
theorem alb(w:World)(g:Nat)(cs:Array Value):w.grownBy (w.setRow g cs) (some g):=
 ⟨rfl,rfl,rfl,by simp[World.setRow],fun k _ hk=>by
  have:¬ g=k:=fun e=>hk (by rw[e])
  simp[World.setRow,AQ,this]⟩
theorem Blk.alc{w:World}(h:Blk w g t cs)(cs':Array Value):Blk (w.setRow g cs') g t cs':=by
 unfold Blk at h ⊢;simp[World.setRow,AQ,h]
theorem ald{n:Nat}{cells old:Array Value}(hx:a.eval x=.pointer (some ⟨g,0,none⟩))(hy:a.eval y=.agg cells)(hB:Blk w g ty old)(hi:(P.info? ty).map (·.size)=some n)
 (hold:old.size=n) (hn:cells.size=n) (h1:cells.all (·.oneCell')=true)
 (h:∀w',Blk w' g ty cells→w.grownBy w' (some g)→w'.heap.size=w.heap.size→K a w'):if Region.wanted ⟨none,.store ty x y,t,p,af,none⟩ (yielded ops a.tmps)=true then Oper.wp P ⟨none,.store ty x y,t,p,af,none⟩ a w K Q else E:=by
 rw[aD (by simp[Region.wanted])];exact wp_store_row ty x y rfl g cells hx hy ty old hB (by rw[hn];exact hi) (by omega) h1 (h _ (hB.alc cells) (alb w g cells) (by simp[World.setRow]))
end
abbrev Ny(ck cl ch cx:Cv):Array Value:=#[.int .i64 ck.k,.int .u64 ck.n,.slice ck.aB ck.nB ck.cB,.slice ck.aL ck.nL ck.cL,.slice ck.aF ck.nF ck.cF,.int .i64 cl.k,.int .u64 cl.n,.slice cl.aB cl.nB cl.cB,.slice cl.aL cl.nL cl.cL,.slice cl.aF cl.nF cl.cF,.int .i64 ch.k,.int .u64 ch.n,.slice ch.aB ch.nB ch.cB,.slice ch.aL ch.nL ch.cL,.slice ch.aF ch.nF ch.cF,.int .i64 cx.k,.int .u64 cx.n,.slice cx.aB cx.nB cx.cB,.slice cx.aL cx.nL cx.cL,.slice cx.aF cx.nF cx.cF]
abbrev Nz:Array Value:=#[.int .i64 0,.int .u64 0,.slice none 0 0,.slice none 0 0,.slice none 0 0,.int .i64 0,.int .u64 0,.slice none 0 0,.slice none 0 0,.slice none 0 0,.int .i64 0,.int .u64 0,.slice none 0 0,.slice none 0 0,.slice none 0 0,.int .i64 0,.int .u64 0,.slice none 0 0,.slice none 0 0,.slice none 0 0]
theorem NA:(prog.info? 27).map (·.size)=some 5:=by kernel_rfl
theorem ale:(prog.info? 85).map (·.size)=some 20:=by kernel_rfl
theorem alf(ck cl ch cx:Cv):(Ny ck cl ch cx).all (·.oneCell')=true:=by simp[Ny,Value.oneCell']
theorem alg{a b c d:V}(h:Blk w g t (Ny ck cl ch cx))(h1:In w a ck)(h2:In w b cl)(h3:In w c ch)(h4:In w d cx):InL w (some ⟨g,0,none⟩) 4 [a,b,c,d]:=by
 have hlt:=h.lt;unfold InL In;rw[IsV];refine⟨rfl,rfl,rfl,rfl,rfl,by decide,by decide,by decide,by simp,by simp,by simp,by simp,by simp,by simp,⟨rfl,fun h=>by simp at h⟩,fun i hi=>?_,fun i hi=>by simp at hi⟩;have hi4:i<4:=hi;have hj3:i=0∨i=1∨i=2∨i=3:=by omega
 rcases hj3 with rfl | rfl | rfl | rfl
 ·exact⟨g,0,ck,rfl,⟨⟨h.cell 0,aR _,hlt⟩,⟨h.cell 1,aR _,hlt⟩,⟨h.cell 2,aR _,hlt⟩,⟨h.cell 3,aR _,hlt⟩,⟨h.cell 4,aR _,hlt⟩⟩,h1⟩
 ·exact⟨g,0,cl,rfl,⟨⟨h.cell 5,aR _,hlt⟩,⟨h.cell 6,aR _,hlt⟩,⟨h.cell 7,aR _,hlt⟩,⟨h.cell 8,aR _,hlt⟩,⟨h.cell 9,aR _,hlt⟩⟩,h2⟩
 ·exact⟨g,0,ch,rfl,⟨⟨h.cell 10,aR _,hlt⟩,⟨h.cell 11,aR _,hlt⟩,⟨h.cell 12,aR _,hlt⟩,⟨h.cell 13,aR _,hlt⟩,⟨h.cell 14,aR _,hlt⟩⟩,h3⟩
 exact⟨g,0,cx,rfl,⟨⟨h.cell 15,aR _,hlt⟩,⟨h.cell 16,aR _,hlt⟩,⟨h.cell 17,aR _,hlt⟩,⟨h.cell 18,aR _,hlt⟩,⟨h.cell 19,aR _,hlt⟩⟩,h4⟩
def oX(w:World)(A:Option Addr)(l:List Rq):Prop:=∀i (hi:i<l.length),∃(bk o:Nat) (ck cl ch cx:Cv),A=some ⟨bk,o,none⟩∧bk<w.heap.size ∧
 (∀k v,(b9 l[i].aM l[i].aw l[i].index l[i].path l[i].unique ck cl ch cx l[i].n)[k]?=some v→w.cell? ⟨bk,o+i*26+k,none⟩=some v)∧In w l[i].key ck∧In w l[i].low cl∧In w l[i].high ch∧In w l[i].doc cx
theorem oX.grow{l:List Rq}(h:oX w A l)(hg:Grow w w'):oX w' A l:=fun i hi=>by
 obtain⟨bk,o,ck,cl,ch,cx,ha,hb,hc,h1,h2,h3,h4⟩:=h i hi;exact⟨bk,o,ck,cl,ch,cx,ha,bG hb hg.size,fun k v hv=>(hg.below.cell (p:=⟨bk,_,none⟩) hb).trans (hc k v hv),h1.grow hg,h2.grow hg,h3.grow hg,h4.grow hg⟩
def qc(l:List Rq):Nat:=(l.map fun q=>([q.key,q.low,q.high,q.doc].map V.count).sum).sum
theorem abI(l:List Rq)(m:Nat)(h:m<l.length):qc (l.take (m+1))=qc (l.take m)+([l[m].key,l[m].low,l[m].high,l[m].doc].map V.count).sum:=DD (fun q:Rq=>([q.key,q.low,q.high,q.doc].map V.count).sum) l m h
theorem abJ(l:List Rq)(m:Nat):qc (l.take m)≤qc l:=Bp (fun q:Rq=>([q.key,q.low,q.high,q.doc].map V.count).sum) l m
theorem ajz{l:List Rq}(h:q∈l):q.key.count+q.low.count+q.high.count+q.doc.count≤qc l:=by
 obtain⟨i,hi,rfl⟩:=ux.1 h;have h1:=abI l i hi;have h2:=abJ l (i+1);simp only[fN,nW,qm,Di] at h1;omega
theorem abe:∀(l:List Rq),4*l.length≤qc l
 | []=>by simp[qc]
 | q::r=>by
  have ih:=abe r;have h1:=Br q.key;have h2:=Br q.low;have h3:=Br q.high;have h4:=Br q.doc;simp only[qc,fN,nW,qm,Di,aU] at ih ⊢;omega
theorem alh{d n:Int}{c i p:ByteArray}{u:Bool}(h:ck.cells.toList[j]?=some v):(b9 d c i p u ck cl ch cx n)[5+j]?=some v:=by
 rcases j with _ | _ | _ | _ | _ | j
 ·exact h
 ·exact h
 ·exact h
 ·exact h
 ·exact h
 simp at h
theorem ali{d n:Int}{c i p:ByteArray}{u:Bool}(h:cl.cells.toList[j]?=some v):(b9 d c i p u ck cl ch cx n)[10+j]?=some v:=by
 rcases j with _ | _ | _ | _ | _ | j
 ·exact h
 ·exact h
 ·exact h
 ·exact h
 ·exact h
 simp at h
theorem alj{d n:Int}{c i p:ByteArray}{u:Bool}(h:ch.cells.toList[j]?=some v):(b9 d c i p u ck cl ch cx n)[15+j]?=some v:=by
 rcases j with _ | _ | _ | _ | _ | j
 ·exact h
 ·exact h
 ·exact h
 ·exact h
 ·exact h
 simp at h
theorem alk{d n:Int}{c i p:ByteArray}{u:Bool}(h:cx.cells.toList[j]?=some v):(b9 d c i p u ck cl ch cx n)[20+j]?=some v:=by
 rcases j with _ | _ | _ | _ | _ | j
 ·exact h
 ·exact h
 ·exact h
 ·exact h
 ·exact h
 simp at h
theorem abd(l:List Rq)(A:Option Addr)(cap:Nat)(w:World)(hq:oX w A l)(hl:l.length≤140737488355328) :
 Calls prog 16 #[.slice A l.length cap] w fun e w'=>e=.returned (.bool (decide (20000≤qc l)))∧Grow w w':=by
 have HQ:=aa hq;clear hq;go_enter func16,ntmps16;go_wp2_with fail;go_loopg [3,4] (l.length+1) (fun gk t i wr=>∃(m:Nat) (T:Int),m≤l.length∧gk+m=l.length+1∧i=.int .i64 m∧t=.int .i64 T∧1≤T∧T≤20000∧T+(qc (l.take m):Nat)=20000∧Grow w wr);exact⟨0,20000,by omega,by omega,rfl,rfl,by omega,by omega,by simp[qc],ah w⟩;rename World=>w1;obtain⟨m,T,hm,hg,rfl,rfl,hT0,F8,rJ,hw⟩:=hrel;have DV:=aa hw;have gi:=aa rJ;clear rJ;obtain⟨gk0,rfl⟩:∃g,gk=g+1:=⟨gk-1,by omega⟩;by_cases ir:m<l.length
 ·have h1:=abI l m ir;have h2:=abJ l (m+1);rw[h1] at h2;have hqm:=HQ.o.grow hw m ir;obtain⟨q,hqq⟩:∃q,l[m]=q:=⟨_,rfl⟩;rw[hqq] at hqm h1 h2;obtain⟨g,o,ck,cl,ch,cx,rfl,hgl,hcell,h3,h4,h5,h6⟩:=hqm;have UR:=aa h2;have HQT:=aa h1;have HC:=aa (fun(w':World) (hg':Grow w1 w') k v (hv:(b9 q.aM q.aw q.index q.path q.unique ck cl ch cx q.n)[k]?=some v)=>(hg'.below.cell (p:=⟨g,o+m*26+k,none⟩) hgl).trans (hcell k v hv));have H1:=aa h3;have H2:=aa h4;have H3:=aa h5;have H4:=aa h6;clear h1 h2 h3 h4 h5 h6 hcell hqq hw;go_wp2_with fail;refine dg ?_;refine cW (S:=fun W=>∀k v,(b9 q.aM q.aw q.index q.path q.unique ck cl ch cx q.n)[k]?=some v→W.cell? ⟨g,o+m*26+k,none⟩=some v) (by kernel_rfl) (HC.o _ (ah _).drew) (fun hHeld=>?_)
  refine ai 0 ?_;refine ai 1 ?_;refine ai 2 ?_;refine ai 3 ?_;refine je (i:=4) (v:=ck.agg) (by simp only[kR,kT,kU];rfl) (by kernel_rfl) (by kernel_rfl) (by kernel_rfl) (fun _ _ _ h=>h) (Nw (g:=g) (o:=o+m*26+5) (c:=ck) underlying27 rfl rfl NA (fun w' hS j v hv=>by
   have:=hS (5+j) v (alh hv);rwa [← lu] at this)) (by assumption) ?_
  try simp only[aH]
  refine ai 5 ?_;refine ai 6 ?_;refine ai 7 ?_;refine ai 8 ?_;refine je (i:=9) (v:=cl.agg) (by simp only[kR,kT,kU];rfl) (by kernel_rfl) (by kernel_rfl) (by kernel_rfl) (fun _ _ _ h=>h) (Nw (g:=g) (o:=o+m*26+10) (c:=cl) underlying27 rfl rfl NA (fun w' hS j v hv=>by
   have:=hS (10+j) v (ali hv);rwa [← lu] at this)) (by assumption) ?_
  try simp only[aH]
  refine ai 10 ?_;refine ai 11 ?_;refine ai 12 ?_;refine ai 13 ?_;refine je (i:=14) (v:=ch.agg) (by simp only[kR,kT,kU];rfl) (by kernel_rfl) (by kernel_rfl) (by kernel_rfl) (fun _ _ _ h=>h) (Nw (g:=g) (o:=o+m*26+15) (c:=ch) underlying27 rfl rfl NA (fun w' hS j v hv=>by
   have:=hS (15+j) v (alj hv);rwa [← lu] at this)) (by assumption) ?_
  try simp only[aH]
  refine ai 15 ?_;refine ai 16 ?_;refine ai 17 ?_;refine ai 18 ?_;refine je (i:=19) (v:=cx.agg) (by simp only[kR,kT,kU];rfl) (by kernel_rfl) (by kernel_rfl) (by kernel_rfl) (fun _ _ _ h=>h) (Nw (g:=g) (o:=o+m*26+20) (c:=cx) underlying27 rfl rfl NA (fun w' hS j v hv=>by
   have:=hS (20+j) v (alk hv);rwa [← lu] at this)) (by assumption) ?_
  try simp only[aH]
  refine ai 20 ?_;refine aK 21 (fun K hK=>?_);replace hK:=aa hK;go_simp;have HG2:=aa (((ah w1).alloc (.cells Nz 85)).drew);have fB:=aa (show Blk (w1.alloc (.cells Nz 85)).drew w1.heap.size 85 Nz from az w1 _ _);generalize (w1.alloc (.cells Nz 85)).drew=w2 at HG2 fB ⊢;refine aT hK (HC.o _ HG2.o) (fun hHeld=>?_);refine aK 22 (fun K hK=>?_);replace hK:=aa hK;refine ald (g:=w1.heap.size) (n:=20) (cells:=Ny ck cl ch cx) rfl rfl fB.o ale rfl rfl (alf _ _ _ _) (fun w3 f_ hg3 hz3=>?_);have aG:=aa (show Grow w1 w3 from HG2.o.grown hg3 (fun k e=>by injection e with e;omega));have HL:=aa (show InL w3 (some ⟨w1.heap.size,0,none⟩) 4 [q.key,q.low,q.high,q.doc] from alg f_ (H1.o.grow aG.o) (H2.o.grow aG.o) (H3.o.grow aG.o) (H4.o.grow aG.o))
  refine hK.out _ _ (HC.o _ aG.o) (fun hHeld=>?_);clear f_ hg3 hz3 HG2 fB
  try simp only[aH]
  refine cG ?_;clear hHeld;obtain⟨L,hL⟩:∃L,[q.key,q.low,q.high,q.doc]=L:=⟨_,rfl⟩;have hL4:L.length=4:=by rw[← hL];rfl
  rw[hL] at HL UR HQT;have HL4:=aa hL4;clear hL hL4;go_wp2_with fail;go_loopg [3,6] 5 (fun gk t i w4=>∃(j:Nat) (T':Int),j≤4∧gk+j=5∧i=.int .i64 j∧t=.int .i64 T'∧1≤T'∧T'≤20000∧T'+((((L.take j).map V.count).sum:Nat):Int)=T∧Grow w3 w4);exact⟨0,T,by omega,by omega,rfl,rfl,by omega,by omega,by simp,ah w3⟩;obtain⟨j,T',hj,hg,rfl,rfl,aot,aou,abK,hw⟩:=hrel;have HW:=aa hw;have UT:=aa abK;clear abK;by_cases hlt:j<4
  ·obtain⟨gk',rfl⟩:=bz gk (by omega);have hlt':j<L.length:=by rw[HL4.o];exact hlt
   obtain⟨v,hv⟩:∃v,L[j]=v:=⟨_,rfl⟩;obtain⟨bk,o2,x,ha,hbk,e0,e1,e2,e3,e4,hx⟩:=In.fh (HL.o.grow hw) j hlt';obtain⟨rfl,rfl⟩:w1.heap.size=bk∧0=o2:=by simpa using ha
   simp only[eo] at e0 e1 e2 e3 e4;rw[hv] at hx;have hs:=DD V.count L j hlt';rw[hv] at hs;have HS:=aa hs;have hle:=Bp V.count L (j+1);rw[hs] at hle;have zY:=aa hle;have DI:=Br v;have fY:=aa (VK v T' wr x (by omega) (by omega) hx);clear hw hx hs hle ha hbk hv hlt';go_wp2_with fail;refine fY.o.mono ?_;rintro e w5 ⟨r,rfl,hr,hb2⟩;have aJ:=aa hb2;clear hb2;by_cases dO:((v.count:Nat):Int)<T'
   ·have hd:decide (((v.count:Nat):Int)<T')=true:=cj dO;have HR:=aa (hr dO);clear hr;go_wp2_with fail;go_roundg gk';have h1:=HR.o;have h2:=UT.o;have h3:=HS.o;exact⟨j+1,r,by omega,by omega,by go_num,rfl,by omega,by omega,by rw[h3];push_cast;omega,HW.o.trans aJ.o⟩;omega
   have hd:decide (((v.count:Nat):Int)<T')=false:=cm dO;clear hr;go_wp2_with fail;go_ret;have h2:=UT.o;have h3:=zY.o;have h4:=gi.o;have h5:=UR.o;exact⟨dw (cj (by omega)).symm,DV.o.trans (aG.o.trans (HW.o.trans aJ.o))⟩
  obtain rfl:j=4:=by omega
  have h2:=UT.o;rw[show L.take 4=L from rB (by rw[HL4.o];omega)] at h2;have H2':=aa h2;clear hw h2;go_wp2_with fail;go_roundg gk0;have h2:=H2'.o;have h4:=gi.o;have h5:=UR.o;have h6:=HQT.o;exact⟨m+1,T',by omega,by omega,by go_num,rfl,by omega,by omega,by omega,DV.o.trans (aG.o.trans HW.o)⟩;omega
 obtain rfl:m=l.length:=by omega
 have h2:=gi.o;rw[fT] at h2;have H2:=aa h2;clear h2 hw;go_wp2_with fail;go_ret;exact⟨dw (cm (by have:=H2.o;omega)).symm,DV.o⟩
section
variable {P:Program} {ops:Array Oper} {Q:Exit→Act→World→Prop} {rest:List Oper} {a:Act} {w:World}
theorem aht(ty:TypeId)(h:wpList P ops Q (⟨none,.store ty x y,t,p,af,none⟩::rest) a w):wpList P ops Q (⟨none,.store ty x y,t,p,af,none⟩::rest) a w:=h
theorem TD(ty:TypeId)(h:wpList P ops Q (⟨d,.load ty x,t,p,af,none⟩::rest) a w):wpList P ops Q (⟨d,.load ty x,t,p,af,none⟩::rest) a w:=h
theorem TE{ty t:TypeId}{x:Operand}{d:Option Tmp}{p:String}{af:Array Edge}{g n:Nat}{cells:Array Value}{td:TypeDesc}(hu:P.underlying ty=some td)(hd:(match td with | .struct _ | .array _ _=>true | _=>false)=true)(hx:a.eval x=.pointer (some ⟨g,0,none⟩))(hB:Blk w g ty cells)(hi:(P.info? ty).map (·.size)=some n)
 (hn:cells.size=n) (h:wpList P ops Q rest (a.put d (.agg cells)) w):wpList P ops Q (⟨d,.load ty x,t,p,af,none⟩::rest) a w:=
 wpList_load_row rfl ty x rfl g hx ty cells (0,0) td hB hu hd (by rw[hn];exact hi) h
end
section
open Go.RowKit Go.Shelf
theorem abL(i:Int)(f:Nat)(hf:Num f)(h1:-9223372036854775808≤i)(h2:i≤9223372036854775807)(w:World):Calls prog 193 #[.int .i64 i,.float .f64 f] w fun e w'=>e=.returned (.int .i64 (kr i f))∧w=w':=by
 have hw:=ways i f hf h1 h2;have hb:=hf.bits;obtain⟨r,hr⟩:∃r,kr i f=r:=⟨_,rfl⟩;rw[hr] at hw ⊢;clear hr hf
 cases hw with
 | high h =>
  rcases h with h | h
  all_goals
   go_enter func193,ntmps193
   go_wp2_with fail
   go_ret
   exact⟨rfl,rfl⟩
 | low h1 h2 =>
  go_enter func193,ntmps193;go_wp2_with fail;go_ret;exact⟨rfl,rfl⟩
 | mid _ k fin h1 h2 hk h3 =>
  have hv:=JC (nj f) k hk;have oz:=aa (fun w=>abG f hb fin w);clear hk fin;obtain⟨F,hF⟩:∃F,nj f=F:=⟨_,rfl⟩;rw[hF] at hv h3 oz;clear hF hb;rcases h2 with h2 | h2<;>rcases h3 with ⟨h3,rfl⟩ | ⟨h3,rfl⟩ | ⟨rfl,⟨h3,h4,rfl⟩ | ⟨h3,h4,rfl⟩⟩
  all_goals
   go_enter func193,ntmps193
   first
   | have hs:(i==k)=false:=by simp;omega
   | have hs:(i==i)=true:=by simp
   first
   | have hs2:¬ i<k:=by omega
   | have hs2:True:=trivial
   go_wp2_with (go_at_call 182;refine(oz.o _).mono ?_;rintro e w' ⟨rfl,rfl⟩)
   go_ret
   exact⟨rfl,rfl⟩
theorem alm(n:Nat)(hn:n<18446744073709551616):gZ n=(decide (n / 4503599627370496 % 2048=2047)&&decide (n % 4503599627370496≠0)):=by
 rw[UN hn,← Bool.decide_and];exact decide_eq_decide.2 (by omega)
theorem abM(k:Int)(n:Nat)(c:Cv)(w:World)(hk:k=3∨k=4)(h0:c.k=k)(h1:c.n=(n:Int))(h3:n<18446744073709551616) :
 Calls prog 192 #[c.agg] w fun e w'=>e=.returned (.bool (decide (k=4)&&gZ n))∧Grow w w':=by
 obtain⟨ck,cn,aB,nB,cB,aL,nL,cL,aF,nF,cF⟩:=c;dsimp only at h0 h1;replace h0:=h0.symm;subst h0 h1;have HG:=aa ((ah w).alloc (.cells (Cv.mk k n aB nB cB aL nL cL aF nF cF).cells 27));rcases hk with rfl | rfl
 ·go_enter func192,ntmps192;go_wp2_with fail;go_ret;exact⟨rfl,HG.o⟩
 have hx1:bits .and .u64 ((n:Int) / 4503599627370496) 2047=((n / 4503599627370496 % 2048:Nat):Int):=by
  have h:=u64_and_nat (n / 4503599627370496) 2047 (by omega) (by decide);rw[show (n / 4503599627370496) &&& 2047=n / 4503599627370496 % 2048 from Dn _ 11] at h;rw[← h];rfl
 have hx2:bits .and .u64 (n:Int) 4503599627370495=((n % 4503599627370496:Nat):Int):=by
  have h:=u64_and_nat n 4503599627370495 h3 (by decide);rw[show n &&& 4503599627370495=n % 4503599627370496 from Dn _ 52] at h;exact h
 have hnb:=alm n h3;obtain⟨E,hE⟩:∃E,n / 4503599627370496 % 2048=E:=⟨_,rfl⟩;obtain⟨M,hM⟩:∃M,n % 4503599627370496=M:=⟨_,rfl⟩;rw[hE] at hx1;rw[hM] at hx2;rw[hE,hM] at hnb;have jz:=aa hnb;clear hE hM hnb;by_cases e1:E=2047
 ·subst e1;by_cases e2:M=0
  ·subst e2;go_enter func192,ntmps192;go_wp2_with fail;go_ret;exact⟨by rw[jz.o];rfl,HG.o⟩
  have O8:((M:Int) != 0)=true:=by simpa using e2
  go_enter func192,ntmps192;go_wp2_with fail;go_ret;exact⟨by rw[jz.o];simp[e2],HG.o⟩
 have hEb:((E:Int)==2047)=false:=by simp;omega
 go_enter func192,ntmps192;go_wp2_with fail;go_ret;exact⟨by rw[jz.o];simp[e1],HG.o⟩
def JE(k:Int)(n:Nat):Int:=if k=3 then 1 else if n=9223372036854775808 then 0 else 2
theorem abN(k:Int)(n:Nat)(c:Cv)(w:World)(hk:k=3∨k=4)(h0:c.k=k)(h1:c.n=(n:Int))(h3:n<18446744073709551616) :
 Calls prog 194 #[c.agg] w fun e w'=>e=.returned (.int .i64 (JE k n))∧Grow w w':=by
 obtain⟨ck,cn,aB,nB,cB,aL,nL,cL,aF,nF,cF⟩:=c;dsimp only at h0 h1;replace h0:=h0.symm;subst h0 h1;have HG:=aa ((ah w).alloc (.cells (Cv.mk k n aB nB cB aL nL cL aF nF cF).cells 27));rcases hk with rfl | rfl
 ·go_enter func194,ntmps194;go_wp2_with fail;go_ret;exact⟨rfl,HG.o⟩
 by_cases hz:n=9223372036854775808
 ·subst hz;go_enter func194,ntmps194;go_wp2_with fail;go_ret;exact⟨rfl,HG.o⟩
 have BC:((n:Int)==9223372036854775808)=false:=by simp;omega
 have HP:=aa (show JE 4 n=2 by unfold JE;rw[ak (by decide),ak hz]);clear hz;go_enter func194,ntmps194;go_wp2_with fail;go_ret;exact⟨by rw[HP.o];rfl,HG.o⟩
theorem tI(a b:Int)(w:World):Calls prog 159 #[.int .i64 a,.int .i64 b] w fun e w'=>e=.returned (.int .i64 (sg a b))∧w=w':=by
 rcases wD a b with h | h | h
 ·rw[AG h];go_enter func159,ntmps159;go_wp2_with fail;go_ret;exact⟨rfl,rfl⟩
 ·rw[rS h];subst h;go_enter func159,ntmps159;go_wp2_with fail;go_ret;exact⟨rfl,rfl⟩
 rw[AH h];have h2:¬ a<b:=by omega
 go_enter func159,ntmps159;go_wp2_with fail;go_ret;exact⟨rfl,rfl⟩
end
section
open Go.RowKit Go.Shelf
theorem ado(k k':Int)(n n':Nat)(c c':Cv)(w:World)(hk:k=3∨k=4)(hk':k'=3∨k'=4)(h:In w (.mk k n [] [] []) c)(h':In w (.mk k' n' [] [] []) c') :
 Calls prog 160 #[c.agg,c'.agg] w fun e w'=>∃z,e=.returned (.int .i64 z)∧Grow w w':=by
 obtain⟨aB,aL,aF,cB,cL,cF,rfl,-,-,h1,-⟩:=h.open;obtain⟨bB,bL,bF,dB,dL,dF,rfl,-,-,h2,-⟩:=h'.open;clear h h';have hb:=x_
 have HG:=aa (((ah w).alloc (.cells (Cv.mk k n aB 0 cB aL 0 cL aF 0 cF).cells 27)).alloc (.cells (Cv.mk k' n' bB 0 dB bL 0 dL bF 0 dF).cells 27));have HB:=aa ((az w 27 (Cv.mk k n aB 0 cB aL 0 cL aF 0 cF).cells).alloc (.cells (Cv.mk k' n' bB 0 dB bL 0 dL bF 0 dF).cells 27));have HD:=aa (cM (w:=w.alloc (.cells (Cv.mk k n aB 0 cB aL 0 cL aF 0 cF).cells 27)) (g:=w.heap.size+1) (by simp) 27 (Cv.mk k' n' bB 0 dB bL 0 dL bF 0 dF).cells);have hbc:=HB.o.cell;have vB:=HD.o.cell;have hlb:=HB.o.lt;have Hp:=HD.o.lt;have HI:=aa (fun w2=>abM k n (Cv.mk k n aB 0 cB aL 0 cL aF 0 cF) w2 hk rfl rfl h1);have HJ:=aa (fun w2=>abM k' n' (Cv.mk k' n' bB 0 dB bL 0 dL bF 0 dF) w2 hk' rfl rfl h2);have HP:=aa (fun w2=>abN k n (Cv.mk k n aB 0 cB aL 0 cL aF 0 cF) w2 hk rfl rfl h1)
 have HQ:=aa (fun w2=>abN k' n' (Cv.mk k' n' bB 0 dB bL 0 dL bF 0 dF) w2 hk' rfl rfl h2);have hcv:=KO n h1;have Pb:=KO n' h2;obtain⟨p1,hp1⟩:∃x,JE k n=x:=⟨_,rfl⟩;obtain⟨p2,hp2⟩:∃x,JE k' n'=x:=⟨_,rfl⟩;rw[hp1] at HP;rw[hp2] at HQ;clear hp1 hp2;rcases hk with hk | hk<;>rcases hk' with hk' | hk'
 case' inl.inl =>
  rw[cm (show ¬ k=(4:Int) by omega),FX] at HI;rw[cm (show ¬ k'=(4:Int) by omega),FX] at HJ;have UU:(k==3)=true:=by rw[hk];rfl
  have UW:(k'==3)=true:=by rw[hk'];rfl
  rcases wD (i64 n) (i64 n') with h | h | h
 case' inl.inr =>
  rw[cm (show ¬ k=(4:Int) by omega),FX] at HI;have UU:(k==3)=true:=by rw[hk];rfl
  have UW:(k'==3)=false:=by rw[hk'];rfl
  have hr:=KP n h1;obtain⟨X,hX⟩:∃X,gZ n'=X:=⟨_,rfl⟩;have HW:X=false→∀w,Calls prog 193 #[.int .i64 (i64 n),.float .f64 n'] w fun e w'=>e=.returned (.int .i64 (kr (i64 n) n'))∧w=w':=fun hx w=>abL (i64 n) n' (Num.of h2 (hX.trans hx)) hr.1 hr.2 w
  rw[cj hk',hX,pc] at HJ;have wM:=Pc (i64 n) n';obtain⟨z,hz⟩:∃z,kr (i64 n) n'=z:=⟨_,rfl⟩;rw[hz] at HW wM;clear hX hr hz
  cases X
  case' false =>
   replace HW:=aa (HW rfl);rcases wM with rfl | rfl | rfl
  case' true=>clear HW wM
 case' inr.inl =>
  rw[cm (show ¬ k'=(4:Int) by omega),FX] at HJ;have UU:(k==3)=false:=by rw[hk];rfl
  have UW:(k'==3)=true:=by rw[hk'];rfl
  have hr:=KP n' h2;obtain⟨X,hX⟩:∃X,gZ n=X:=⟨_,rfl⟩;have HW:X=false→∀w,Calls prog 193 #[.int .i64 (i64 n'),.float .f64 n] w fun e w'=>e=.returned (.int .i64 (kr (i64 n') n))∧w=w':=fun hx w=>abL (i64 n') n (Num.of h1 (hX.trans hx)) hr.1 hr.2 w
  rw[cj hk,hX,pc] at HI;have wM:=Pc (i64 n') n;obtain⟨z,hz⟩:∃z,kr (i64 n') n=z:=⟨_,rfl⟩;rw[hz] at HW wM;clear hX hr hz
  cases X
  case' false =>
   replace HW:=aa (HW rfl);rcases wM with rfl | rfl | rfl
  case' true=>clear HW wM
 case' inr.inr =>
  have UU:(k==3)=false:=by rw[hk];rfl
  have UW:(k'==3)=false:=by rw[hk'];rfl
  obtain⟨X,hX⟩:∃X,gZ n=X:=⟨_,rfl⟩;obtain⟨Y,hY⟩:∃Y,gZ n'=Y:=⟨_,rfl⟩;have hO:X=false→Y=false→FloatKind.f64.format.order n n'=some Ordering.lt∨FloatKind.f64.format.order n n'=some Ordering.eq∨FloatKind.f64.format.order n n'=some Ordering.gt:=fun hx hy=>by
   have fx:=Num.of h1 (hX.trans hx);have fy:=Num.of h2 (hY.trans hy);rcases wD (sv n) (sv n') with h | h | h
   ·exact .inl (fx.lt fy h)
   ·exact .inr (.inl (fx.eq fy h))
   exact .inr (.inr (fx.gt fy h))
  rw[cj hk,hX,pc] at HI;rw[cj hk',hY,pc] at HJ;clear hX hY hcv Pb
  cases X<;>cases Y
  case' false.false=>rcases hO rfl rfl with ho | ho | ho
  case' true.true=>rcases (by omega:(n:Int)<(n':Int)∨(n':Int)<(n:Int)∨(¬ (n:Int)<(n':Int)∧¬ (n':Int)<(n:Int))) with h | h | ⟨h,h9⟩
  all_goals clear hO
 all_goals
  clear hk hk' h1 h2
  go_enter func160,ntmps160
  repeat (go_wp2_with fail;(first | with_reducible refine(HI.o _).mono ?_ | with_reducible refine(HJ.o _).mono ?_);rintro e wz ⟨rfl,hg⟩;clear hbc vB hlb Hp;replace HG:=aa (HG.o.trans hg);replace HB:=aa (HB.o.grow hg);replace HD:=aa (HD.o.grow hg);clear hg;have hbc:=HB.o.cell;have vB:=HD.o.cell;have hlb:=HB.o.lt;have Hp:=HD.o.lt)
  go_wp2_with fail
  all_goals first
   | (go_ret;exact⟨_,rfl,HG.o⟩)
   | (go_region_held3 (fun w'=>(∀q,w'.cell? ⟨w.heap.size,q,none⟩=(Cv.mk k n aB 0 cB aL 0 cL aF 0 cF).cells[q]?)∧(∀q,w'.cell? ⟨w.heap.size+1,q,none⟩=(Cv.mk k' n' bB 0 dB bL 0 dL bF 0 dF).cells[q]?)) (first | go_keep | exact⟨kA,uT⟩ | exact⟨rU,hdy⟩) (first | ((with_reducible refine(HP.o _).mono ?_);rintro e wx ⟨rfl,hgx⟩;first | (have tH:=aa (cX.o.trans hgx);have mn:=aa (bN.o.grow hgx);have mo:=aa (gJ.o.grow hgx);have rU:=mn.o.cell;have hdy:=mo.o.cell;clear hgx) | (have cX:=aa ((HG.o.drew).trans hgx);have bN:=aa ((HB.o.drew).grow hgx);have gJ:=aa ((HD.o.drew).grow hgx);have kA:=bN.o.cell;have uT:=gJ.o.cell;clear hgx)) | ((with_reducible refine(HQ.o _).mono ?_);rintro e wx ⟨rfl,hgx⟩;first | (have tH:=aa (cX.o.trans hgx);have mn:=aa (bN.o.grow hgx);have mo:=aa (gJ.o.grow hgx);have rU:=mn.o.cell;have hdy:=mo.o.cell;clear hgx) | (have cX:=aa ((HG.o.drew).trans hgx);have bN:=aa ((HB.o.drew).grow hgx);have gJ:=aa ((HD.o.drew).grow hgx);have kA:=bN.o.cell;have uT:=gJ.o.cell;clear hgx)) | (go_at_call 159;refine(tI _ _ _).mono ?_;rintro e wx ⟨rfl,rfl⟩));all_goals (go_wp2_with fail;go_ret;exact⟨_,rfl,tH.o⟩))
   | (go_quiet ((first | (go_at_call 193;exact Calls.quiet_of_same ((HW.o _).mono fun e w' h=>⟨h.1,h.2.symm⟩))));go_wp2_with fail;first | (go_ret;exact⟨_,rfl,HG.o.drewN _⟩) | (go_region_held3 (fun w'=>(∀q,w'.cell? ⟨w.heap.size,q,none⟩=(Cv.mk k n aB 0 cB aL 0 cL aF 0 cF).cells[q]?)∧(∀q,w'.cell? ⟨w.heap.size+1,q,none⟩=(Cv.mk k' n' bB 0 dB bL 0 dL bF 0 dF).cells[q]?)) (first | go_keep | exact⟨kA,uT⟩ | exact⟨rU,hdy⟩) (first | ((with_reducible refine(HP.o _).mono ?_);rintro e wx ⟨rfl,hgx⟩;first | (have tH:=aa (cX.o.trans hgx);have mn:=aa (bN.o.grow hgx);have mo:=aa (gJ.o.grow hgx);have rU:=mn.o.cell;have hdy:=mo.o.cell;clear hgx) | (have cX:=aa ((HG.o.drewN _ |>.drew).trans hgx);have bN:=aa ((HB.o.drewN _ |>.drew).grow hgx);have gJ:=aa ((HD.o.drewN _ |>.drew).grow hgx);have kA:=bN.o.cell;have uT:=gJ.o.cell;clear hgx)) | ((with_reducible refine(HQ.o _).mono ?_);rintro e wx ⟨rfl,hgx⟩;first | (have tH:=aa (cX.o.trans hgx);have mn:=aa (bN.o.grow hgx);have mo:=aa (gJ.o.grow hgx);have rU:=mn.o.cell;have hdy:=mo.o.cell;clear hgx) | (have cX:=aa ((HG.o.drewN _ |>.drew).trans hgx);have bN:=aa ((HB.o.drewN _ |>.drew).grow hgx);have gJ:=aa ((HD.o.drewN _ |>.drew).grow hgx);have kA:=bN.o.cell;have uT:=gJ.o.cell;clear hgx)) | (go_at_call 159;refine(tI _ _ _).mono ?_;rintro e wx ⟨rfl,rfl⟩));all_goals (go_wp2_with fail;go_ret;exact⟨_,rfl,tH.o⟩)))
end
section
open Go.RowKit Go.Shelf
theorem wN(k:Int)(w:World):Calls prog 158 #[.int .i64 k] w fun e w'=>e=.returned (.int .i64 (cls k))∧w=w':=by
 by_cases h:k=4
 ·subst h;go_enter func158,ntmps158;go_wp2_with fail;go_ret;exact⟨rfl,rfl⟩
 have hq:(k==4)=false:=by simpa using h
 have HC:=aa (show cls k=k by unfold cls;rw[ak h]);clear h;go_enter func158,ntmps158;go_wp2_with fail;go_ret;exact⟨ij HC.o.symm,rfl⟩
theorem We(a b:List UInt8)(A B:Option Addr)(c d:Nat)(w:World)(ha:bh w A a)(hb:bh w B b)(hl:a.length≤140737488355328)(hm:b.length≤140737488355328) :
 Calls prog 161 #[.slice A a.length c,.slice B b.length d] w fun e w'=>e=.returned (.int .i64 (Lib.compareBytes a b))∧Grow w w':=by
 have HA:=aa ha;have HB:=aa hb;clear ha hb;go_enter func161,ntmps161;go_wp2_with fail;go_loopg [5] (a.length+1) (fun gk i wr=>∃j:Nat,j≤a.length∧j≤b.length∧gk+j=a.length+1∧i=.int .i64 j∧a.take j=b.take j∧Grow w wr);exact⟨0,aR _,aR _,rfl,rfl,rfl,ah w⟩;obtain⟨j,hj,zt,hg,rfl,htk,hgr⟩:=hrel;obtain⟨gk',rfl⟩:=bz gk (by omega);have jP:=aa htk;have HG:=aa hgr;clear htk hgr;by_cases h1:j<a.length
 ·by_cases h2:j<b.length
  ·obtain⟨bk,o,rfl,hbk,e0⟩:=(HA.o.grow HG.o).at_ j h1;obtain⟨pD,o',rfl,og,uG⟩:=(HB.o.grow HG.o).at_ j h2;by_cases hx:a[j]=b[j]
   ·have aln:=aa (show a.take (j+1)=b.take (j+1) by rw[J2 h1,J2 h2,jP.o,hx]);rw[hx] at e0;clear hx;go_wp2_with fail;go_quiet (fail);go_wp2_with fail;go_roundg gk';exact⟨j+1,by omega,by omega,by omega,by go_num,aln.o,HG.o.drewN _⟩;omega
   have HC:=aa (ala jP.o h1 h2 hx);have su:((a[j].toNat:Int) != (b[j].toNat:Int))=true:=by have:=toNat_ne hx;simp;omega
   have hx1:=a[j].toNat_lt;have hx2:=b[j].toNat_lt;clear hx;go_wp2_with fail;go_quiet (fail);go_wp2_with fail;go_quiet ((go_at_call 159;exact KR (tI _ _ _)));go_wp2_with fail;go_ret;exact⟨ij HC.o.symm,(HG.o.drewN _).drewN _⟩
  obtain rfl:j=b.length:=by omega
  have HC:=aa (abH (show a.take (min a.length b.length)=b.take (min a.length b.length) by rw[FY (by omega)];exact jP.o));go_wp2_with (go_at_call 159;refine(tI _ _ _).mono ?_;rintro e w' ⟨rfl,rfl⟩);go_ret;exact⟨ij HC.o.symm,HG.o⟩
 obtain rfl:j=a.length:=by omega
 have HC:=aa (abH (show a.take (min a.length b.length)=b.take (min a.length b.length) by rw[pj (by omega)];exact jP.o));go_wp2_with (go_at_call 159;refine(tI _ _ _).mono ?_;rintro e w' ⟨rfl,rfl⟩);go_ret;exact⟨ij HC.o.symm,HG.o⟩
end
end Go.Proofs.YtndjopkdbdcmdaaGreatDoor
