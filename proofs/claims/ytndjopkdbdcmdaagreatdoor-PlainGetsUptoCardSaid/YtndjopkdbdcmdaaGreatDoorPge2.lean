/- Part 2 of the proof of pgets_card. -/
import Derived.Test.YtndjopkdbdcmdaaGreatDoorPge1
import Derived.Laws.FloatArith
import Derived.KernelRfl
import Derived.Laws.IdiomCopy
import Derived.Lib.AppendZerosOnto
import Derived.Lib.Overlaps
import Derived.Shelf.RegionOpenPlain
import Derived.Shelf.Spec.SlicesInsert
import Derived.Laws.Externs
import Derived.Lib.SliceRun
set_option linter.unusedVariables false
set_option linter.unusedSimpArgs false
set_option maxRecDepth 100000
set_option maxHeartbeats 12800000
open Go.Proofs.Tryz
open Go.RowKit
namespace Go.Proofs.YtndjopkdbdcmdaaGreatDoor
variable {A:Option Addr}{E:Prop}{K:Act→World→Prop}{N base c g i m z:Nat}{Q:Exit→Act→World→Prop}{T:TypeId}{a:Act}{cur:Array Value}{d:Option Tmp}{news vs xs:List Value}{ops:Array Oper}{rest:List Oper}{u v v':Value}{w w':World}
section
open Ieee Go
theorem wX:Ieee.double.signWeight=9223372036854775808:=by decide
theorem IQ:Ieee.double.binade=4503599627370496:=by decide
theorem Ep:Ieee.double.infRung=9218868437227405312:=by decide
theorem IU:Ieee.double.leastPlace=-1074:=by decide
theorem aam(r:Nat)(h:r<9223372036854775808)(neg:Bool):Ieee.double.word neg r % 9223372036854775808=r:=by
 unfold Format.word;rw[wX];cases neg
 ·simp;omega
 simp;omega
theorem ail(r:Nat)(h:r<9223372036854775808)(neg:Bool):(Ieee.double.word neg r / 9223372036854775808 % 2==1)=neg:=by
 unfold Format.word;rw[wX];cases neg
 ·simp;omega
 simp;omega
theorem SA(neg:Bool)(e m:Nat)(h1:1≤e)(h2:e≤2046)(hm:m<4503599627370496) :
 Ieee.double.read (Ieee.double.word neg (e*4503599627370496+m))=.number neg (4503599627370496+m) ((e:Int)-1075):=by
 have hr:e*4503599627370496+m<9223372036854775808:=by omega
 unfold Format.read;simp only[wX,IQ,Ep,IU,aam _ hr,ail _ hr];rw[ak (by omega),aD (by omega)];have e1:(e*4503599627370496+m) % 4503599627370496=m:=by omega
 have e2:(e*4503599627370496+m) / 4503599627370496=e:=by omega
 rw[e1,e2];congr 1;omega
theorem IV(k:Nat):(1:Nat) <<< k=2 ^ k:=by rw[za,n_]
theorem SB(way:Toward)(neg:Bool)(n:Nat):way.cut neg n 0=n:=by
 unfold Toward.cut;have:(1:Nat) <<< min 0 (n.log2+2)=1:=by simp
 rw[this];simp only[Nat.div_one,Nat.mod_one]
 cases way<;>simp
theorem yn:(2:Nat) ^ 53=9007199254740992:=by decide
theorem aan(neg:Bool)(aI:Nat)(h0:aI≠0)(last:Int)(h:max ((0:Int)+(aI.log2:Int)-52) (-1074)=last) :
 Ieee.double.nearest neg aI 0=Ieee.double.word neg (min ((last - -1074).toNat*4503599627370496+Toward.even.cut neg (aI <<< (0-last).toNat) (last-0).toNat) 9218868437227405312):=by
 have hf:((Ieee.double.fractionBits:Nat):Int)=52:=rfl;unfold Format.nearest;rw[ak h0,IU,IQ,Ep,hf,h]
theorem aao(neg:Bool)(a b:Nat)(h:a=b)(hb:b≤9218868437227405312):Ieee.double.word neg (min a 9218868437227405312)=Ieee.double.word neg b:=by
 subst h;rw[pj hb]
theorem SC(neg:Bool)(aI:Nat)(h0:aI≠0)(hL:aI.log2≤52) :
 Ieee.double.nearest neg aI 0=Ieee.double.word neg ((aI.log2+1022)*4503599627370496+aI*2 ^ (52-aI.log2)):=by
 rw[aan neg aI h0 ((aI.log2:Int)-52) (by omega)];have e1:((0:Int)-((aI.log2:Int)-52)).toNat=52-aI.log2:=by omega
 have e2:((aI.log2:Int)-52-0).toNat=0:=by omega
 have e3:((aI.log2:Int)-52 - -1074).toNat=aI.log2+1022:=by omega
 rw[e1,e2,e3,SB,za];have hlt:=zb (n:=aI);have h3:aI*2 ^ (52-aI.log2)<2 ^ (aI.log2+1)*2 ^ (52-aI.log2):=xM hlt (kQ (by omega));rw[← mf,show aI.log2+1+(52-aI.log2)=53 by omega,yn] at h3;generalize aI*2 ^ (52-aI.log2)=x at h3 ⊢;generalize aI.log2=L at hL ⊢;exact aao _ _ _ rfl (by omega)
def up(aI d:Nat):Bool:=decide (2 ^ d<2*(aI % 2 ^ d))||(2 ^ d==2*(aI % 2 ^ d)&&aI / 2 ^ d % 2==1)
theorem aim(neg:Bool)(aI d:Nat)(h:d≤aI.log2+2):Toward.even.cut neg aI d=aI / 2 ^ d+(up aI d).toNat:=by
 unfold Toward.cut;have:min d (aI.log2+2)=d:=by omega
 simp only[this,IV,up]
theorem SD(neg:Bool)(aI d:Nat)(h0:aI≠0)(hd:1≤d)(hL:aI.log2=52+d)(hd2:d≤11) :
 Ieee.double.nearest neg aI 0=Ieee.double.word neg ((d+1074)*4503599627370496+(aI / 2 ^ d+(up aI d).toNat)):=by
 rw[aan neg aI h0 (d:Int) (by omega)];have e1:((0:Int)-(d:Int)).toNat=0:=by omega
 have e2:((d:Int)-0).toNat=d:=by omega
 have e3:((d:Int) - -1074).toNat=d+1074:=by omega
 rw[e1,e2,e3,NV,aim neg aI d (by omega)];have hlt:=zb (n:=aI);have dO:aI / 2 ^ d<2 ^ 53:=by
  rw[NW (kQ (by omega)),← mf];have:aI.log2+1=53+d:=by omega
  rwa [this] at hlt
 rw[yn] at dO;have hu:(up aI d).toNat≤1:=Bool.toNat_le _;generalize aI / 2 ^ d=x at dO ⊢;generalize (up aI d).toNat=y at hu ⊢;exact aao _ _ _ rfl (by omega)
theorem SE{neg:Bool}{a b:Nat}{p q:Int}(h1:a=b)(h2:p=q):Datum.number neg a p=.number neg b q:=by subst h1 h2;rfl
theorem MB:(2:Nat) ^ 52=4503599627370496:=by decide
theorem SH(neg:Bool)(d t:Nat)(hd:d≤11)(h1:4503599627370496≤t)(h2:t<9007199254740992) :
 Ieee.double.read (Ieee.double.word neg ((d+1074)*4503599627370496+t))=.number neg t (d:Int):=by
 have:=SA neg (d+1075) (t-4503599627370496) (by omega) (by omega) (by omega);rw[show (d+1074)*4503599627370496+t=(d+1075)*4503599627370496+(t-4503599627370496) by omega,this];exact SE (by omega) (by omega)
theorem ain(neg:Bool)(d:Nat)(hd:d≤11) :
 Ieee.double.read (Ieee.double.word neg ((d+1074)*4503599627370496+9007199254740992))=.number neg 4503599627370496 ((d:Int)+1):=by
 have:=SA neg (d+1076) 0 (by omega) (by omega) (by omega);rw[show (d+1074)*4503599627370496+9007199254740992=(d+1076)*4503599627370496+0 by omega,this];exact SE rfl (by omega)
theorem aio(neg:Bool)(L t:Nat)(hd:L≤52)(h1:4503599627370496≤t)(h2:t<9007199254740992) :
 Ieee.double.read (Ieee.double.word neg ((L+1022)*4503599627370496+t))=.number neg t ((L:Int)-52):=by
 have:=SA neg (L+1023) (t-4503599627370496) (by omega) (by omega) (by omega);rw[show (L+1022)*4503599627370496+t=(L+1023)*4503599627370496+(t-4503599627370496) by omega,this];exact SE (by omega) (by omega)
theorem aap(neg:Bool)(m:Nat)(d:Nat):(Datum.number neg m (d:Int)).toInt .zero=some (if neg then -((m*2 ^ d:Nat):Int) else ((m*2 ^ d:Nat):Int)):=by
 unfold Datum.toInt Datum.integral;simp only[show (-(d:Int)).toNat=0 by omega,A_,SB,signed,za,FR,sP]
theorem aip(neg:Bool)(aI q:Nat)(h0:aI≠0):Toward.zero.cut neg (aI*2 ^ q) q=aI:=by
 have hp:0<2 ^ q:=kQ (by omega);have hle:q≤(aI*2 ^ q).log2:=by
  rw[Nat.le_log2 (by have:=Dk (NY h0) hp;omega)];exact Nat.le_mul_of_pos_left _ (NY h0)
 unfold Toward.cut;have:min q ((aI*2 ^ q).log2+2)=q:=by omega
 simp only[this,IV,NZ _ hp,Ba,fX]
theorem aiq(neg:Bool)(aI q:Nat)(h0:aI≠0)(p:Int)(hp:p=-(q:Int)):(Datum.number neg (aI*2 ^ q) p).toInt .zero=some (if neg then -(aI:Int) else (aI:Int)):=by
 subst hp;unfold Datum.toInt Datum.integral;simp only[show (-(q:Int)).toNat=0 by omega,Int.neg_neg,A_,NV,aip neg aI q h0,signed]
theorem air:Ieee.double.read 4890909195324358656=.number false 4503599627370496 11:=by
 have:=SH false 11 4503599627370496 (by omega) (by omega) (by omega);rw[show Ieee.double.word false ((11+1074)*4503599627370496+4503599627370496)=4890909195324358656 by unfold Format.word;decide] at this;exact this
theorem xB{a b:Int}(h:a<b):compare a b=.lt:=by simp[compare,compareOfLessAndEq,h]
theorem Am{a b:Int}(h:a=b):compare a b=.eq:=by subst h;simp[compare,compareOfLessAndEq]
theorem xC{a b:Int}(h:b<a):compare a b=.gt:=by
 have h1:¬ a<b:=by omega
 have h2:¬ a=b:=by omega
 simp[compare,compareOfLessAndEq,h1,h2]
theorem aaq{f:Nat}{s:Bool}{p:Int}(h:Ieee.double.read f=.number s m p)(hp:p≤11) :
 Ieee.double.order f 4890909195324358656=some (compare (if s then -(m:Int) else (m:Int)) ((4503599627370496*2 ^ (11-p).toNat:Nat):Int)):=by
 unfold Format.order;rw[h,air];unfold Datum.order;simp only[show min p 11=p by omega,show (p-p).toNat=0 by omega,signed,za,FR,sP,nD,jc]
theorem SI{f:Nat}{s:Bool}{p:Int}(h:Ieee.double.read f=.number s m p):Ieee.double.order f f=some .eq:=by
 unfold Format.order;rw[h];unfold Datum.order;simp
theorem ais:Ieee.double.read 18442240474082181120=.infinity true:=by decide
theorem aar:Ieee.double.read 0=.number false 0 (-1074):=by decide
theorem MC{f:Nat}{s:Bool}{p:Int}(h:Ieee.double.read f=.number s m p):Ieee.double.order f 18442240474082181120=some .gt∧Ieee.double.order 18442240474082181120 f=some .lt:=by
 unfold Format.order;rw[h,ais];exact⟨rfl,rfl⟩
theorem MD{f:Nat}{s:Bool}{p:Int}(h:Ieee.double.read f=.number s m p)(hm:m≠0)(hp:-1074≤p):Ieee.double.order f 0=some (if s then .lt else .gt):=by
 unfold Format.order;rw[h,aar];unfold Datum.order;have hpos:0<m*2 ^ (p - -1074).toNat:=Dk (NY hm) (kQ (by omega));simp only[show min p (-1074)=-1074 by omega,signed,za];generalize m*2 ^ (p - -1074).toNat=x at hpos ⊢
 cases s
 ·simp only[nD,jc];rw[xC];omega
 simp only[ly];rw[xB];simp;omega
def sh(m:Nat):Nat:=m.log2-52
def fl(i:Int):Nat×Nat:=
 if 0≤i then (Ieee.double.nearest false (i.toNat / 2 ^ sh i.toNat*2 ^ sh i.toNat) 0,i.toNat % 2 ^ sh i.toNat)
 else (Ieee.double.nearest true ((i.natAbs+(2 ^ sh i.natAbs-1)) / 2 ^ sh i.natAbs*2 ^ sh i.natAbs) 0,(i.natAbs+(2 ^ sh i.natAbs-1)) / 2 ^ sh i.natAbs*2 ^ sh i.natAbs-i.natAbs)
theorem aas(t d:Nat)(h1:4503599627370496≤t)(h2:t<9007199254740992):(t*2 ^ d).log2=52+d:=by
 have hp:0<2 ^ d:=kQ (by omega);have h0:t*2 ^ d≠0:=by have:=Dk (show 0<t by omega) hp;omega
 have ha:52+d≤(t*2 ^ d).log2:=by
  rw[Nat.le_log2 h0,mf,MB];exact gq _ h1
 have hb:(t*2 ^ d).log2<52+d+1:=by
  rw[Nat.log2_lt h0,show 52+d+1=53+d by omega,mf,yn];exact xM h2 hp
 omega
theorem SJ(t d:Nat):up (t*2 ^ d) d=false:=by
 have hp:0<2 ^ d:=kQ (by omega);unfold up;rw[Nat.mul_mod_left];simp
theorem SK(neg:Bool)(t d:Nat)(hd1:1≤d)(hd2:d≤10)(h1:4503599627370496≤t)(h2:t≤9007199254740992) :
 Ieee.double.nearest neg (t*2 ^ d) 0=Ieee.double.word neg ((d+1074)*4503599627370496+t):=by
 have hp:∀d:Nat,0<2 ^ d:=fun d=>kQ (by omega)
 rcases xN h2 with h2 | rfl
 ·rw[SD neg _ d (by have:=Dk (show 0<t by omega) (hp d);omega) hd1 (aas t d h1 h2) (by omega),SJ,NZ _ (hp d)];rfl
 rw[show 9007199254740992*2 ^ d=4503599627370496*2 ^ (d+1) by rw[AX];omega,
  SD neg _ (d+1) (by have:=Dk (show 0<4503599627370496 by omega) (hp (d+1));omega) (by omega) (aas _ _ (by omega) (by omega)) (by omega),SJ,NZ _ (hp (d+1))]
 refine dJ (Ieee.double.word neg) ?_;simp only[Ba];omega
theorem ait(neg:Bool)(t d:Nat)(hd2:d≤10)(h1:4503599627370496≤t)(h2:t≤9007199254740992) :
 ∃m p,Ieee.double.read (Ieee.double.word neg ((d+1074)*4503599627370496+t))=.number neg m p∧m≠0∧-1074≤p∧p≤11∧m*2 ^ p.toNat=t*2 ^ d∧0≤p ∧
  (Datum.number neg m p).toInt .zero=some (if neg then -((t*2 ^ d:Nat):Int) else ((t*2 ^ d:Nat):Int)):=by
 rcases xN h2 with h2 | rfl
 ·exact⟨t,d,SH neg d t (by omega) h1 h2,by omega,by omega,by omega,by rw[A_],by omega,aap neg t d⟩
 have e:9007199254740992*2 ^ d=4503599627370496*2 ^ (d+1):=by rw[AX];omega
 refine⟨4503599627370496,((d+1:Nat):Int),ain neg d (by omega),by omega,by omega,by omega,by rw[A_,e],by omega,?_⟩;rw[aap neg _ (d+1),e]
theorem Fb{f:Nat}{s:Bool}{p n:Int}(h:Ieee.double.read f=.number s m p)(ht:(Datum.number s m p).toInt .zero=some n)(h1:-9223372036854775808≤n)(h2:n≤9223372036854775807) :
 floatToIntVal .f64 f .i64=some n:=by
 unfold floatToIntVal;rw[show FloatKind.f64.decode f=.number s m p from h,ht];exact aD ⟨h1,h2⟩
def Step(i:Int)(f0 g:Nat):Prop:=
 f0=g ∨
 (0<i∧f0=g+1∧(Ieee.double.order f0 4890909195324358656=some .eq∨(Ieee.double.order f0 4890909195324358656=some .lt∧∃n',floatToIntVal .f64 f0 .i64=some n'∧i<n')) ∧
  ∃s m p,Ieee.double.read f0=.number s m p∧m≠0∧-1074≤p∧s=false) ∨
 (i<0∧f0+1=g∧(Ieee.double.order f0 4890909195324358656=some .lt∧∃n',floatToIntVal .f64 f0 .i64=some n'∧i<n') ∧
  ∃s m p,Ieee.double.read f0=.number s m p∧m≠0∧-1074≤p∧s=true)
structure aiu (i:Int) (f0 g rest:Nat) (n:Int):Prop where
 eq:n=i-(rest:Int)
 small:rest<2048
 lo:-9223372036854775808≤n
 hi:n≤i
 val:floatToIntVal .f64 g .i64=some n
 lt:Ieee.double.order g 4890909195324358656=some .lt
 ge:Ieee.double.order g 14114281232179134464=some .gt∨Ieee.double.order g 14114281232179134464=some .eq
 bits:g<18446744073709551616
 step:Step i f0 g
theorem aat:Ieee.double.read 14114281232179134464=.number true 4503599627370496 11:=by
 have:=SH true 11 4503599627370496 (by omega) (by omega) (by omega);rw[show Ieee.double.word true ((11+1074)*4503599627370496+4503599627370496)=14114281232179134464 by unfold Format.word;decide] at this;exact this
theorem aau{f:Nat}{s:Bool}{p:Int}(h:Ieee.double.read f=.number s m p)(hp:p≤11) :
 Ieee.double.order f 14114281232179134464=some (compare (if s then -(m:Int) else (m:Int)) (-((4503599627370496*2 ^ (11-p).toNat:Nat):Int))):=by
 unfold Format.order;rw[h,aat];unfold Datum.order;simp only[show min p 11=p by omega,show (p-p).toNat=0 by omega,signed,za,FR,sP,ly]
theorem aav(neg:Bool)(r:Nat)(h:r<9223372036854775808):Ieee.double.word neg r<18446744073709551616:=by
 unfold Format.word;rw[wX];cases neg<;>simp<;>omega
theorem aaw(neg:Bool)(r:Nat):Ieee.double.word neg (r+1)=Ieee.double.word neg r+1:=by
 unfold Format.word;cases neg<;>simp<;>omega
theorem scale(p:Int)(h0:0≤p)(h:p≤11):4503599627370496*2 ^ (11-p).toNat*2 ^ p.toNat=9223372036854775808:=by
 rw[wC,← mf,show (11-p).toNat+p.toNat=11 by omega]
theorem aiv{x:Nat}{p:Int}(h0:0≤p)(h:p≤11)(e:m*2 ^ p.toNat=x):(m<4503599627370496*2 ^ (11-p).toNat↔x<9223372036854775808)∧(m=4503599627370496*2 ^ (11-p).toNat↔x=9223372036854775808):=by
 have hp:0<2 ^ p.toNat:=kQ (by omega);rw[← e,← scale p h0 h];exact⟨(Nat.mul_lt_mul_right hp).symm,⟨fun h=>by rw[h],fun h=>Nat.eq_of_mul_eq_mul_right hp h⟩⟩
theorem IW(neg:Bool)(t d:Nat)(hd2:d≤10)(h1:4503599627370496≤t)(h2:t≤9007199254740992)(h3:t*2 ^ d≤9223372036854775808)(x:Nat)(hx:t*2 ^ d=x)(g:Nat)(hg:g=Ieee.double.word neg ((d+1074)*4503599627370496+t)) :
 (∃s m p,Ieee.double.read g=.number s m p∧m≠0∧-1074≤p∧s=neg)∧g<18446744073709551616 ∧
 (neg=true→floatToIntVal .f64 g .i64=some (-(x:Int))∧Ieee.double.order g 4890909195324358656=some .lt∧(Ieee.double.order g 14114281232179134464=some .gt∨Ieee.double.order g 14114281232179134464=some .eq)) ∧
 (neg=false→(x=9223372036854775808→Ieee.double.order g 4890909195324358656=some .eq) ∧
  (x<9223372036854775808→floatToIntVal .f64 g .i64=some (x:Int)∧Ieee.double.order g 4890909195324358656=some .lt∧Ieee.double.order g 14114281232179134464=some .gt)):=by
 obtain⟨m,p,hr,hm,hp1,hp2,he,hp0,hti⟩:=ait neg t d hd2 h1 h2;rw[hx] at hti he h3;rw[← hg] at hr;obtain⟨b1,b2⟩:=aiv hp0 hp2 he;have ho:=aaq hr hp2;have hn:=aau hr hp2;refine⟨⟨neg,m,p,hr,hm,hp1,rfl⟩,?_,fun e=>?_,fun e=>⟨fun ex=>?_,fun ex=>?_⟩⟩
 ·rw[hg];exact aav _ _ (by omega)
 ·subst e;simp only[ly] at ho hn hti;refine⟨Fb hr hti (by omega) (by omega),?_,?_⟩
  ·rw[ho,xB];omega
  rcases xN h3 with h | h
  ·left;rw[hn,xC];have:=b1.2 h;omega
  right;rw[hn,Am];have:=b2.2 h;omega
 ·subst e;rw[ho,Am];have:=b2.2 ex;simp only[nD,jc];omega
 subst e;simp only[nD,jc] at ho hn hti;have:=b1.2 ex;refine⟨Fb hr hti (by omega) (by omega),?_,?_⟩
 ·rw[ho,xB];omega
 rw[hn,xC];omega
theorem aax(neg:Bool)(aI:Nat)(h0:aI≠0)(hL:aI.log2≤52)(g:Nat)(hg:g=Ieee.double.nearest neg aI 0)(i:Int)(hi:i=if neg then -(aI:Int) else (aI:Int)) :
 g<18446744073709551616∧floatToIntVal .f64 g .i64=some i∧Ieee.double.order g 4890909195324358656=some .lt∧Ieee.double.order g 14114281232179134464=some .gt:=by
 have hlt:=zb (n:=aI);have hge:=Nat.log2_self_le h0;have hp:0<2 ^ (52-aI.log2):=kQ (by omega);have ha:4503599627370496≤aI*2 ^ (52-aI.log2):=by
  have:=gq (2 ^ (52-aI.log2)) hge;rwa [← mf,show aI.log2+(52-aI.log2)=52 by omega,MB] at this
 have hb:aI*2 ^ (52-aI.log2)<9007199254740992:=by
  have:=xM hlt hp;rwa [← mf,show aI.log2+1+(52-aI.log2)=53 by omega,yn] at this
 have hm:aI<9007199254740992:=Nat.lt_of_le_of_lt (Nat.le_mul_of_pos_right _ hp) hb;rw[SC neg aI h0 hL] at hg;have hr:=aio neg aI.log2 _ hL ha hb;rw[← hg] at hr;have hti:=aiq neg aI (52-aI.log2) h0 ((aI.log2:Int)-52) (by omega);have ho:=aaq hr (by omega);have hn:=aau hr (by omega);have hbig:9007199254740992≤4503599627370496*2 ^ (11-((aI.log2:Int)-52)).toNat:=by
  have:2 ^ 1≤2 ^ (11-((aI.log2:Int)-52)).toNat:=ny (by omega) (by omega);omega
 rw[← hi] at hti;refine⟨by rw[hg];exact aav _ _ (by omega),Fb hr hti ?_ ?_,?_,?_⟩
 ·rw[hi];split<;>omega
 ·rw[hi];split<;>omega
 ·rw[ho,xB];split<;>omega
 rw[hn,xC];split<;>omega
theorem Ru(i:Int)(h1:-9223372036854775808≤i)(h2:i≤9223372036854775807) :
 aiu i (FloatKind.f64.nearest i) (fl i).1 (fl i).2 (i-(fl i).2):=by
 have um:FloatKind.f64.nearest i=Ieee.double.nearest (decide (i<0)) i.natAbs 0:=rfl;by_cases hz:i=0
 ·subst hz;have e1:fl 0=(0,0):=by decide
  have e2:FloatKind.f64.nearest 0=0:=by decide
  rw[e1,e2];refine⟨rfl,by omega,by simp,by simp,?_,by decide,.inl (by decide),by simp,.inl rfl⟩;exact Fb aar (by decide) (by simp) (by simp)
 by_cases hmin:i=-9223372036854775808
 ·subst hmin;have e1:fl (-9223372036854775808)=(14114281232179134464,0):=by kernel_rfl
  have e2:FloatKind.f64.nearest (-9223372036854775808)=14114281232179134464:=by kernel_rfl
  rw[e1,e2];refine⟨rfl,by omega,by simp,by simp,?_,by kernel_rfl,.inr (by kernel_rfl),by simp,.inl rfl⟩;exact Fb aat (by kernel_rfl) (by simp) (by simp)
 have hm0:i.natAbs≠0:=by omega
 by_cases hL:i.natAbs.log2≤52
 ·have hsh:sh i.natAbs=0:=by unfold sh;omega
  have hfl:fl i=(FloatKind.f64.nearest i,0):=by
   unfold fl;by_cases hi:0≤i
   ·have e:i.toNat=i.natAbs:=by omega
    rw[aD hi,e,hsh,um];simp only[FR,Nat.div_one,sP,Nat.mod_one,cm (show ¬ i<0 by omega)]
   rw[ak hi,hsh,um];simp only[FR,Nat.div_one,sP,y_,fX,cj (show i<0 by omega)]
  have hs:=aax (decide (i<0)) i.natAbs hm0 hL (FloatKind.f64.nearest i) um i (by by_cases hi:i<0<;>simp[hi]<;>omega);rw[hfl];exact⟨rfl,by omega,by simp;omega,by simp,by simpa using hs.2.1,hs.2.2.1,.inl hs.2.2.2,hs.1,.inl rfl⟩
 obtain⟨d,hd⟩:∃d,i.natAbs.log2=52+d:=⟨i.natAbs.log2-52,by omega⟩;have hsh:sh i.natAbs=d:=by unfold sh;omega
 have hlt:=zb (n:=i.natAbs);have hge:=Nat.log2_self_le hm0;have hd1:1≤d:=by omega
 have hd2:d≤11:=by
  rcases gp d 12 with h | h
  ·omega
  have:2 ^ 64≤2 ^ i.natAbs.log2:=ny (by omega) (by omega);have e:(2:Nat) ^ 64=18446744073709551616:=by decide
  omega
 have hp:0<2 ^ d:=kQ (by omega);obtain⟨t,ht⟩:∃t,i.natAbs / 2 ^ d=t:=⟨_,rfl⟩;obtain⟨r,hr⟩:∃r,i.natAbs % 2 ^ d=r:=⟨_,rfl⟩;have zK:i.natAbs=t*2 ^ d+r:=by rw[← ht,← hr,xL];exact(Dl _ _).symm
 have hrl:r<2 ^ d:=by rw[← hr];exact Bb _ hp
 have Qd:2 ^ d≤2 ^ 11:=ny (by omega) hd2;have e11:(2:Nat) ^ 11=2048:=by decide
 have ht1:4503599627370496≤t:=by
  rw[← ht,Nat.le_div_iff_mul_le hp,← MB,← mf,← hd];exact hge
 have ht2:t<9007199254740992:=by
  rw[← ht,NW hp,← yn,← mf,show 53+d=i.natAbs.log2+1 by omega];exact hlt
 have B6:=fun neg=>SD neg i.natAbs d hm0 hd1 hd hd2
 rw[ht] at B6;have hup:up i.natAbs d=true→r≠0:=by
  intro hu zr;rw[zK,zr,fX,SJ] at hu
  cases hu
 have Fe:d≤10:=by
  rcases gp d 11 with h | h
  ·omega
  have:2 ^ 63≤2 ^ i.natAbs.log2:=ny (by omega) (by omega);have e:(2:Nat) ^ 63=9223372036854775808:=by decide
  omega
 have h63:(t+1)*2 ^ d≤9223372036854775808:=by
  have e:(9223372036854775808:Nat)=2 ^ (63-d)*2 ^ d:=by rw[← mf,show 63-d+d=63 by omega]
  have h3:t*2 ^ d<9223372036854775808:=by omega
  rw[e] at h3 ⊢;exact gq _ (Nat.lt_of_mul_lt_mul_right h3)
 have e1:(t+1)*2 ^ d=t*2 ^ d+2 ^ d:=uz _ _;rw[um];by_cases hi:0≤i
 ·have e:i.toNat=i.natAbs:=by omega
  have hfl:fl i=(Ieee.double.word false ((d+1074)*4503599627370496+t),r):=by
   unfold fl;rw[aD hi,e,hsh,ht,hr,SK false t d hd1 Fe ht1 (by omega)]
  rw[hfl,cm (show ¬ i<0 by omega),B6];obtain⟨⟨s,m,p,a1,a2,a3,a4⟩,v2,-,v4⟩:=IW false t d Fe ht1 (by omega) (by omega) _ rfl _ rfl;have hv:=(v4 rfl).2 (by omega);have en:i-(r:Int)=((t*2 ^ d:Nat):Int):=by omega
  refine⟨rfl,by omega,by simp only;omega,by simp only;omega,by simp only;rw[en];exact hv.1,hv.2.1,.inl hv.2.2,v2,?_⟩
  cases hu:up i.natAbs d with
  | false=>exact .inl rfl
  | true =>
   refine .inr (.inl ⟨by omega,?_,?_⟩)
   ·rw[← aaw,Ke,lu]
   obtain⟨w1,w2,-,w4⟩:=IW false (t+1) d Fe (by omega) (by omega) h63 _ rfl _ rfl;rw[Ke];refine⟨?_,w1⟩;rcases xN h63 with h | h
   ·have hw:=(w4 rfl).2 h;exact .inr ⟨hw.2.1,_,hw.1,by omega⟩
   exact .inl ((w4 rfl).1 h)
 obtain⟨u,hu⟩:∃u,(i.natAbs+(2 ^ d-1)) / 2 ^ d=u:=⟨_,rfl⟩;have hu2:u=if r=0 then t else t+1:=by
  rw[← hu,zK,show t*2 ^ d+r+(2 ^ d-1)=(r+(2 ^ d-1))+t*2 ^ d by omega,Nat.add_mul_div_right _ _ hp];split
  ·rw[Kf (by omega)];omega
  rw[Nat.div_eq_of_lt_le (k:=1) (by omega) (by omega)];omega
 have LA:t≤u∧u≤t+1:=by rw[hu2];split<;>omega
 have aiw:u*2 ^ d≤9223372036854775808:=aV (gq _ LA.2) h63;have hfl:fl i=(Ieee.double.word true ((d+1074)*4503599627370496+u),u*2 ^ d-i.natAbs):=by
  unfold fl;rw[ak hi,hsh,hu,SK true u d hd1 Fe (by omega) (by omega)]
 have hum:i.natAbs≤u*2 ^ d∧u*2 ^ d<i.natAbs+2048:=by
  rw[hu2];split
  ·rename_i h;rw[h] at zK;omega
  omega
 rw[hfl,cj (show i<0 by omega),B6];obtain⟨v1,v2,v3,-⟩:=IW true u d Fe (by omega) (by omega) aiw _ rfl _ rfl;have hv:=v3 rfl;have en:i-((u*2 ^ d-i.natAbs:Nat):Int)=-((u*2 ^ d:Nat):Int):=by omega
 refine⟨rfl,by simp only;omega,by simp only;omega,by simp only;omega,by simp only;rw[en];exact hv.1,hv.2.1,hv.2.2,v2,?_⟩
 cases aix:up i.natAbs d with
 | true =>
  left;have:=hup aix;rw[hu2,ak this];rfl
 | false =>
  by_cases zr:r=0
  ·left;rw[hu2,aD zr];simp only[Ba,fX]
  refine .inr (.inr ⟨by omega,?_,?_⟩)
  ·rw[hu2,ak zr];simp only[Ba,fX];rw[← aaw,lu]
  obtain⟨w1,w2,w3,-⟩:=IW true t d Fe (by omega) (by omega) (by omega) _ rfl _ rfl;rw[Ba];have hw:=w3 rfl;exact⟨⟨hw.2.1,_,hw.1,by omega⟩,w1⟩
end
section
open Ieee Go
def rv(r:Nat):Nat:=if r<4503599627370496 then r else (4503599627370496+r % 4503599627370496)*2 ^ (r / 4503599627370496-1)
theorem aay(r:Nat):rv r<rv (r+1):=by
 unfold rv;by_cases h1:r+1<4503599627370496
 ·rw[aD (by omega),aD h1];omega
 by_cases h2:r<4503599627370496
 ·obtain rfl:r=4503599627370495:=by omega
  rw[aD (by omega),ak (by omega)];decide
 rw[ak h2,ak h1];obtain⟨e,he⟩:∃e,r / 4503599627370496=e+1:=⟨r / 4503599627370496-1,by omega⟩;have hp:0<2 ^ e:=kQ (by omega);by_cases h3:r % 4503599627370496+1<4503599627370496
 ·rw[show (r+1) / 4503599627370496=e+1 by omega,show (r+1) % 4503599627370496=r % 4503599627370496+1 by omega,he,Bd];exact xM (by omega) hp
 rw[show (r+1) / 4503599627370496=e+2 by omega,show (r+1) % 4503599627370496=0 by omega,he,Bd,show e+2-1=e+1 by omega,AX];have:(4503599627370496+r % 4503599627370496)*2 ^ e<(4503599627370496*2)*2 ^ e:=xM (by omega) hp;rw[fX,← wC,Nat.mul_right_comm];exact this
theorem ME{a b:Nat}(h:a<b):rv a<rv b:=by
 obtain⟨d,rfl⟩:∃d,b=a+1+d:=⟨b-a-1,by omega⟩;clear h
 induction d with
 | zero=>exact aay a
 | succ d ih=>exact FO ih (aay _)
theorem aaz:rv 0=0:=rfl
theorem aiy{r:Nat}(h:0<r):0<rv r:=by have:=ME h;rwa [aaz] at this
def sv(n:Nat):Int:=if n<9223372036854775808 then (rv n:Int) else -(rv (n-9223372036854775808):Int)
theorem IX{n:Nat}(hn:n<18446744073709551616)(hf:n % 9223372036854775808<9218868437227405312) :
 ∃m p,Ieee.double.read n=.number (decide (9223372036854775808≤n)) m p∧-1074≤p∧m*2 ^ (p+1074).toNat=rv (n % 9223372036854775808)∧m<9007199254740992∧(-1074<p→4503599627370496≤m):=by
 have hs:(n / 9223372036854775808 % 2==1)=decide (9223372036854775808≤n):=by
  by_cases h:9223372036854775808≤n
  ·rw[cj h,show n / 9223372036854775808 % 2=1 by omega];rfl
  rw[cm h,show n / 9223372036854775808 % 2=0 by omega];rfl
 unfold Format.read;simp only[wX,IQ,Ep,IU,hs];generalize n % 9223372036854775808=r at hf;unfold rv;by_cases h:r<4503599627370496
 ·rw[aD h,aD h];exact⟨_,_,rfl,by omega,by simp,by omega,fun hh=>by omega⟩
 rw[ak h,ak h,aD hf];refine⟨_,_,rfl,by omega,?_,by omega,fun _=>by omega⟩;rw[show (-1074+((r / 4503599627370496-1:Nat):Int)+1074).toNat=r / 4503599627370496-1 by omega]
theorem SM{n:Nat}(hn:n<18446744073709551616)(hf:n % 9223372036854775808=9218868437227405312):Ieee.double.read n=.infinity (decide (9223372036854775808≤n)):=by
 have hs:(n / 9223372036854775808 % 2==1)=decide (9223372036854775808≤n):=by
  by_cases h:9223372036854775808≤n
  ·rw[cj h,show n / 9223372036854775808 % 2=1 by omega];rfl
  rw[cm h,show n / 9223372036854775808 % 2=0 by omega];rfl
 unfold Format.read;simp only[wX,IQ,Ep,IU,hs];rw[hf,ak (by omega),ak (by omega),aD rfl]
theorem aiz{n:Nat}(hf:9218868437227405312<n % 9223372036854775808):∃s t,Ieee.double.read n=.nan s t:=by
 unfold Format.read;simp only[wX,IQ,Ep,IU];rw[ak (by omega),ak (by omega),ak (by omega)];exact⟨_,_,rfl⟩
theorem aiA(a b:Int)(c:Nat)(hc:0<c):compare (a*(c:Int)) (b*(c:Int))=compare a b:=by
 have hc':(0:Int)<(c:Int):=by omega
 rcases wD a b with h | h | h
 ·rw[xB h,xB (N6 h hc')]
 ·rw[Am h,Am (by rw[h])]
 rw[xC h,xC (N6 h hc')]
theorem aaA(s:Bool)(m:Nat)(p base:Int)(h1:-1074≤base)(h2:base≤p):signed s m (p-base).toNat*((2 ^ (base+1074).toNat:Nat):Int)=if s then -((m*2 ^ (p+1074).toNat:Nat):Int) else ((m*2 ^ (p+1074).toNat:Nat):Int):=by
 have e:m*2 ^ (p-base).toNat*2 ^ (base+1074).toNat=m*2 ^ (p+1074).toNat:=by
  rw[wC,← mf,show (p-base).toNat+(base+1074).toNat=(p+1074).toNat by omega]
 unfold signed;rw[za]
 cases s
 ·simp only[nD,jc];rw[← sU,e]
 simp only[ly];rw[xO,← sU,e]
theorem MF{n:Nat}(hn:n<18446744073709551616):sv n=if decide (9223372036854775808≤n)=true then -(rv (n % 9223372036854775808):Int) else (rv (n % 9223372036854775808):Int):=by
 unfold sv;by_cases h:9223372036854775808≤n
 ·rw[ak (by omega),cj h,aD rfl,show n % 9223372036854775808=n-9223372036854775808 by omega]
 rw[aD (by omega),cm h,ak (by decide),show n % 9223372036854775808=n by omega]
theorem MG{a b:Nat}(ha:a<18446744073709551616)(hb:b<18446744073709551616)(na:a % 9223372036854775808≤9218868437227405312)(nb:b % 9223372036854775808≤9218868437227405312) :
 Ieee.double.order a b=some (compare (sv a) (sv b)):=by
 unfold Format.order;rw[MF ha,MF hb];rcases xN na with na | na
 ·obtain⟨m,p,h1,h2,h3,-,-⟩:=IX ha na;rw[h1];rcases xN nb with nb | nb
  ·obtain⟨m',p',k1,k2,k3,-,-⟩:=IX hb nb;rw[k1];unfold Datum.order;simp only;have hc:=aiA (signed (decide (9223372036854775808≤a)) m (p-min p p').toNat) (signed (decide (9223372036854775808≤b)) m' (p'-min p p').toNat) (2 ^ (min p p'+1074).toNat) (kQ (by omega));rw[aaA _ _ _ _ (by omega) (by omega),aaA _ _ _ _ (by omega) (by omega),h3,k3] at hc;rw[← hc]
  rw[SM hb nb,nb];have:=ME na;unfold Datum.order;simp only;generalize decide (9223372036854775808≤a)=s;generalize decide (9223372036854775808≤b)=t
  cases t
  ·simp only[nD,jc];rw[xB (by split<;>omega)]
  simp only[ly];rw[xC (by split<;>omega)]
 rw[SM ha na,na];rcases xN nb with nb | nb
 ·obtain⟨m',p',k1,k2,k3,-,-⟩:=IX hb nb;rw[k1];have:=ME nb;unfold Datum.order;simp only;generalize decide (9223372036854775808≤a)=s;generalize decide (9223372036854775808≤b)=t
  cases s
  ·simp only[nD,jc];rw[xC (by split<;>omega)]
  simp only[ly];rw[xB (by split<;>omega)]
 rw[SM hb nb,nb];unfold Datum.order;simp only;have:=aiy (show 0<9218868437227405312 by omega);generalize decide (9223372036854775808≤a)=s;generalize decide (9223372036854775808≤b)=t;generalize rv 9218868437227405312=x at this ⊢
 cases s<;>cases t<;>simp only[nD,jc,ly]
 ·rw[Am rfl];rfl
 ·rw[xC (by omega)];rfl
 ·rw[xB (by omega)];rfl
 rw[Am rfl];rfl
theorem aiB{a b:Nat}(na:9218868437227405312<a % 9223372036854775808):Ieee.double.order a b=none:=by
 obtain⟨s,t,h⟩:=aiz na;unfold Format.order;rw[h];rfl
theorem exU(j:Nat):∃u:Nat,∀k,k=j→u=2 ^ k:=⟨2 ^ j,fun k h=>by rw[h]⟩
theorem aaB:∃u:Nat,∀k,k=1074→u=2 ^ k:=exU 1074
noncomputable def U1:Nat:=Classical.choose aaB
theorem IY(k:Nat)(h:k=1074):2 ^ k=U1:=(xP aaB k h).symm
theorem SN:0<U1:=by
 obtain⟨k,hk⟩:∃k,k=1074:=⟨_,rfl⟩;rw[← IY k hk];exact kQ (by decide)
theorem aaC(e t:Nat)(h1:4503599627370496≤t)(h2:t≤9007199254740992):rv (e*4503599627370496+t)=t*2 ^ e:=by
 unfold rv;rw[ak (by omega)];rcases xN h2 with h | rfl
 ·rw[show (e*4503599627370496+t) / 4503599627370496=e+1 by omega,show (e*4503599627370496+t) % 4503599627370496=t-4503599627370496 by omega,Bd,show 4503599627370496+(t-4503599627370496)=t by omega]
 rw[show (e*4503599627370496+9007199254740992) / 4503599627370496=e+2 by omega,show (e*4503599627370496+9007199254740992) % 4503599627370496=0 by omega,show e+2-1=e+1 by omega,AX];omega
theorem SP(neg:Bool)(r:Nat)(h:r<9223372036854775808):sv (Ieee.double.word neg r)=if neg then -(rv r:Int) else (rv r:Int):=by
 unfold sv Format.word;rw[wX]
 cases neg
 ·simp only[nD,jc];rw[aD h]
 simp only[ly];rw[ak (by omega),show 9223372036854775808+r-9223372036854775808=r by omega]
theorem aiC(neg:Bool)(aI:Nat)(h0:aI≠0)(hL:aI.log2≤52):sv (Ieee.double.nearest neg aI 0)=if neg then -((aI*U1:Nat):Int) else ((aI*U1:Nat):Int):=by
 have hlt:=zb (n:=aI);have hge:=Nat.log2_self_le h0;have hp:0<2 ^ (52-aI.log2):=kQ (by omega);have ha:4503599627370496≤aI*2 ^ (52-aI.log2):=by
  have:=gq (2 ^ (52-aI.log2)) hge;rwa [← mf,show aI.log2+(52-aI.log2)=52 by omega,MB] at this
 have hb:aI*2 ^ (52-aI.log2)<9007199254740992:=by
  have:=xM hlt hp;rwa [← mf,show aI.log2+1+(52-aI.log2)=53 by omega,yn] at this
 rw[SC neg aI h0 hL,SP _ _ (by omega),aaC _ _ ha (by omega),wC,← mf,IY (52-aI.log2+(aI.log2+1022)) (by omega)]
theorem SQ(neg:Bool)(t d:Nat)(hd2:d≤11)(h1:4503599627370496≤t)(h2:t≤9007199254740992):sv (Ieee.double.word neg ((d+1074)*4503599627370496+t))=if neg then -((t*2 ^ d*U1:Nat):Int) else ((t*2 ^ d*U1:Nat):Int):=by
 rw[SP _ _ (by omega),aaC _ _ h1 h2,mf,← wC,IY _ rfl]
theorem SR(neg:Bool)(r:Nat)(h:r<9223372036854775808):Ieee.double.word neg r % 9223372036854775808=r:=aam r h neg
theorem aiD(neg:Bool)(r:Nat)(h:r<9223372036854775808):Ieee.double.word neg r<18446744073709551616:=by
 unfold Format.word;rw[wX];cases neg<;>simp<;>omega
theorem SS(neg:Bool)(aI:Nat)(h:aI.log2≤52∨∃t d,1≤d∧d≤10∧4503599627370496≤t∧t≤9007199254740992∧aI=t*2 ^ d)(hr:aI≤9223372036854775808)(hn:neg=false→aI<9223372036854775808) :
 Ieee.double.nearest neg aI 0<18446744073709551616∧Ieee.double.nearest neg aI 0 % 9223372036854775808<9218868437227405312 ∧
 sv (Ieee.double.nearest neg aI 0)=(if neg then -(aI:Int) else (aI:Int))*(U1:Int)∧floatToIntVal .f64 (Ieee.double.nearest neg aI 0) .i64=some (if neg then -(aI:Int) else (aI:Int)):=by
 by_cases h0:aI=0
 ·subst h0;have e:Ieee.double.nearest neg 0 0=Ieee.double.word neg 0:=by unfold Format.nearest;rw[aD rfl]
  rw[e];refine⟨aiD _ _ (by omega),by rw[SR _ _ (by omega)];omega,by rw[SP _ _ (by omega),aaz];cases neg<;>simp,?_⟩;have hr:Ieee.double.read (Ieee.double.word neg 0)=.number neg 0 (-1074):=by cases neg<;>decide
  exact Fb hr (by cases neg<;>decide) (by cases neg<;>simp) (by cases neg<;>simp)
 by_cases hL:aI.log2≤52
 ·obtain⟨a1,a2,-,-⟩:=aax neg aI h0 hL _ rfl _ rfl;have hs:=aiC neg aI h0 hL;have hlt:=zb (n:=aI);have hp:0<2 ^ (52-aI.log2):=kQ (by omega);have hb:aI*2 ^ (52-aI.log2)<9007199254740992:=by
   have:=xM hlt hp;rwa [← mf,show aI.log2+1+(52-aI.log2)=53 by omega,yn] at this
  have hm:=SR neg ((aI.log2+1022)*4503599627370496+aI*2 ^ (52-aI.log2)) (by omega);refine⟨a1,by rw[SC _ _ h0 hL,hm];omega,?_,a2⟩;rw[hs,sU]
  cases neg
  ·simp only[nD,jc]
  simp only[ly];rw[xO]
 obtain⟨t,d,hd1,hd2,ht1,ht2,rfl⟩:=h.resolve_left hL;rw[SK neg t d hd1 hd2 ht1 ht2];have hs:=SQ neg t d (by omega) ht1 ht2;have hm:=SR neg ((d+1074)*4503599627370496+t) (by omega);obtain⟨-,v2,v3,v4⟩:=IW neg t d hd2 ht1 ht2 hr _ rfl _ rfl;refine⟨v2,by rw[hm];omega,?_,?_⟩
 ·rw[hs,sU]
  cases neg
  ·simp only[nD,jc]
  simp only[ly];rw[xO]
 cases neg
 ·simp only[nD,jc];exact((v4 rfl).2 (hn rfl)).1
 simp only[ly];exact(v3 rfl).1
theorem aiE(m q:Nat):Toward.down.cut false m q*2 ^ q≤m∧m<(Toward.down.cut false m q+1)*2 ^ q:=by
 have hc:Toward.down.cut false m q=m / 2 ^ q:=by
  unfold Toward.cut;simp only[FX,Ba,fX,IV];rcases gp (m.log2+2) q with hq | hq
  ·have:=zb (n:=m);rw[FY (by omega),Kf (bG this (ny (by omega) (by omega))),Kf (bG this (ny (by omega) (by omega)))]
  rw[pj (by omega)]
 have hp:0<2 ^ q:=kQ (by omega);rw[hc];exact⟨Nat.div_mul_le_self _ _,by rw[uz];have:=Dl m (2 ^ q);have:=Bb m hp;rw[xL];omega⟩
theorem aiF(m q:Nat):m≤Toward.down.cut true m q*2 ^ q∧Toward.down.cut true m q*2 ^ q<m+2 ^ q:=by
 have hp:0<2 ^ q:=kQ (by omega);by_cases hq:m.log2+2<q
 ·have hlt:=zb (n:=m);have h1:m<2 ^ (m.log2+2):=bG hlt (ny (by omega) (by omega));have h2:m<2 ^ q:=bG hlt (ny (by omega) (by omega));have hc:Toward.down.cut true m q=(m != 0).toNat:=by
   unfold Toward.cut;simp only[pc,IV,FY (show m.log2+2≤q by omega)];rw[Kf h1,Nat.mod_eq_of_lt h1,eo]
  rw[hc];by_cases h0:m=0
  ·subst h0;simp;exact hp
  have:(m != 0)=true:=by simpa using h0
  rw[this];simp only[Ke,n_];omega
 have hc:Toward.down.cut true m q=m / 2 ^ q+(m % 2 ^ q != 0).toNat:=by
  unfold Toward.cut;simp only[pc,IV,pj (show q≤m.log2+2 by omega)]
 rw[hc,ki];have h1:=Dl m (2 ^ q);have h2:=Bb m hp;rw[xL] at h1;by_cases h0:m % 2 ^ q=0
 ·have:(m % 2 ^ q != 0)=false:=by simp[h0]
  rw[this];simp only[Ba,FK];omega
 have:(m % 2 ^ q != 0)=true:=by simpa using h0
 rw[this];simp only[Ke,n_];omega
def nj(f:Nat):Nat:=Ieee.double.write ((Ieee.double.read f).integral .down)
theorem SU(c:Nat)(h:c<9007199254740992):c.log2≤52:=by
 by_cases h0:c=0
 ·subst h0;decide
 have:=(Nat.log2_lt h0 (k:=53)).2 (by rw[yn];exact h);omega
theorem aiG(f:Nat)(hf:f<18446744073709551616)(fin:f % 9223372036854775808<9218868437227405312)(hlo:-9223372036854775808*(U1:Int)≤sv f)(hhi:sv f<9223372036854775808*(U1:Int)) :
 ∃k:Int,nj f<18446744073709551616∧nj f % 9223372036854775808<9218868437227405312∧sv (nj f)=k*(U1:Int)∧floatToIntVal .f64 (nj f) .i64=some k∧k*(U1:Int)≤sv f∧sv f<(k+1)*(U1:Int):=by
 have hu:=SN;obtain⟨m,p,h1,h2,h3,h4,h5⟩:=IX hf fin;have mD:=MF hf;rw[← h3] at mD;generalize decide (9223372036854775808≤f)=s at h1 mD;unfold nj;rw[h1];unfold Datum.integral;simp only;unfold Format.write;simp only;rcases Int.lt_or_le p 0 with hp | hp
 ·obtain⟨q,rfl⟩:∃q:Nat,p=-(q:Int):=⟨(-p).toNat,by omega⟩;have e1:(-(q:Int)).toNat=0:=by omega
  have e2:(- -(q:Int)).toNat=q:=by omega
  rw[e1,e2,NV];obtain⟨P,hP⟩:∃P,2 ^ (-(q:Int)+1074).toNat=P:=⟨_,rfl⟩;have hPp:0<P:=by rw[← hP];exact kQ (by omega)
  have hU:U1=2 ^ q*P:=by rw[← hP,← mf,IY _ (by omega)]
  rw[hP] at mD;have hq:2 ^ 1≤2 ^ q:=ny (by omega) (by omega)
  cases s
  ·have hc:=aiE m q;obtain⟨c,hcc⟩:∃c,Toward.down.cut false m q=c:=⟨_,rfl⟩;rw[hcc] at hc ⊢;have hc2:c<9007199254740992:=by
    rcases gp c 9007199254740992 with h | h
    ·exact h
    have:=Ko h hq;omega
   obtain⟨w1,w2,w3,w4⟩:=SS false c (.inl (SU c hc2)) (by omega) (fun _=>by omega);simp only[nD,jc] at w3 w4 mD;refine⟨c,w1,w2,w3,w4,?_,?_⟩
   ·rw[mD,hU,← sU];have:=gq P hc.1;rw[wC] at this;omega
   rw[mD,hU];have:=xM hc.2 hPp;rw[wC] at this;have e:((c:Int)+1)*((2 ^ q*P:Nat):Int)=(((c+1)*(2 ^ q*P):Nat):Int):=by rw[sU];rfl
   rw[e];omega
  have hc:=aiF m q;obtain⟨c,hcc⟩:∃c,Toward.down.cut true m q=c:=⟨_,rfl⟩;rw[hcc] at hc ⊢;have hc2:c<9007199254740992:=by
   rcases gp c 9007199254740992 with h | h
   ·exact h
   have h3:=gq (2 ^ q) h;have:9007199254740991*2 ^ q+2 ^ q=9007199254740992*2 ^ q:=by omega
   have:=N7 9007199254740991 hq;omega
  obtain⟨w1,w2,w3,w4⟩:=SS true c (.inl (SU c hc2)) (by omega) (fun h=>by cases h);simp only[ly] at w3 w4 mD;refine⟨-(c:Int),w1,w2,w3,w4,?_,?_⟩
  ·rw[mD,hU,xO,← sU];have:=gq P hc.1;rw[wC] at this;omega
  rw[mD,hU,Int.add_mul,xO,← sU,Int.one_mul];have:=xM hc.2 hPp;rw[wC,ki] at this;omega
 obtain⟨d,rfl⟩:∃d:Nat,p=(d:Int):=⟨p.toNat,by omega⟩;have e1:((d:Int)).toNat=d:=by omega
 have e2:(-(d:Int)).toNat=0:=by omega
 have e3:((d:Int)+1074).toNat=d+1074:=by omega
 have hm:=h5 (by omega);rw[e1,e2,SB,za];rw[e3,mf,← wC,IY _ rfl,sU] at mD;obtain⟨x,hx⟩:∃x,m*2 ^ d=x:=⟨_,rfl⟩;rw[hx] at mD ⊢;have hx1:x≤9223372036854775808:=by
  cases s
  ·simp only[nD,jc] at mD;rw[mD] at hhi;have:=Int.lt_of_mul_lt_mul_right hhi (by omega);omega
  simp only[ly] at mD;rw[mD,← xO] at hlo;have:=Int.le_of_mul_le_mul_right hlo (by omega);omega
 have hx2:s=false→x<9223372036854775808:=by
  intro e;subst e;simp only[nD,jc] at mD;rw[mD] at hhi;have:=Int.lt_of_mul_lt_mul_right hhi (by omega);omega
 have hd:d≤11:=by
  rcases gp d 12 with h | h
  ·omega
  have h6:2 ^ 12≤2 ^ d:=ny (by omega) h;have h7:=Ko hm h6;have e12:(2:Nat) ^ 12=4096:=by decide
  rw[hx] at h7;omega
 have hform:x.log2≤52∨∃t d,1≤d∧d≤10∧4503599627370496≤t∧t≤9007199254740992∧x=t*2 ^ d:=by
  by_cases hd0:d=0
  ·subst hd0;refine .inl (SU x ?_);rw[← hx];simp;omega
  by_cases aiH:d=11
  ·subst aiH;have e11:(2:Nat) ^ 11=2048:=by decide
   refine .inr ⟨9007199254740992,10,by omega,by omega,by omega,by omega,?_⟩;have e10:(2:Nat) ^ 10=1024:=by decide
   omega
  exact .inr ⟨m,d,by omega,by omega,hm,by omega,hx.symm⟩
 obtain⟨w1,w2,w3,w4⟩:=SS s x hform hx1 hx2;refine⟨_,w1,w2,w3,w4,?_,?_⟩
 ·rw[mD];cases s
  ·simp only[nD,jc];omega
  simp only[ly];rw[xO];omega
 rw[mD];cases s
 ·simp only[nD,jc];rw[Int.add_mul,Int.one_mul];omega
 simp only[ly];rw[Int.add_mul,xO,Int.one_mul];omega
end
section
variable {P:Program}
theorem MH(w:World)(dT sT ty elem:TypeId)(z g o dLen dCap:Nat)(a:Addr)(sLen sCap:Nat)(cs:List Value)
 (hu:P.underlying dT=some (.slice elem)) (hs:(P.info? elem).map (·.size)=some z) (hn:cs.length=Nat.min sLen dLen*z)
 (hsrc:∀j v,cs[j]?=some v→w.cell? (a.add j)=some v) (hc:∀j,j<cs.length→(w.cell? ⟨g,o+j,none⟩).isSome=true) (hf:∀j,j<cs.length→w.frozen? ⟨g,o+j,none⟩=false) (h1:∀v∈cs,v.oneCell'=true) :
 (Builtin.copy_ #[dT,sT] ty #[.slice (some ⟨g,o,none⟩) dLen dCap,.slice (some a) sLen sCap]).run P w=.ok (goInt (Nat.min sLen dLen)) (w.setCells g o cs):=by
 have hl:=run_loadCells_list (P:=P) w a cs hsrc;have hst:=run_storeCells_cells (P:=P) g o cs 0 w (by simpa using hc) (by simpa using hf) h1;simp only[fX] at hst
 cases hq:P.info? elem with
 | none=>simp[hq] at hs
 | some i =>
  have hi:i.size=z:=by simpa [hq] using hs
  simp[Builtin.copy_,wj hu,Builtin.lenOf,Builtin.firstCells,sizeOf,typeInfo,hq,hi,← hn,hl,hst]
theorem aiI(zs:Array Value):(Builtin.zeroCells zs 1).toList=zs.toList:=by
 apply List.ext_getElem
 ·simp[Builtin.zeroCells]
 intro i h1 h2;have hi:i<zs.size:=by simpa using h2
 simp[Builtin.zeroCells,Nat.mod_eq_of_lt hi,hi]
theorem aiJ(w:World)(t e ty:TypeId)(zv:Value)(zs:List Value)(ht:P.underlying t=some (.slice e))(hv:∀w,(zeroValue e).run P w=.ok zv w)(hz:zv.cells.toList=zs)(h1:∀v∈zs,v.oneCell'=true)(b o c:Nat)
 (hc:∀j,j<zs.length→(w.cell? ⟨b,o+j,none⟩).isSome=true) (hf:∀j,j<zs.length→w.frozen? ⟨b,o+j,none⟩=false) :
 (Builtin.clear_ #[t] ty #[.slice (some ⟨b,o,none⟩) 1 c]).run P w=.ok (.tuple #[]) (w.setCells b o zs):=by
 have hst:=run_storeCells_cells (P:=P) b o zs 0 w (by simpa using hc) (by simpa using hf) h1;simp only[fX] at hst;simp[Builtin.clear_,wj ht,hv,aiI,hz,hst]
end
theorem ju{n:Nat}(h:w.ownsRow base T z (.slice A n c) n xs)(hn:0<n) :
 ∃g cur,A=some ⟨g,0,none⟩∧base≤g∧w.heap[g]?=some (.cells cur T (0,0))∧n≤c∧c≤maxLen∧cur.size=c*z∧cur.toList.take (n*z)=xs∧xs.length=n*z:=by
 obtain⟨hl,h0 | ⟨g,cap,cur,hv,hb,hg,hnc,hcm,hcs,ht⟩⟩:=h
 ·omega
 injection hv with h1 _ h3;subst h1 h3;exact⟨g,cur,rfl,hb,hg,hnc,hcm,hcs,ht,hl⟩
theorem mv(hg:w.heap[g]?=some (.cells cur T (0,0)))(j:Nat)(hj:j<cur.size):(w.cell? ⟨g,j,none⟩).isSome=true∧w.frozen? ⟨g,j,none⟩=false:=by
 constructor
 ·rw[AP w g j cur T (0,0) hg,Array.getElem?_eq_getElem hj];rfl
 simp[World.frozen?,hg]
theorem wV{n:Nat}(hg:w.heap[g]?=some (.cells cur T (0,0)))(ht:cur.toList.take (n*z)=xs)(j:Nat)(v:Value)(hj:xs[j]?=some v):w.cell? ⟨g,j,none⟩=some v:=by
 rw[AP w g j cur T (0,0) hg,← nC];rw[← ht,Df] at hj;split at hj
 ·exact hj
 cases hj
theorem Ej{n:Nat}(hb:base≤g)(hg:w.heap[g]?=some (.cells cur T (0,0)))(hnc:n≤c)(hcm:c≤maxLen)(hcs:cur.size=c*z)(ht:cur.toList.take (n*z)=xs)(hl:xs.length=n*z):w.ownsRow base T z (.slice (some ⟨g,0,none⟩) n c) n xs:=
 ⟨hl,.inr ⟨g,c,cur,rfl,hb,hg,hnc,hcm,hcs,ht⟩⟩
theorem w_{o:Nat}(hg:w.heap[g]?=some (.cells cur T (0,0)))(vs:List Value)(h:o+vs.length≤cur.size) :
 ∃cur':Array Value,(w.setCells g o vs).heap[g]?=some (.cells cur' T (0,0))∧cur'.size=cur.size∧cur'.toList=cur.toList.take o++vs++cur.toList.drop (o+vs.length):=
 ⟨_,Ku g T vs w o cur hg h,by simp;omega,by simp⟩
theorem SV{α:Type}(l vs r:List α)(o k:Nat)(ho:o≤l.length)(hk:k=o+vs.length):(l.take o++vs++r).take k=l.take o++vs:=by
 rw[List.take_left'];simp;omega
theorem aiK{n:Nat}{zs:List Value}(h:w.ownsRow base T z (.slice (some ⟨g,0,none⟩) n c) n xs)(i:Nat)(hi:i<n)(hz:zs.length=z) :
 ((w.setCells g (i*z) (xs.drop ((i+1)*z))).setCells g ((n-1)*z) zs).ownsRow base T z (.slice (some ⟨g,0,none⟩) (n-1) c) (n-1) (xs.take (i*z)++xs.drop ((i+1)*z)):=by
 obtain⟨g',cur,hA,hb,hg,hnc,hcm,hcs,ht,hl⟩:=ju h (by omega);injection hA with hA;injection hA with hA _;subst hA;have h1:(i+1)*z≤n*z:=gq _ hi;have h2:n*z≤c*z:=gq _ hnc;have h3:(i+1)*z=i*z+z:=by rw[ki,n_]
 have h4:n*z=(n-1)*z+z:=by
  obtain⟨m,rfl⟩:∃m,n=m+1:=⟨n-1,by omega⟩;rw[Bd,ki,n_]
 have hd:(xs.drop ((i+1)*z)).length=n*z-(i+1)*z:=by rw[iw,hl]
 obtain⟨c1,hg1,hs1,e1⟩:=w_ (o:=i*z) hg (xs.drop ((i+1)*z)) (by rw[hd];omega);obtain⟨c2,hg2,hs2,e2⟩:=w_ (o:=(n-1)*z) hg1 zs (by rw[hz,hs1,hcs];omega);have hcl:cur.toList.length=c*z:=by simpa using hcs
 have Ap:cur.toList.take (i*z)=xs.take (i*z):=by rw[← ht,FZ,pj (by omega)]
 have hc1:c1.toList.take ((n-1)*z)=xs.take (i*z)++xs.drop ((i+1)*z):=by
  rw[e1,SV _ _ _ _ _ (by omega) (by rw[hd];omega),Ap]
 have anK:c1.toList.length=c*z:=by rw[xI,hs1,hcs]
 refine Ej hb hg2 (by omega) hcm (by rw[hs2,hs1,hcs]) ?_ ?_
 ·rw[e2,nv,Kp (by rw[dU];omega),FZ,Nat.min_self,hc1]
 rw[bp,dU,hd,hl];omega
theorem aiL{n:Nat}(h:w.ownsRow base T z (.slice (some ⟨g,0,none⟩) n c) n xs)(i:Nat)(hi:i<n)(hroom:n+1≤c)(hz:vs.length=z) :
 ((w.setCells g ((i+1)*z) (xs.drop (i*z))).setCells g (i*z) vs).ownsRow base T z (.slice (some ⟨g,0,none⟩) (n+1) c) (n+1) (xs.take (i*z)++vs++xs.drop (i*z)):=by
 obtain⟨g',cur,hA,hb,hg,hnc,hcm,hcs,ht,hl⟩:=ju h (by omega);injection hA with hA;injection hA with hA _;subst hA;have h1:(i+1)*z≤n*z:=gq _ hi;have h2:(n+1)*z≤c*z:=gq _ hroom;have h3:(i+1)*z=i*z+z:=by rw[ki,n_]
 have h4:(n+1)*z=n*z+z:=by rw[ki,n_]
 have hd:(xs.drop (i*z)).length=n*z-i*z:=by rw[iw,hl]
 obtain⟨c1,hg1,hs1,e1⟩:=w_ (o:=(i+1)*z) hg (xs.drop (i*z)) (by rw[hd];omega);obtain⟨c2,hg2,hs2,e2⟩:=w_ (o:=i*z) hg1 vs (by rw[hz,hs1,hcs];omega);have hcl:cur.toList.length=c*z:=by simpa using hcs
 have Ap:cur.toList.take (i*z)=xs.take (i*z):=by rw[← ht,FZ,pj (by omega)]
 have hc1:c1.toList.take (i*z)=xs.take (i*z):=by
  rw[e1,nv,Kp (by rw[dU];omega),FZ,pj (by omega),Ap]
 have aiM:(c1.toList.drop (i*z+z)).take (n*z-i*z)=xs.drop (i*z):=by
  rw[e1,← h3,nv,List.drop_left' (by rw[dU];omega),List.take_left' hd]
 refine Ej hb hg2 hroom hcm (by rw[hs2,hs1,hcs]) ?_ ?_
 ·rw[e2,hz,hc1];have hl2:(xs.take (i*z)++vs).length=i*z+z:=by rw[bp,dU,hz];omega
  rw[h4,show n*z+z=(i*z+z)+(n*z-i*z) by omega,← hl2,List.take_length_add_append,hl2,aiM]
 rw[bp,bp,dU,hz,hd];omega
theorem aiN{n G:Nat}{ROW:Array Value}(hN:w.heap[N]?=some (.cells ROW T (0,0)))(hb:base≤N)(hs:ROW.size=G*z)(ht:ROW.toList.take (i*z)=xs.take (i*z))(hl:xs.length=n*z)(hz:vs.length=z)(hi:i<n)(hG:n+1≤G)(IZ:G≤maxLen) :
 ((w.setCells N (i*z) vs).drew.setCells N ((i+1)*z) (xs.drop (i*z))).ownsRow base T z (.slice (some ⟨N,0,none⟩) (n+1) G) (n+1) (xs.take (i*z)++vs++xs.drop (i*z)):=by
 have h1:(i+1)*z≤n*z:=gq _ hi;have h2:(n+1)*z≤G*z:=gq _ hG;have h3:(i+1)*z=i*z+z:=by rw[ki,n_]
 have h4:(n+1)*z=n*z+z:=by rw[ki,n_]
 have hd:(xs.drop (i*z)).length=n*z-i*z:=by rw[iw,hl]
 obtain⟨c1,hg1,hs1,e1⟩:=w_ (o:=i*z) hN vs (by rw[hz,hs];omega);obtain⟨c2,hg2,hs2,e2⟩:=w_ (w:=(w.setCells N (i*z) vs).drew) (o:=(i+1)*z) hg1 (xs.drop (i*z)) (by rw[hd,hs1,hs];omega);have hcl:ROW.toList.length=G*z:=by simpa using hs
 have hc1:c1.toList.take ((i+1)*z)=xs.take (i*z)++vs:=by
  rw[e1,SV _ _ _ _ _ (by omega) (by omega),ht]
 refine Ej hb hg2 hG IZ (by rw[hs2,hs1,hs]) ?_ ?_
 ·rw[e2,SV _ _ _ _ _ (by rw[xI,hs1,hs];omega) (by rw[hd];omega),hc1]
 rw[bp,bp,dU,hz,hd];omega
section
open Go.RowKit Go.Shelf
section
variable {P:Program}
theorem aiO{o:Oper}
 (hg:o.guard=none) (d x:Operand) (dT sT:TypeId) (hop:o.op=Op.call { callee:=Callee.builtin Builtin.append,args:=#[d,x],argTypes:=#[dT,sT] })
 (v u:Value) (hd:a.eval d=v) (hx:a.eval x=u)  (hr:(Builtin.append_ #[dT,sT] o.type #[v,u]).run P w=.ok v' w') (hK:K (a.put o.dst v') w') :
 if Region.wanted o (yielded ops a.tmps)=true then Oper.wp P o a w K Q else E:=by
 have hw:Region.wanted o (yielded ops a.tmps)=true:=by simp[Region.wanted,hg]
 rw[aD hw];unfold Oper.wp;simp[execOp,hop,resolve,invoke,builtin,hd,hx,hr,Result.andThen];exact hK
end
theorem SX{r:Option Nat}(h:w.drew.grownBy w' r):w.grownBy w' r:=⟨h.os,h.tape,h.output,h.size,h.block⟩
theorem aiP{n:Nat}(h:m=n):Ending.returned (.slice A m c)=.returned (.slice A n c):=by rw[h]
theorem GZ:prog.underlying 42=some (.slice 48):=by kernel_rfl
theorem XH:(prog.info? 48).map (fun i=>(i.zero,i.size,i.bytes))=some (some (.agg #[.string ⟨#[]⟩,.slice none 0 0,.slice none 0 0]),3,64):=by kernel_rfl
theorem Ch:prog.underlying 46=some (.slice 64):=by kernel_rfl
theorem XI:(prog.info? 64).map (fun i=>(i.zero,i.size,i.bytes))=some (some (.agg #[.string ⟨#[]⟩,.string ⟨#[]⟩,.bool false]),3,40):=by kernel_rfl
def oP(fc fd f fo S E z dR:Nat)(zl:List Value):Prop:=(fc=38∧fd=118∧f=116∧fo=164∧S=42∧E=48∧z=3∧dR=64∧zl=[.string ⟨#[]⟩,.slice none 0 0,.slice none 0 0])∨(fc=40∧fd=127∧f=126∧fo=172∧S=46∧E=64∧z=3∧dR=40∧zl=[.string ⟨#[]⟩,.string ⟨#[]⟩,.bool false])∨(fc=39∧fd=124∧f=121∧fo=168∧S=24∧E=27∧z=5∧dR=88∧zl=[.int .i64 0,.int .u64 0,.slice none 0 0,.slice none 0 0,.slice none 0 0])
section
variable {fc fd f fo S E z dR:Nat} {zl:List Value}
theorem oP.facts(h:oP fc fd f fo S E z dR zl):prog.underlying S=some (.slice E)∧(prog.info? E).map (fun i=>(i.zero,i.size,i.bytes))=some (some (.agg zl.toArray),z,dR)∧zl.toArray.size=z∧0<z∧dR≤88∧(∀u∈zl,u.oneCell'=true)∧∀w,(zeroValue E).run prog w=.ok (.agg zl.toArray) w:=by
 rcases h with ⟨rfl,rfl,rfl,rfl,rfl,rfl,rfl,rfl,rfl⟩ | ⟨rfl,rfl,rfl,rfl,rfl,rfl,rfl,rfl,rfl⟩ | ⟨rfl,rfl,rfl,rfl,rfl,rfl,rfl,rfl,rfl⟩
 all_goals exact⟨by kernel_rfl,by kernel_rfl,rfl,by decide,by decide,by simp[Value.oneCell'],fun _=>rfl⟩
theorem oP.size(h:oP fc fd f fo S E z dR zl):(prog.info? E).map (·.size)=some z:=by
 obtain⟨i0,h0,-,h1,-⟩:=info_parts h.facts.2.1;rw[h0,Kt,h1]
theorem aaD{tt:TypeId}{p:String}{af:Array Edge}(hI:oP fc fd f fo S E z dR zl)(base:Nat)(s x:Operand){n:Nat}(hv:a.eval s=v)(hown:w.ownsRow base E z v n xs)(hx:a.eval x=u)(hs:Src prog z S u m news w)(hn:n+m≤1500000000000)(hb:base≤w.heap.size)
 (h:∀A c w',w'.ownsRow base E z (.slice A (n+m) c) (n+m) (xs++news)→w.grownBy w' v.ownBlock→(Value.ownBlock (.slice A (n+m) c)=v.ownBlock∨Value.ownBlock (.slice A (n+m) c)=some w.heap.size)→wpList prog ops Q rest (a.put d (.slice A (n+m) c)) w') :
 wpList prog ops Q (⟨d,.call { callee:=.builtin .append,args:=#[s,x],argTypes:=#[S,S] },tt,p,af,none⟩::rest) a w:=by
 obtain⟨i0,h0,h1,h2,h3⟩:=info_parts hI.facts.2.1;have h88:(n+m)*dR≤(n+m)*88:=N7 _ hI.facts.2.2.2.2.1;exact Bj rfl s x S S rfl base E i0 _ z dR hI.facts.1 h0 h1 h2 h3 hI.facts.2.2.1 v n xs hv hown u m news hx hs (by omega) (by simp only[maxLen];omega) hb h
theorem SY(hI:oP fc fd f fo S E z dR zl)(n:Nat)(A:Option Addr)(cap:Nat)(news:List Value)(w:World)(hr:Reads (bQ w 0 w.heap.size) z A n news)(h1:∀u∈news,u.oneCell'=true)(hn:n≤1000000000000) :
 Calls prog fc #[.slice A n cap] w fun e w'=>∃A' c',e=.returned (.slice A' n c')∧w'.ownsRow w.heap.size E z (.slice A' n c') n news∧Grow w w':=by
 have hu:=hI.facts.1;rcases A with _ | a
 ·have h0:n=0:=by
   rcases AU n with h | h
   ·exact h
   obtain⟨bk,o,e,_⟩:=hr.2 h;cases e
  subst h0;have hx:news=[]:=l5 (by simpa using hr.1);subst hx;have he:=fun w=>Lib.run_eql_slice_nil (P:=prog) w S E none 0 cap 0 0 hu
  clear hr h1 hu;rcases hI with ⟨rfl,rfl,rfl,rfl,rfl,rfl,rfl,rfl,rfl⟩ | ⟨rfl,rfl,rfl,rfl,rfl,rfl,rfl,rfl,rfl⟩ | ⟨rfl,rfl,rfl,rfl,rfl,rfl,rfl,rfl,rfl⟩
  all_goals
   first | go_enter func38,ntmps38 | go_enter func40,ntmps40 | go_enter func39,ntmps39
   go_wp2_with fail
   go_ret
   exact⟨none,0,rfl,jb _ _ _ _,ah w⟩
 have HS:=aa (eW (P:=prog) (c:=cap) hu (eV (eU ((ah w).alloc (.cells #[] E)).below (au _) (au _) (au _)) hr) h1);have he:=fun w=>Lib.run_eql_slice_nil (P:=prog) w S E (some a) n cap 0 0 hu
 have HI:=aa hI;clear hr h1 hu;rcases hI with ⟨rfl,rfl,rfl,rfl,rfl,rfl,rfl,rfl,rfl⟩ | ⟨rfl,rfl,rfl,rfl,rfl,rfl,rfl,rfl,rfl⟩ | ⟨rfl,rfl,rfl,rfl,rfl,rfl,rfl,rfl,rfl⟩
 all_goals
  first | go_enter func38,ntmps38 | go_enter func40,ntmps40 | go_enter func39,ntmps39
  go_wp2_with (at_builtin;refine aaD (v:=.slice (some ⟨w.heap.size,0,none⟩) 0 0) HI.o w.heap.size (.tmp 5) (.tmp 6) rfl (xK w #[] 0 (au _) (by simp[maxLen]) rfl) rfl HS.o (by omega) (by simp) ?_;intro A3 c3 w3 lI I0 MI;rw[eo,ql] at lI;have jM:=aa lI;have aG:=aa (((ah w).alloc _).grown I0 (fun k hk=>by have hk2:w.heap.size=k:=(by simpa [Value.ownBlock] using hk);omega));clear lI I0 MI)
  go_ret
  exact⟨A3,c3,aiP (by omega),jM.o,aG.o⟩
theorem S5(hI:oP fc fd f fo S E z dR zl)(base n i c:Nat)(A:Option Addr)(xs:List Value)(w:World)(h1:∀u∈xs,u.oneCell'=true)(hown:w.ownsRow base E z (.slice A n c) n xs)(hi:i<n)(hn:n≤1000000000000) :
 Calls prog fd #[.slice A n c,.int .i64 i,.int .i64 ((i:Int)+1)] w fun e w'=>e=.returned (.slice A (n-1:Nat) c)∧w'.ownsRow base E z (.slice A (n-1) c) (n-1) (xs.take (i*z)++xs.drop ((i+1)*z))∧w.grownBy w' (Value.ownBlock (.slice A n c)):=by
 obtain⟨g,cur,rfl,hb,hg,hnc,hcm,hcs,ht,hl⟩:=ju hown (by omega);obtain⟨hu,aaE,hzs,hz0',-,hone,hzv⟩:=hI.facts;have fU:(i+1)*z≤n*z:=gq _ hi;have hm2:n*z≤c*z:=gq _ hnc;have hsa:(i+1)*z=i*z+z:=uz i z;have I6:(n-1)*z+z=n*z:=by rw[← uz];congr 1;omega
 have hcm2:c≤9223372036854775807:=by unfold maxLen at hcm;omega
 have bA:(xs.drop ((i+1)*z)).length=n*z-(i+1)*z:=by rw[iw,hl]
 have hsz:∀(W:World),W.heap[g]?=some (.cells cur E (0,0))→∀ty,∀(a:Addr) (m cc:Nat),m=n-(i+1)→(0<m→a=⟨g,(i+1)*z,none⟩)→(Builtin.append_ #[S,S] ty #[.slice (some ⟨g,0,none⟩) i c,.slice (some a) m cc]).run prog W=.ok (.slice (some ⟨g,0,none⟩) (n-1) c) (W.setCells g (i*z) (xs.drop ((i+1)*z))):=fun W hW ty a m cc hm ha=>by
  obtain⟨i0,hi0,hz0,hz1,hz2⟩:=info_parts aaE;have Gk:m*z=n*z-(i+1)*z:=by rw[hm,Nat.sub_mul]
  have him:(i+m)*z≤c*z:=gq _ (by omega);have anL:(i+m)*z=i*z+m*z:=ki _ _ _;have hs:Src prog i0.size S (.slice (some a) m cc) m (xs.drop ((i+1)*z)) W:=by
   rw[hz1];refine Src.ofSlice W hu a m cc _ (by rw[bA,Gk]) (fun j u hu=>?_) (fun u hu=>h1 u (uA hu));have hj:j<(xs.drop ((i+1)*z)).length:=(jd.1 hu).1;rw[ha (by rcases AU m with h | h;subst h;omega;exact h),add_lit];rw[y9] at hu;exact wV hW ht _ u hu
  have h:=run_append_room_src (P:=prog) W S S ty E i0 hu hi0 g 0 i c (.slice (some a) m cc) m _ hs (by omega)
   (fun j hj=>(mv hW _ (by rw[hz1,hcs];omega)).1) (fun j hj=>(mv hW _ (by rw[hz1,hcs];omega)).2)
  rw[hz1,eo,show i+m=n-1 by omega] at h;exact h
 have HAP:=aa hsz;obtain⟨W1,hW1⟩:∃W1,w.drew.setCells g (i*z) (xs.drop ((i+1)*z))=W1:=⟨_,rfl⟩;obtain⟨c1,hg1,hs1,-⟩:=w_ (w:=w.drew) (o:=i*z) hg (xs.drop ((i+1)*z)) (by rw[bA,hcs];omega);rw[hW1] at hg1;have hzl:zl.length=z:=by rw[← hzs];rfl
 have hcl:∀ty cc,(Builtin.clear_ #[S] ty #[.slice (some ⟨g,(n-1)*z,none⟩) 1 cc]).run prog W1=.ok (.tuple #[]) (W1.setCells g ((n-1)*z) zl):=fun ty cc =>
  aiJ W1 S E ty (.agg zl.toArray) zl hu hzv rfl hone g _ cc
   (fun j hj=>(mv hg1 _ (by rw[hs1,hcs];omega)).1) (fun j hj=>(mv hg1 _ (by rw[hs1,hcs];omega)).2)
 have ib:=aa hcl;have Aq:=aa (show (W1.setCells g ((n-1)*z) zl).ownsRow base E z (.slice (some ⟨g,0,none⟩) (n-1) c) (n-1) (xs.take (i*z)++xs.drop ((i+1)*z)) by
  rw[← hW1];exact aiK (w:=w.drew) hown i hi hzl)
 have aJ:=aa (show w.grownBy (W1.setCells g ((n-1)*z) zl) (some g) by
  rw[← hW1];exact SX (World.grownBy.trans (mJ g _ rfl _ w.drew _) (mJ g _ rfl _ _ _)))
 have D4:=aa hW1;have HG:=aa (show w.drew.heap[g]?=some (.cells cur E (0,0)) from hg);clear hown hsz hcl hg hg1 hs1 hW1 ht hl bA hcs hcm h1 fU hm2 hsa I6 hu aaE hzs hz0' hone hzv hzl;have hw1:IntKind.i64.wrap ((i:Int)+1)=(i:Int)+1:=by rw[df];omega
 have hb1:(0:Int)≤(i:Int)+1:=by omega
 have htn:((i:Int)+1).toNat=i+1:=by omega
 have hij:((i:Int)==(i:Int)+1)=false:=by simp only[pd,ne_eq];omega
 have hcn:¬ c=n-1:=by omega
 have MJ:(i:Int)≤(i:Int)+1:=by omega
 have MK:i≤c:=by omega
 have ML:(i:Int)+1≤(n:Int):=by omega
 by_cases Eb:c=i+1
 case' pos =>
  subst Eb;obtain rfl:n=i+1:=by omega
  simp only[Bd] at HAP ib Aq aJ hcn ⊢;have tz:i+1-i=1:=by omega
 case' neg=>have tz:n-(n-1)=1:=by omega
 all_goals
  rcases hI with ⟨rfl,rfl,rfl,rfl,rfl,rfl,rfl,rfl,rfl⟩ | ⟨rfl,rfl,rfl,rfl,rfl,rfl,rfl,rfl,rfl⟩ | ⟨rfl,rfl,rfl,rfl,rfl,rfl,rfl,rfl,rfl⟩
  all_goals
   first | go_enter func118,ntmps118 | go_enter func127,ntmps127 | go_enter func124,ntmps124
   go_wp2_with fail
   refine dg ?_
   refine cW (S:=fun _=>True) (by kernel_rfl) (trivial) (fun hHeld=>?_)
   refine ai 0 ?_
   refine ai 1 ?_
   refine ai 2 ?_
   refine ai 3 ?_
   refine ai 4 ?_
   refine ai 5 ?_
   refine aK 6 (fun K hK=>?_)
   refine aiO (by rfl) (.tmp 22) (.tmp 25) _ _ (by rfl) _ _ (by rfl) (by rfl) (HAP.o _ HG.o _ _ _ _ (by omega) (fun _=>by first | rfl | omega)) ?_
   rw[D4.o]
   refine hK.out _ _ trivial (fun hHeld=>?_)
   try simp only[aH]
   refine ai 7 ?_
   refine cG ?_
   have hcl:=ib.o
   go_wp2_with fail
   go_ret
   exact⟨rfl,Aq.o,aJ.o⟩
end
theorem S6:oP 38 118 116 164 42 48 3 64 [.string ⟨#[]⟩,.slice none 0 0,.slice none 0 0]:=.inl ⟨rfl,rfl,rfl,rfl,rfl,rfl,rfl,rfl,rfl⟩
abbrev aiQ:=@SY _ _ _ _ _ _ _ _ _ S6
abbrev af1:=@S5 _ _ _ _ _ _ _ _ _ S6
theorem S7:oP 40 127 126 172 46 64 3 40 [.string ⟨#[]⟩,.string ⟨#[]⟩,.bool false]:=.inr (.inl ⟨rfl,rfl,rfl,rfl,rfl,rfl,rfl,rfl,rfl⟩)
abbrev aiR:=@SY _ _ _ _ _ _ _ _ _ S7
abbrev agf:=@S5 _ _ _ _ _ _ _ _ _ S7
theorem S8:oP 39 124 121 168 24 27 5 88 [.int .i64 0,.int .u64 0,.slice none 0 0,.slice none 0 0,.slice none 0 0]:=.inr (.inr ⟨rfl,rfl,rfl,rfl,rfl,rfl,rfl,rfl,rfl⟩)
abbrev X4:=@SY _ _ _ _ _ _ _ _ _ S8
abbrev aga:=@S5 _ _ _ _ _ _ _ _ _ S8
end
section
open Go.RowKit Go.Shelf
section
variable {fc fd f fo S E z dR:Nat} {zl:List Value}
theorem oP.over(h:oP fc fd f fo S E z dR zl)(w:World)(vb g:Nat)(ab lb cb:Nat)(hvb:vb≠g)(Tv:TypeId)(vs cur:Array Value)(h1:w.heap[vb]?=some (.cells vs Tv (0,0)))(h2:w.heap[g]?=some (.cells cur E (0,0)))(h3:0<cur.size) :
 (callFunc fo #[.slice (some ⟨vb,0,none⟩) 1 1,.slice (some ⟨g,ab,none⟩) lb cb]).run prog w=.ok (.value (.bool false)) w:=by
 have hu:=h.facts.1;have hz:=h.facts.2.2.2.1;rcases h with ⟨rfl,rfl,rfl,rfl,rfl,rfl,rfl,rfl,rfl⟩ | ⟨rfl,rfl,rfl,rfl,rfl,rfl,rfl,rfl,rfl⟩ | ⟨rfl,rfl,rfl,rfl,rfl,rfl,rfl,rfl,rfl⟩
 ·rw[run_callFunc_extern (fn:=f164) (by kernel_rfl) (by kernel_rfl) (by kernel_rfl) (by kernel_rfl) (e:=Extern.SlicesOverlaps.overlaps #[42,42] #[4]) (by kernel_rfl),Lib.run_overlaps_apart w 42 4 48 hu 3 (fun _=>rfl) ⟨vb,0,none⟩ ⟨g,ab,none⟩ 1 1 lb cb hvb Tv 48 vs.size cur.size (by simp[World.shape?,h1]) (by simp[World.shape?,h2]) (by omega) (by simp[World.frozen?,h1]) (by simp[World.frozen?,h1])];rfl
 ·rw[run_callFunc_extern (fn:=f172) (by kernel_rfl) (by kernel_rfl) (by kernel_rfl) (by kernel_rfl) (e:=Extern.SlicesOverlaps.overlaps #[46,46] #[4]) (by kernel_rfl),Lib.run_overlaps_apart w 46 4 64 hu 3 (fun _=>rfl) ⟨vb,0,none⟩ ⟨g,ab,none⟩ 1 1 lb cb hvb Tv 64 vs.size cur.size (by simp[World.shape?,h1]) (by simp[World.shape?,h2]) (by omega) (by simp[World.frozen?,h1]) (by simp[World.frozen?,h1])];rfl
 rw[run_callFunc_extern (fn:=f168) (by kernel_rfl) (by kernel_rfl) (by kernel_rfl) (by kernel_rfl) (e:=Extern.SlicesOverlaps.overlaps #[24,24] #[4]) (by kernel_rfl),Lib.run_overlaps_apart w 24 4 27 hu 5 (fun _=>rfl) ⟨vb,0,none⟩ ⟨g,ab,none⟩ 1 1 lb cb hvb Tv 27 vs.size cur.size (by simp[World.shape?,h1]) (by simp[World.shape?,h2]) (by omega) (by simp[World.frozen?,h1]) (by simp[World.frozen?,h1])];rfl
theorem aiS(hI:oP fc fd f fo S E z dR zl)(base n c vb:Nat)(A:Option Addr)(xs vs:List Value)(w:World)(Tv:TypeId)(uo:∀u∈vs,u.oneCell'=true)(hown:w.ownsRow base E z (.slice A n c) n xs)(hn:n≤1000000000)(hz:vs.length=z)
 (hv:w.heap[vb]?=some (.cells vs.toArray Tv (0,0))) (hbase:base≤w.heap.size) :
 Calls prog f #[.slice A n c,.int .i64 n,.slice (some ⟨vb,0,none⟩) 1 1] w fun e w'=>∃A' c',e=.returned (.slice A' (n+1:Nat) c')∧w'.ownsRow base E z (.slice A' (n+1) c') (n+1) (xs++vs)∧w.grownBy w' (Value.ownBlock (.slice A n c)) ∧
  (Value.ownBlock (.slice A' (n+1) c')=Value.ownBlock (.slice A n c)∨Value.ownBlock (.slice A' (n+1) c')=some w.heap.size):=by
 have hc:c≤maxLen:=by
  obtain⟨-,⟨hq,-,-⟩ | ⟨g,cap,cur,hq,-,-,-,hcm,-⟩⟩:=hown
  ·injection hq with _ _ h3;rw[h3];exact aR _
  injection hq with _ _ h3;rw[h3];exact hcm
 have hc2:n≤c:=by
  obtain⟨-,⟨hq,-,-⟩ | ⟨g,cap,cur,hq,-,-,hnc,-,-⟩⟩:=hown
  ·injection hq with _ h2 _;rw[h2];exact aR _
  injection hq with _ _ h3;rw[h3];exact hnc
 have hcc:c≤9223372036854775807:=by unfold maxLen at hc;omega
 clear hc;have HS:=aa (Src.ofSlice (P:=prog) (size:=z) w hI.facts.1 ⟨vb,0,none⟩ 1 1 vs (by omega) (fun j u hu=>by rw[add_lit,AP w vb _ _ Tv (0,0) hv];simpa using hu) uo);have HO:=aa hown;have HI:=aa hI;clear hown hv uo;rcases hI with ⟨rfl,rfl,rfl,rfl,rfl,rfl,rfl,rfl,rfl⟩ | ⟨rfl,rfl,rfl,rfl,rfl,rfl,rfl,rfl,rfl⟩ | ⟨rfl,rfl,rfl,rfl,rfl,rfl,rfl,rfl,rfl⟩
 all_goals
  rcases F4 (c=n) with hcn | hcn
  case' inl=>replace hcn:=hcn.symm;subst hcn
  all_goals
   first | go_enter func116,ntmps116 | go_enter func126,ntmps126 | go_enter func121,ntmps121
   go_wp2_with (at_builtin;refine aaD (v:=.slice A n _) HI.o base (.tmp 23) (.tmp 24) rfl HO.o rfl HS.o (by omega) hbase ?_;intro A3 c3 w3 lI I0 MI;have jM:=aa lI;have aG:=aa I0;have I7:=aa MI;clear lI I0 MI)
   all_goals
    go_ret
    exact⟨A3,c3,rfl,jM.o,aG.o,I7.o⟩
theorem aiT(hI:oP fc fd f fo S E z dR zl)(base n i c vb g:Nat)(xs vs:List Value)(w:World)(Tv:TypeId)(h1:∀u∈xs,u.oneCell'=true)(uo:∀u∈vs,u.oneCell'=true)(hown:w.ownsRow base E z (.slice (some ⟨g,0,none⟩) n c) n xs)(hi:i<n)(hn:n≤1000000000)(hroom:n+1≤c)(hz:vs.length=z)
 (hv:w.heap[vb]?=some (.cells vs.toArray Tv (0,0))) (hvb:vb≠g) :
 Calls prog f #[.slice (some ⟨g,0,none⟩) n c,.int .i64 i,.slice (some ⟨vb,0,none⟩) 1 1] w fun e w'=>e=.returned (.slice (some ⟨g,0,none⟩) (n+1:Nat) c)∧w'.ownsRow base E z (.slice (some ⟨g,0,none⟩) (n+1) c) (n+1) (xs.take (i*z)++vs++xs.drop (i*z))∧w.grownBy w' (some g):=by
 obtain⟨g',cur,hA,hb,hg,hnc,hcm,hcs,ht,hl⟩:=ju hown (by omega);injection hA with hA;injection hA with hA _;subst hA;have fU:(i+1)*z≤n*z:=gq _ hi;have hm2:(n+1)*z≤c*z:=gq _ hroom;have hcm2:c≤9223372036854775807:=by unfold maxLen at hcm;omega
 have hsa:(i+1)*z=i*z+z:=uz i z;have I6:(n+1)*z=n*z+z:=uz n z;have bA:(xs.drop (i*z)).length=n*z-i*z:=by rw[iw,hl]
 have hsz:=hI.size;have hu:=hI.facts.1;have hz0':=hI.facts.2.2.2.1;have hov:∀ab lb cb,(callFunc fo #[.slice (some ⟨vb,0,none⟩) 1 1,.slice (some ⟨g,ab,none⟩) lb cb]).run prog w=.ok (.value (.bool false)) w:=fun ab lb cb=>hI.over w vb g ab lb cb hvb Tv vs.toArray cur hv hg (by rw[hcs];exact Dk (by omega) hz0')
 have aaF:∀ty m1 m2 dc sc,m1=n-i→m2=n+1-i→(Builtin.copy_ #[S,S] ty #[.slice (some ⟨g,(i+1)*z,none⟩) m1 dc,.slice (some ⟨g,i*z,none⟩) m2 sc]).run prog w.drew=.ok (goInt (n-i:Nat)) (w.drew.setCells g ((i+1)*z) (xs.drop (i*z))):=fun ty m1 m2 dc sc fU hm2=>by
  have hmin:Nat.min m2 m1=n-i:=by show min _ _=_;omega
  have h:=MH (P:=prog) w.drew S S ty E z g ((i+1)*z) m1 dc ⟨g,i*z,none⟩ m2 sc (xs.drop (i*z)) hu hsz (by rw[bA,hmin,Nat.sub_mul])
   (fun j v hj=>by rw[add_lit];rw[y9] at hj;exact wV (w:=w.drew) hg ht _ v hj)
   (fun j hj=>(mv (w:=w.drew) hg _ (by rw[hcs];omega)).1) (fun j hj=>(mv (w:=w.drew) hg _ (by rw[hcs];omega)).2) (fun v hv=>h1 v (uA hv))
  rw[hmin] at h;exact h
 obtain⟨W1,hW1⟩:∃W1,w.drew.setCells g ((i+1)*z) (xs.drop (i*z))=W1:=⟨_,rfl⟩;obtain⟨c1,hg1,hs1,-⟩:=w_ (w:=w.drew) (o:=(i+1)*z) hg (xs.drop (i*z)) (by rw[bA,hcs];omega);have hv1:W1.heap[vb]?=some (.cells vs.toArray Tv (0,0)):=by
  rw[← hW1,(mJ g _ rfl _ w.drew _).block vb (qq.1 hv).1 (by intro h;injection h with h;exact hvb h)];exact hv
 rw[hW1] at hg1;have aaG:∀ty dc,(Builtin.copy_ #[S,S] ty #[.slice (some ⟨g,i*z,none⟩) (n+1-i) dc,.slice (some ⟨vb,0,none⟩) 1 1]).run prog W1=.ok (goInt (1:Nat)) (W1.setCells g (i*z) vs):=fun ty dc=>by
  have hmin:Nat.min 1 (n+1-i)=1:=by show min _ _=_;omega
  have h:=MH (P:=prog) W1 S S ty E z g (i*z) (n+1-i) dc ⟨vb,0,none⟩ 1 1 vs hu hsz (by rw[hz,hmin,n_])
   (fun j v hj=>by rw[add_lit,AP W1 vb _ _ Tv (0,0) hv1];simpa using hj)
   (fun j hj=>(mv hg1 _ (by rw[hs1,hcs];omega)).1) (fun j hj=>(mv hg1 _ (by rw[hs1,hcs];omega)).2) uo
  rw[hmin] at h;exact h
 have Aq:=aa (show (W1.setCells g (i*z) vs).ownsRow base E z (.slice (some ⟨g,0,none⟩) (n+1) c) (n+1) (xs.take (i*z)++vs++xs.drop (i*z)) by
  rw[← hW1];exact aiL (w:=w.drew) hown i hi hroom hz)
 have aJ:=aa (show w.grownBy (W1.setCells g (i*z) vs) (some g) by
  rw[← hW1];exact SX (World.grownBy.trans (mJ g _ rfl _ w.drew _) (mJ g _ rfl _ _ _)))
 have iB:=aa aaF;have anM:∀ty dc,(Builtin.copy_ #[S,S] ty #[.slice (some ⟨g,i*z,none⟩) (n+1-i) dc,.slice (some ⟨vb,0,none⟩) 1 1]).run prog (w.drew.setCells g ((i+1)*z) (xs.drop (i*z)))=.ok (goInt (1:Nat)) ((w.drew.setCells g ((i+1)*z) (xs.drop (i*z))).setCells g (i*z) vs):=by
  rw[hW1];exact aaG
 rw[← hW1] at Aq aJ;clear hsa I6 hz0' hu hown hg hg1 hs1 aaG hv1 hW1 ht hl bA hcs hcm h1 uo fU hm2 hv aaF hsz hz W1;have hz2:¬ ((i:Int)=(n:Int)):=by omega
 have hw1:IntKind.i64.wrap ((i:Int)+1)=(i:Int)+1:=by rw[df];omega
 have hw2:IntKind.i64.wrap ((n:Int)+1)=(n:Int)+1:=by rw[df];omega
 have hb1:(0:Int)≤(i:Int)+1:=by omega
 have anN:(0:Int)≤(n:Int)+1:=by omega
 have htn:((i:Int)+1).toNat=i+1:=by omega
 have anO:((n:Int)+1).toNat=n+1:=by omega
 have hin:i≤n:=by omega
 have hb2:¬ (c=i+1):=by omega
 have hb4:¬ (c=i):=by omega
 have dG:¬ ((c:Int)<(n:Int)+1):=by omega
 have EX:(n:Int)+1≤(c:Int):=by omega
 have lS:(i:Int)≤(n:Int):=by omega
 have kI:(i:Int)≤(n:Int)+1:=by omega
 have iN:(i:Int)+1≤(n:Int)+1:=by omega
 have aiU:i≤n+1:=by omega
 have mixed:prog.follows Departure.mixedOrders=true:=by kernel_rfl
 rcases hI with ⟨rfl,rfl,rfl,rfl,rfl,rfl,rfl,rfl,rfl⟩ | ⟨rfl,rfl,rfl,rfl,rfl,rfl,rfl,rfl,rfl⟩ | ⟨rfl,rfl,rfl,rfl,rfl,rfl,rfl,rfl,rfl⟩
 all_goals
  first | go_enter func116,ntmps116 | go_enter func126,ntmps126 | go_enter func121,ntmps121
  go_wp2_with (simp only[hov])
  go_region_law_o (refine step_copy_runI rfl _ _ _ _ rfl _ _ (by simp[Act.eval,Act.put]) (by simp[Act.eval,Act.put]) (iB.o _ (n-i) (n+1-i) (c-(i+1)) (c-i) rfl rfl) ?_)
  go_wp2_with fail
  go_ret
  exact⟨rfl,Aq.o,aJ.o⟩
theorem aiV(hI:oP fc fd f fo S E z dR zl)(base n i c vb g:Nat)(xs vs:List Value)(w:World)(Tv:TypeId)(h1:∀u∈xs,u.oneCell'=true)(uo:∀u∈vs,u.oneCell'=true)(hown:w.ownsRow base E z (.slice (some ⟨g,0,none⟩) n c) n xs)(hi:i<n)(hn:n≤1000000000)(hroom:c<n+1)(hz:vs.length=z)
 (hv:w.heap[vb]?=some (.cells vs.toArray Tv (0,0))) (hvb:vb≠g) (hbase:base≤w.heap.size) :
 Calls prog f #[.slice (some ⟨g,0,none⟩) n c,.int .i64 i,.slice (some ⟨vb,0,none⟩) 1 1] w fun e w'=>∃A' c',e=.returned (.slice A' (n+1:Nat) c')∧w'.ownsRow base E z (.slice A' (n+1) c') (n+1) (xs.take (i*z)++vs++xs.drop (i*z))∧w.grownBy w' none∧Value.ownBlock (.slice A' (n+1) c')=some w.heap.size:=by
 obtain⟨g',cur,hA,hb,hg,hnc,hcm,hcs,ht,hl⟩:=ju hown (by omega);injection hA with hA;injection hA with hA _;subst hA;obtain⟨i0,hi0,hz0,hzs,hzb⟩:=info_parts hI.facts.2.1;have fU:(i+1)*z≤n*z:=gq _ hi;have hcm2:c≤9223372036854775807:=by unfold maxLen at hcm;omega
 have hsa:(i+1)*z=i*z+z:=uz i z;have I6:(n+1)*z=n*z+z:=uz n z;have bA:(xs.drop (i*z)).length=n*z-i*z:=by rw[iw,hl]
 have htl:(xs.take (i*z)).length=i*z:=by rw[dU,hl];omega
 have hsz:=hI.size;have hu:=hI.facts.1;have hzl:=hI.facts.2.2.1;have hz0':=hI.facts.2.2.2.1;have jC:g<w.heap.size:=(qq.1 hg).1;have hvw:vb<w.heap.size:=(qq.1 hv).1;have hkk:(n:Int)+1-(i:Int)=((n+1-i:Nat):Int):=by omega
 have hik:i+(n+1-i)=n+1:=by omega
 have hold:(Builtin.firstCells i0.size i (.slice (some ⟨g,0,none⟩) i c)).run prog w.drew=.ok (xs.take (i*z)).toArray w.drew:=by
  rw[hzs];exact run_firstCells_some w.drew z i ⟨g,0,none⟩ i c (xs.take (i*z)) htl (fun j v hj=>by
   rw[add_lit,eo];rw[Df] at hj;split at hj
   ·exact wV (w:=w.drew) hg ht j v hj
   cases hj)
 have MM:∀ty,(Builtin.append_ #[S,3] ty #[.slice (some ⟨g,0,none⟩) i c,.int .i64 ((n:Int)+1-(i:Int))]).run prog w =
  .ok (.slice (some ⟨w.heap.size,0,none⟩) (n+1) (grownCap w (n+1) c E)) (w.drew.alloc (.cells ((xs.take (i*z)).toArray++Builtin.zeroCells (Value.agg zl.toArray).cells (n+1-i)++Builtin.zeroCells (Value.agg zl.toArray).cells (grownCap w (n+1) c E-(n+1))) E)):=fun ty=>by
  have h:=Lib.run_append_grow_zeros (P:=prog) w S 3 ty E i0 _ .i64 .i64 hu (by kernel_rfl) hi0 hz0 (some ⟨g,0,none⟩) i c (xs.take (i*z)) hold (n+1-i) (by omega) (by omega) (by omega) (by omega) (by rw[hzb];exact aV (Ko (Nat.sub_le (n+1) i) hI.facts.2.2.2.2.1) (by omega)) (by rw[hzb,hik];exact growslice_fits hroom (aV (N7 _ hI.facts.2.2.2.2.1) (by omega)));rw[hik] at h;rw[hkk];exact h
 obtain⟨G,hG⟩:∃G,G=grownCap w (n+1) c E:=⟨_,rfl⟩;have hGn:n+1≤G:=by rw[hG];exact grownCap_ge w _ _ _
 have Yi:(n+1)*z≤G*z:=gq z hGn;have IZ:G≤maxLen:=by rw[hG];exact grownCap_le_maxLen w _ _ _ (by unfold maxLen;omega)
 rw[← hG] at MM;obtain⟨ROW,MN⟩:∃ROW:Array Value,ROW=(xs.take (i*z)).toArray++Builtin.zeroCells (Value.agg zl.toArray).cells (n+1-i)++Builtin.zeroCells (Value.agg zl.toArray).cells (G-(n+1)):=⟨_,rfl⟩;rw[← MN] at MM;have CQ:ROW.size=G*z:=by
  rw[MN];simp only[Array.size_append,size_zeroCells,Value.cells,NQ,htl,hzl,← ki];congr 1;omega
 have hRt:ROW.toList.take (i*z)=xs.take (i*z):=by
  rw[MN];simp only[Array.toList_append,nv];rw[List.take_left' htl]
 obtain⟨W1,hW1⟩:∃W1,W1=(w.alloc (.cells ROW E)).drew:=⟨_,rfl⟩;have MO:W1.heap=w.heap.push (.cells ROW E):=by rw[hW1];rfl
 have hWs:W1.heap.size=w.heap.size+1:=by rw[MO,Array.size_push]
 have hN:W1.heap[w.heap.size]?=some (.cells ROW E (0,0)):=by rw[MO];simp
 have hO:∀k,k<w.heap.size→W1.heap[k]?=w.heap[k]?:=fun k hk=>by
  rw[MO];simp[Array.getElem?_push,Nat.ne_of_lt hk]
 have aiW:∀ty dc,(Builtin.copy_ #[S,S] ty #[.slice (some ⟨w.heap.size,i*z,none⟩) (n+1-i) dc,.slice (some ⟨vb,0,none⟩) 1 1]).run prog W1=.ok (goInt (1:Nat)) (W1.setCells w.heap.size (i*z) vs):=fun ty dc=>by
  have hmin:Nat.min 1 (n+1-i)=1:=by show min _ _=_;omega
  have h:=MH (P:=prog) W1 S S ty E z w.heap.size (i*z) (n+1-i) dc ⟨vb,0,none⟩ 1 1 vs hu hsz (by rw[hz,hmin,n_])
   (fun j v hj=>by rw[add_lit,AP W1 vb _ _ Tv (0,0) ((hO vb hvw).trans hv)];simpa using hj)
   (fun j hj=>(mv hN _ (by rw[CQ];omega)).1) (fun j hj=>(mv hN _ (by rw[CQ];omega)).2) uo
  rw[hmin] at h;exact h
 obtain⟨c1,S9,hs2,-⟩:=w_ (o:=i*z) hN vs (by rw[CQ];omega);have hg2:(W1.setCells w.heap.size (i*z) vs).heap[g]?=some (.cells cur E (0,0)):=by
  rw[(mJ w.heap.size _ rfl _ W1 _).block g (by omega) (by intro h;injection h with h;omega),hO g jC];exact hg
 have S_:∀ty m1 m2 dc sc,m1=n-i→m2=n-i→(Builtin.copy_ #[S,S] ty #[.slice (some ⟨w.heap.size,(i+1)*z,none⟩) m1 dc,.slice (some ⟨g,i*z,none⟩) m2 sc]).run prog (W1.setCells w.heap.size (i*z) vs).drew=.ok (goInt (n-i:Nat)) ((W1.setCells w.heap.size (i*z) vs).drew.setCells w.heap.size ((i+1)*z) (xs.drop (i*z))):=fun ty m1 m2 dc sc fU hm2=>by
  have hmin:Nat.min m2 m1=n-i:=by show min _ _=_;omega
  have h:=MH (P:=prog) (W1.setCells w.heap.size (i*z) vs).drew S S ty E z w.heap.size ((i+1)*z) m1 dc ⟨g,i*z,none⟩ m2 sc (xs.drop (i*z)) hu hsz (by rw[bA,hmin,Nat.sub_mul])
   (fun j v hj=>by rw[add_lit];rw[y9] at hj;exact wV (w:=(W1.setCells w.heap.size (i*z) vs).drew) hg2 ht _ v hj)
   (fun j hj=>(mv (w:=(W1.setCells w.heap.size (i*z) vs).drew) S9 _ (by rw[hs2,CQ];omega)).1) (fun j hj=>(mv (w:=(W1.setCells w.heap.size (i*z) vs).drew) S9 _ (by rw[hs2,CQ];omega)).2) (fun v hv=>h1 v (uA hv))
  rw[hmin] at h;exact h
 have Aq:=aa (aiN (base:=base) hN (by omega) CQ hRt hl hz hi hGn IZ);have aJ:=aa (show w.grownBy ((W1.setCells w.heap.size (i*z) vs).drew.setCells w.heap.size ((i+1)*z) (xs.drop (i*z))) none by
  have hs1:(W1.setCells w.heap.size (i*z) vs).heap.size≥w.heap.size:=aV (by omega) (mJ w.heap.size _ rfl _ W1 _).size;have e1:w.grownBy W1 (some w.heap.size):=⟨by rw[hW1];rfl,by rw[hW1];rfl,by rw[hW1];rfl,by omega,fun k hk _=>hO k hk⟩;have e2:W1.grownBy (W1.setCells w.heap.size (i*z) vs) (some w.heap.size):=mJ w.heap.size _ rfl _ W1 _;have e3:(W1.setCells w.heap.size (i*z) vs).grownBy ((W1.setCells w.heap.size (i*z) vs).drew.setCells w.heap.size ((i+1)*z) (xs.drop (i*z))) (some w.heap.size):=SX (mJ w.heap.size _ rfl _ _ _);have e4:=(e1.trans e2).trans e3;exact⟨e4.os,e4.tape,e4.output,e4.size,fun k hk _=>e4.block k hk (by intro h;injection h with h;omega)⟩)
 have hGi:¬ (G=i):=by omega
 have anP:¬ (G=i+1):=by omega
 have anQ:G≤9223372036854775807:=by unfold maxLen at IZ;omega
 rw[hW1] at Aq aJ aiW S_;have HB:=aa S_;have HRZ:=aa MM;clear Yi hsa I6 hz0' hu hzl hown MO hWs hg hg2 hN S9 hs2 hO hW1 W1 ht hl bA htl hcs hcm h1 uo fU hv hsz hz CQ hRt MN hG hold MM hkk hik hi0 hz0 hzs hzb IZ S_;have hz2:¬ ((i:Int)=(n:Int)):=by omega
 have hz3:(c:Int)<(n:Int)+1:=by omega
 have Eb:¬ (c=i):=by omega
 have hw1:IntKind.i64.wrap ((i:Int)+1)=(i:Int)+1:=by rw[df];omega
 have hw2:IntKind.i64.wrap ((n:Int)+1)=(n:Int)+1:=by rw[df];omega
 have hw3:IntKind.i64.wrap ((n:Int)+1-(i:Int))=(n:Int)+1-(i:Int):=by rw[df];omega
 have hb1:(0:Int)≤(i:Int)+1:=by omega
 have htn:((i:Int)+1).toNat=i+1:=by omega
 have hin:i≤n:=by omega
 have aaH:i≤c:=by omega
 have hb3:(i:Int)≤(n:Int):=by omega
 have kI:(i:Int)≤(n:Int)+1:=by omega
 have iN:(i:Int)+1≤(n:Int)+1:=by omega
 have aiU:i≤n+1:=by omega
 have vM:i≤G:=by omega
 have mixed:prog.follows Departure.mixedOrders=true:=by kernel_rfl
 rcases hI with ⟨rfl,rfl,rfl,rfl,rfl,rfl,rfl,rfl,rfl⟩ | ⟨rfl,rfl,rfl,rfl,rfl,rfl,rfl,rfl,rfl⟩ | ⟨rfl,rfl,rfl,rfl,rfl,rfl,rfl,rfl,rfl⟩
 all_goals
  first | go_enter func116,ntmps116 | go_enter func126,ntmps126 | go_enter func121,ntmps121
  go_wp2_with (at_builtin;refine Lib.wpList_append_run _ rfl _ _ _ _ rfl _ _ rfl rfl _ _ (HRZ.o _) ?_)
  go_region_law_o (refine step_copy_runI rfl _ _ _ _ rfl _ _ (by simp[Act.eval,Act.put]) (by simp[Act.eval,Act.put]) (HB.o _ (n-i) (n-i) (G-(i+1)) (c-i) rfl rfl) ?_)
  go_wp2_with fail
  go_ret
  exact⟨_,_,rfl,Aq.o,aJ.o,rfl⟩
theorem Ta(hI:oP fc fd f fo S E z dR zl)(base n i c vb:Nat)(A:Option Addr)(xs vs:List Value)(w:World)(Tv:TypeId)(h1:∀u∈xs,u.oneCell'=true)(uo:∀u∈vs,u.oneCell'=true)(hown:w.ownsRow base E z (.slice A n c) n xs)(hi:i≤n)(hn:n≤1000000000)(hz:vs.length=z)
 (hv:w.heap[vb]?=some (.cells vs.toArray Tv (0,0))) (hvb:Value.ownBlock (.slice A n c)≠some vb) (hbase:base≤w.heap.size) :
 Calls prog f #[.slice A n c,.int .i64 i,.slice (some ⟨vb,0,none⟩) 1 1] w fun e w'=>∃A' c',e=.returned (.slice A' (n+1:Nat) c')∧w'.ownsRow base E z (.slice A' (n+1) c') (n+1) (xs.take (i*z)++vs++xs.drop (i*z))∧w.grownBy w' (Value.ownBlock (.slice A n c)) ∧
  (Value.ownBlock (.slice A' (n+1) c')=Value.ownBlock (.slice A n c)∨Value.ownBlock (.slice A' (n+1) c')=some w.heap.size):=by
 rcases gp i n with hlt | hge
 ·obtain⟨g,cur,rfl,hb,hg,hnc,hcm,hcs,ht,hl⟩:=ju hown (by omega);have Tb:vb≠g:=fun h=>hvb (by rw[h];rfl)
  rcases gp c (n+1) with hr | hr
  ·refine(aiV hI base n i c vb g xs vs w Tv h1 uo hown hlt hn hr hz hv Tb hbase).mono ?_;rintro e w' ⟨A',c',he,ho,hgr,hA⟩;exact⟨A',c',he,ho,⟨hgr.os,hgr.tape,hgr.output,hgr.size,fun k hk _=>hgr.block k hk (by intro h;cases h)⟩,.inr hA⟩
  refine(aiT hI base n i c vb g xs vs w Tv h1 uo hown hlt hn hr hz hv Tb).mono ?_;rintro e w' ⟨he,ho,hgr⟩;exact⟨_,_,he,ho,hgr,.inl rfl⟩
 obtain rfl:i=n:=by omega
 have hl:xs.length=i*z:=hown.1;rw[rB (by omega),NR (by omega),oZ];exact aiS hI base i c vb A xs vs w Tv uo hown hn hz hv hbase
end
abbrev af6:=@Ta _ _ _ _ _ _ _ _ _ S6
abbrev afK:=@Ta _ _ _ _ _ _ _ _ _ S7
abbrev afR:=@Ta _ _ _ _ _ _ _ _ _ S8
end
end Go.Proofs.YtndjopkdbdcmdaaGreatDoor
