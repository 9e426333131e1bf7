/- Part 4 of the proof of pfinds_card. -/
import Derived.Test.YtndjopkdbdcmdaaGreatDoorPfi2
set_option linter.unusedVariables false
set_option linter.unusedSimpArgs false
set_option maxRecDepth 100000
set_option maxHeartbeats 12800000
open Go.Proofs.Tryz
namespace Go.Proofs.YtndjopkdbdcmdaaGreatDoor
section
open Go.RowKit Go.Shelf
theorem Tx(a:Int)(w:World):Calls prog 136 #[.int .i64 a] w fun e w'=>e=.returned (.bool false)∧w=w':=by
 go_enter func136,ntmps136;go_wp2;go_ret;exact⟨by simp,rfl⟩
theorem Ty(a:Int)(w:World):Calls prog 180 #[.int .i64 a] w fun e w'=>e=.returned (.bool false)∧w=w':=by
 go_enter func180,ntmps180;go_wp2;go_ret;exact⟨by simp,rfl⟩
theorem Tz(a:Int)(w:World):Calls prog 137 #[.int .u64 a] w fun e w'=>e=.returned (.bool false)∧w=w':=by
 go_enter func137,ntmps137;go_wp2;go_ret;exact⟨by simp,rfl⟩
theorem E6(a:Nat)(w:World):Calls prog 181 #[.float .f64 a] w fun e w'=>e=.returned (.bool (dt a))∧w=w':=by
 go_enter func181,ntmps181;go_wp2;go_ret;exact⟨rfl,rfl⟩
theorem CA(a b:Int)(w:World):Calls prog 92 #[.int .i64 a,.int .i64 b] w fun e w'=>e=.returned (.int .i64 (sg a b))∧w=w':=by
 rcases qw a b with h | h | h
 ·rw[nO h];go_enter func92,ntmps92;go_wp2_with (go_at_call 136;refine(Tx _ _).mono ?_;rintro e w' ⟨rfl,rfl⟩);go_ret;exact⟨rfl,rfl⟩
 ·rw[jV h];subst h;go_enter func92,ntmps92;go_wp2_with (go_at_call 136;refine(Tx _ _).mono ?_;rintro e w' ⟨rfl,rfl⟩);go_ret;exact⟨rfl,rfl⟩
 rw[oC h];have h2:¬ a<b:=by omega
 go_enter func92,ntmps92;go_wp2_with (go_at_call 136;refine(Tx _ _).mono ?_;rintro e w' ⟨rfl,rfl⟩);go_ret;exact⟨rfl,rfl⟩
theorem aaX(a b:Int)(w:World):Calls prog 139 #[.int .i64 a,.int .i64 b] w fun e w'=>e=.returned (.int .i64 (sg a b))∧w=w':=by
 rcases qw a b with h | h | h
 ·rw[nO h];go_enter func139,ntmps139;go_wp2_with (go_at_call 180;refine(Ty _ _).mono ?_;rintro e w' ⟨rfl,rfl⟩);go_ret;exact⟨rfl,rfl⟩
 ·rw[jV h];subst h;go_enter func139,ntmps139;go_wp2_with (go_at_call 180;refine(Ty _ _).mono ?_;rintro e w' ⟨rfl,rfl⟩);go_ret;exact⟨rfl,rfl⟩
 rw[oC h];have h2:¬ a<b:=by omega
 go_enter func139,ntmps139;go_wp2_with (go_at_call 180;refine(Ty _ _).mono ?_;rintro e w' ⟨rfl,rfl⟩);go_ret;exact⟨rfl,rfl⟩
theorem TA(a b:Int)(w:World):Calls prog 94 #[.int .u64 a,.int .u64 b] w fun e w'=>e=.returned (.int .i64 (sg a b))∧w=w':=by
 rcases qw a b with h | h | h
 ·rw[nO h];go_enter func94,ntmps94;go_wp2_with (go_at_call 137;refine(Tz _ _).mono ?_;rintro e w' ⟨rfl,rfl⟩);go_ret;exact⟨rfl,rfl⟩
 ·rw[jV h];subst h;go_enter func94,ntmps94;go_wp2_with (go_at_call 137;refine(Tz _ _).mono ?_;rintro e w' ⟨rfl,rfl⟩);go_ret;exact⟨rfl,rfl⟩
 rw[oC h];have h2:¬ a<b:=by omega
 go_enter func94,ntmps94;go_wp2_with (go_at_call 137;refine(Tz _ _).mono ?_;rintro e w' ⟨rfl,rfl⟩);go_ret;exact⟨rfl,rfl⟩
structure Num (x:Nat):Prop where
 bits:x<18446744073709551616
 le:x % 9223372036854775808≤9218868437227405312
theorem Num.of{x:Nat}(h:x<18446744073709551616)(hn:dt x=false):Num x:=by
 rw[Sa h] at hn;exact⟨h,by simpa using hn⟩
theorem Num.nan{x:Nat}(h:Num x):dt x=false:=by rw[Sa h.bits];exact bX (by have:=h.le;omega)
theorem Num.lt{x y:Nat}(h:Num x)(k:Num y)(hl:sv x<sv y):FloatKind.f64.format.order x y=some Ordering.lt:=(Mx h.bits k.bits h.le k.le).trans (by rw[vP hl])
theorem Num.eq{x y:Nat}(h:Num x)(k:Num y)(hl:sv x=sv y):FloatKind.f64.format.order x y=some Ordering.eq:=(Mx h.bits k.bits h.le k.le).trans (by rw[yX hl])
theorem Num.gt{x y:Nat}(h:Num x)(k:Num y)(hl:sv y<sv x):FloatKind.f64.format.order x y=some Ordering.gt:=(Mx h.bits k.bits h.le k.le).trans (by rw[vQ hl])
theorem aaY(x y:Nat)(hx:Num x)(hy:Num y)(w:World):Calls prog 141 #[.float .f64 x,.float .f64 y] w fun e w'=>e=.returned (.int .i64 (sg (sv x) (sv y)))∧w=w':=by
 have n1:=hx.nan;have n2:=hy.nan;rcases qw (sv x) (sv y) with h | h | h
 ·rw[nO h];have ho:=hx.lt hy h;clear h;go_enter func141,ntmps141;go_wp2_with (first | (go_at_call 181;refine(E6 x _).mono ?_;rintro e w' ⟨rfl,rfl⟩) | (go_at_call 181;refine(E6 y _).mono ?_;rintro e w' ⟨rfl,rfl⟩));go_ret;exact⟨rfl,rfl⟩
 ·rw[jV h];have ho:=hx.eq hy h;clear h;go_enter func141,ntmps141;go_wp2_with (first | (go_at_call 181;refine(E6 x _).mono ?_;rintro e w' ⟨rfl,rfl⟩) | (go_at_call 181;refine(E6 y _).mono ?_;rintro e w' ⟨rfl,rfl⟩));go_ret;exact⟨rfl,rfl⟩
 rw[oC h];have ho:=hx.gt hy h;clear h;go_enter func141,ntmps141;go_wp2_with (first | (go_at_call 181;refine(E6 x _).mono ?_;rintro e w' ⟨rfl,rfl⟩) | (go_at_call 181;refine(E6 y _).mono ?_;rintro e w' ⟨rfl,rfl⟩));go_ret;exact⟨rfl,rfl⟩
theorem ajp(f:Nat)(s:Bool)(m:Nat)(p:Int)(h:Ieee.double.read f=.number s m p)(w:World):(Extern.MathFloor.toIntegral "math.archFloor" .down #[.float .f64 f]).run prog w=.ok (.float .f64 (mQ f)) w:=by
 have hd:FloatKind.f64.decode f=.number s m p:=h;change Sem.run prog (match FloatKind.f64.decode f with
  | .nan s t =>
   if FloatKind.f64.format.quiet t=t then pure (Value.float .f64 f) else do
   let kept ← choose (.extern "math.Floor,Ceil,Trunc,RoundToEven.signallingNaN kept" 2);pure (Value.float .f64 (if kept==1 then f else FloatKind.f64.encode (.nan s (FloatKind.f64.format.quiet t))))
  | d=>pure (Value.float .f64 (FloatKind.f64.encode (d.integral .down)))) w=_
 rw[hd];unfold mQ;rw[h];rfl
theorem aaZ(f:Nat)(hf:f<18446744073709551616)(fin:f % 9223372036854775808<9218868437227405312)(w:World):Calls prog 182 #[.float .f64 f] w fun e w'=>e=.returned (.float .f64 (mQ f))∧w=w':=by
 obtain⟨m, p, hr, -⟩:=I8 hf fin;have HX:=aa (ajp f _ m p hr);clear hr;go_enter func182, ntmps182;go_wp2_with fail;rw[run_callFunc_extern (P:=prog) (f:=204) (fn:=f204) (by kernel_rfl) (by kernel_rfl) (by kernel_rfl) (by kernel_rfl) (e:=Extern.MathFloor.toIntegral "math.archFloor" .down) (by kernel_rfl), HX.o];simp only[Result.andThen];rw[Ko];go_wp2_with fail;go_ret;exact⟨rfl, rfl⟩
theorem JJ:sv 4890909195324358656=9223372036854775808*(U1:Int):=by
 have h:=zV false 4503599627370496 11 (by omega) (by omega) (by omega);rw[show Ieee.double.word false ((11+1074)*4503599627370496+4503599627370496)=4890909195324358656 by unfold Ieee.Format.word;decide,ai (by decide),mV] at h;rw[h];rfl
theorem TB:sv 14114281232179134464=-9223372036854775808*(U1:Int):=by
 have h:=zV true 4503599627370496 11 (by omega) (by omega) (by omega);rw[show Ieee.double.word true ((11+1074)*4503599627370496+4503599627370496)=14114281232179134464 by unfold Ieee.Format.word;decide,aw rfl,mV] at h;rw[h,← qx];rfl
theorem Np:Num 4890909195324358656:=⟨by decide,by decide⟩
theorem TC:Num 14114281232179134464:=⟨by decide,by decide⟩
noncomputable def lA(i:Int)(f:Nat):Int:=if i*(U1:Int)<sv f then -1 else if sv f<i*(U1:Int) then 1 else 0
theorem TD(i:Int)(f:Nat):tq i f=if lA i f≠0 then lA i f else if f=9223372036854775808 then 1 else -1:=by
 unfold tq lA
 repeat' split
 all_goals first | rfl | contradiction | omega
inductive Nq (i:Int) (f:Nat):Int→Prop
 | high (h:FloatKind.f64.format.order f 4890909195324358656=some Ordering.gt∨FloatKind.f64.format.order f 4890909195324358656=some Ordering.eq):Nq i f (-1)
 | low (h1:FloatKind.f64.format.order f 4890909195324358656=some Ordering.lt) (h2:FloatKind.f64.format.order f 14114281232179134464=some Ordering.lt):Nq i f 1
 | mid (r k:Int) (fin:f % 9223372036854775808<9218868437227405312) (h1:FloatKind.f64.format.order f 4890909195324358656=some Ordering.lt) (h2:FloatKind.f64.format.order f 14114281232179134464=some Ordering.gt∨FloatKind.f64.format.order f 14114281232179134464=some Ordering.eq)
  (hk:floatToIntVal .f64 (mQ f) .i64=some k) (h3:(i<k∧r=-1)∨(k<i∧r=1)∨(i=k∧((FloatKind.f64.format.order f (mQ f)=some Ordering.gt∧FloatKind.f64.format.order (mQ f) f=some Ordering.lt∧r=-1)∨(FloatKind.f64.format.order f (mQ f)=some Ordering.eq∧FloatKind.f64.format.order (mQ f) f=some Ordering.eq∧r=0)))):Nq i f r
theorem ways(i:Int)(f:Nat)(hf:Num f)(h1:-9223372036854775808≤i)(h2:i≤9223372036854775807):Nq i f (lA i f):=by
 have hu:=My;by_cases a:sv f<9223372036854775808*(U1:Int)
 ·by_cases b:sv f < -9223372036854775808*(U1:Int)
  ·have e:lA i f=1:=by
    have:-9223372036854775808*(U1:Int)≤i*(U1:Int):=Kq h1 (by omega);unfold lA;rw[ai (by omega),aw (by omega)]
   rw[e];exact .low (hf.lt Np (by rw[JJ];exact a)) (hf.lt TC (by rw[TB];exact b))
  have fin:f % 9223372036854775808<9218868437227405312:=by
   rcases xa hf.le with h | h
   ·exact h
   exfalso;have hs:=Mw hf.bits;rw[h] at hs;have hi:=JJ;have hl:=EJ (show 4890909195324358656<9218868437227405312 by decide);have e1:sv 4890909195324358656=(rv 4890909195324358656:Int):=by unfold sv;rw[aw (by decide)]
   split at hs<;>omega
  obtain⟨k,w1,w2,w3,w4,w5,w6⟩:=ahO f hf.bits fin (by omega) a;have nf:Num (mQ f):=⟨w1,by omega⟩;refine .mid _ k fin (hf.lt Np (by rw[JJ];exact a)) ?_ w4 ?_
  ·rcases Kr (Int.not_lt.1 b) with h | h
   ·exact .inl (hf.gt TC (by rw[TB];exact h))
   exact .inr (hf.eq TC (by rw[TB];exact h.symm))
  rcases qw i k with h | h | h
  ·left;refine⟨h,?_⟩;have:=EM h;unfold lA;rw[aw (by omega)]
  ·right;right;subst h;refine⟨rfl,?_⟩;rcases Kr w5 with h | h
   ·left;refine⟨hf.gt nf (by omega),nf.lt hf (by omega),?_⟩;unfold lA;rw[aw h]
   right;refine⟨hf.eq nf (by omega),nf.eq hf (by omega),?_⟩;unfold lA;rw[ai (by omega),ai (by omega)]
  right;left;refine⟨h,?_⟩;have:(k+1)*(U1:Int)≤i*(U1:Int):=Kq (by omega) (by omega);unfold lA;rw[ai (by omega),aw (by omega)]
 have e:lA i f=-1:=by
  have:i*(U1:Int)<9223372036854775808*(U1:Int):=EM (by omega);unfold lA;rw[aw (by omega)]
 rw[e];refine .high ?_;rcases Kr (Int.not_lt.1 a) with h | h
 ·exact .inl (hf.gt Np (by rw[JJ];exact h))
 exact .inr (hf.eq Np (by rw[JJ];exact h.symm))
theorem ajq(i:Int)(f:Nat)(hf:Num f)(h1:-9223372036854775808≤i)(h2:i≤9223372036854775807)(w:World):Calls prog 142 #[.int .i64 i,.float .f64 f] w fun e w'=>e=.returned (.int .i64 (lA i f))∧w=w':=by
 have hw:=ways i f hf h1 h2;have hb:=hf.bits;obtain⟨r,hr⟩:∃r,lA i f=r:=⟨_,rfl⟩;rw[hr] at hw ⊢;clear hr hf
 cases hw with
 | high h =>
  rcases h with h | h
  all_goals
   go_enter func142,ntmps142
   go_wp2_with fail
   go_ret
   exact⟨rfl,rfl⟩
 | low h1 h2 =>
  go_enter func142,ntmps142;go_wp2_with fail;go_ret;exact⟨rfl,rfl⟩
 | mid _ k fin h1 h2 hk h3 =>
  have hv:=I7 (mQ f) k hk;have oa:=aa (fun w=>aaZ f hb fin w);clear hk fin;obtain⟨F,hF⟩:∃F,mQ f=F:=⟨_,rfl⟩;rw[hF] at hv h3 oa;clear hF hb;rcases h2 with h2 | h2<;>rcases h3 with ⟨h3,rfl⟩ | ⟨h3,rfl⟩ | ⟨rfl,⟨h3,h4,rfl⟩ | ⟨h3,h4,rfl⟩⟩
  all_goals
   go_enter func142,ntmps142
   first
   | have hs:sg i k=-1:=nO h3
   | have hs:sg i k=1:=oC h3
   | have hs:sg i i=0:=jV rfl
   go_wp2_with (first | (go_at_call 182;refine(oa.o _).mono ?_;rintro e w' ⟨rfl,rfl⟩) | (go_at_call 139;refine(aaX _ _ _).mono ?_;rintro e w' ⟨rfl,rfl⟩;rw[hs]))
   go_ret
   exact⟨rfl,rfl⟩
end
section
open Go.RowKit Go.Shelf
theorem ajr{c:Int}(h:c=-1∨c=0∨c=1):IntKind.i64.wrap (-c)=-c:=by rcases h with rfl | rfl | rfl<;>decide
theorem TE(i:Int)(f:Nat):lA i f=-1∨lA i f=0∨lA i f=1:=by
 unfold lA;repeat' split
 all_goals omega
theorem ajs(c c':Cv)(n n':Nat)(w:World)(hk:c.k=4)(hn:c.n=(n:Int))(hk':c'.k=4)(hn':c'.n=(n':Int))(h1:n<18446744073709551616)(h2:n'<18446744073709551616) :
 Calls prog 95 #[c.agg,c'.agg] w fun e w'=>e=.returned (.int .i64 (dw 4 n 4 n'))∧Grow w w':=by
 obtain⟨ck,cn,a1,a2,a3,a4,a5,a6,a7,a8,a9⟩:=c;obtain⟨dk,dn,b1,b2,b3,b4,b5,b6,b7,b8,b9⟩:=c';dsimp only at hk hn hk' hn';subst hk hn hk' hn';have hb:=pQ
 have p_:=aa (Num.of h1);have wK:=aa (Num.of h2);have HG:=aa (((ah w).alloc (.cells (Cv.mk 4 n a1 a2 a3 a4 a5 a6 a7 a8 a9).cells 27)).alloc (.cells (Cv.mk 4 n' b1 b2 b3 b4 b5 b6 b7 b8 b9).cells 27));have HI:=aa (fun w=>xt n w);have HJ:=aa (fun w=>xt n' w);by_cases hx:dt n=true
 ·by_cases hy:dt n'=true
  ·have HC:=aa (show sg (n:Int) (n':Int)=dw 4 n 4 n' by unfold dw;rw[ai (by decide),aw hx,ai (by decide),aw hy]);rw[hx] at HI;rw[hy] at HJ;go_enter func95,ntmps95;go_wp2_with fail;go_quiet (fail);go_wp2_with (first | (go_at_call 140;refine(HI.o _).mono ?_;rintro e w' ⟨rfl,rfl⟩) | (go_at_call 140;refine(HJ.o _).mono ?_;rintro e w' ⟨rfl,rfl⟩) | (go_at_call 94;refine(TA _ _ _).mono ?_;rintro e w' ⟨rfl,rfl⟩));go_ret;exact⟨cA HC.o,HG.o.drewN _⟩
  have hy:dt n'=false:=by simpa using hy
  have HC:=aa (show -1=dw 4 n 4 n' by unfold dw;rw[ai (by decide),aw hx,ai (by decide),ai (by rw[hy];decide)]);rw[hx] at HI;rw[hy] at HJ;go_enter func95,ntmps95;go_wp2_with fail;go_quiet (fail);go_wp2_with (first | (go_at_call 140;refine(HI.o _).mono ?_;rintro e w' ⟨rfl,rfl⟩) | (go_at_call 140;refine(HJ.o _).mono ?_;rintro e w' ⟨rfl,rfl⟩));go_ret;exact⟨cA HC.o,HG.o.drewN _⟩
 have hx:dt n=false:=by simpa using hx
 rw[hx] at HI;by_cases hy:dt n'=true
 ·have HC:=aa (show 1=dw 4 n 4 n' by unfold dw;rw[ai (by decide),ai (by rw[hx];decide),ai (by decide),aw hy]);rw[hy] at HJ;go_enter func95,ntmps95;go_wp2_with fail;go_quiet (fail);go_wp2_with (first | (go_at_call 140;refine(HI.o _).mono ?_;rintro e w' ⟨rfl,rfl⟩) | (go_at_call 140;refine(HJ.o _).mono ?_;rintro e w' ⟨rfl,rfl⟩));go_ret;exact⟨cA HC.o,HG.o.drewN _⟩
 have hy:dt n'=false:=by simpa using hy
 rw[hy] at HJ;have fx:=p_.o hx;have fy:=wK.o hy;have hC:dw 4 n 4 n'=if sv n<sv n' then -1 else if sv n'<sv n then 1 else sg ((n' / 9223372036854775808:Nat):Int) ((n / 9223372036854775808:Nat):Int):=by
  unfold dw;rw[ai (by decide),ai (by rw[hx];decide),ai (by decide),ai (by rw[hy];decide)]
 rcases qw (sv n) (sv n') with h | h | h
 ·have ho:=fx.lt fy h;have HS:=aa (fun w=>aaY n n' fx fy w);rw[nO h] at HS;have HC:=aa (show -1=dw 4 n 4 n' by rw[hC,aw h]);clear h hC fx fy;go_enter func95,ntmps95;go_wp2_with fail;go_quiet (fail);go_wp2_with (first | (go_at_call 140;refine(HI.o _).mono ?_;rintro e w' ⟨rfl,rfl⟩) | (go_at_call 140;refine(HJ.o _).mono ?_;rintro e w' ⟨rfl,rfl⟩) | (go_at_call 141;refine(HS.o _).mono ?_;rintro e w' ⟨rfl,rfl⟩));go_ret;exact⟨cA HC.o,HG.o.drewN _⟩
 ·have ho:=fx.eq fy h;have HC:=aa (show sg ((n' / 9223372036854775808:Nat):Int) ((n / 9223372036854775808:Nat):Int)=dw 4 n 4 n' by rw[hC,ai (by omega),ai (by omega)]);clear h hC fx fy;go_enter func95,ntmps95;go_wp2_with fail;go_quiet (fail);go_wp2_with (first | (go_at_call 140;refine(HI.o _).mono ?_;rintro e w' ⟨rfl,rfl⟩) | (go_at_call 140;refine(HJ.o _).mono ?_;rintro e w' ⟨rfl,rfl⟩) | (go_at_call 94;refine(TA _ _ _).mono ?_;rintro e w' ⟨rfl,rfl⟩));go_ret;exact⟨cA (by rw[← HC.o];rfl),HG.o.drewN _⟩
 have ho:=fx.gt fy h;have HS:=aa (fun w=>aaY n n' fx fy w);rw[oC h] at HS;have HC:=aa (show 1=dw 4 n 4 n' by rw[hC,ai (by omega),aw h]);clear h hC fx fy;go_enter func95,ntmps95;go_wp2_with fail;go_quiet (fail);go_wp2_with (first | (go_at_call 140;refine(HI.o _).mono ?_;rintro e w' ⟨rfl,rfl⟩) | (go_at_call 140;refine(HJ.o _).mono ?_;rintro e w' ⟨rfl,rfl⟩) | (go_at_call 141;refine(HS.o _).mono ?_;rintro e w' ⟨rfl,rfl⟩));go_ret;exact⟨cA HC.o,HG.o.drewN _⟩
theorem CB(n:Nat)(h:n<18446744073709551616):IntKind.i64.wrap (n:Int)=i64 n:=by
 unfold i64;rw[lJ];split<;>omega
theorem aa0(c c':Cv)(n n':Nat)(w:World)(hk:c.k=4)(hn:c.n=(n:Int))(hk':c'.k=3)(hn':c'.n=(n':Int))(h1:n<18446744073709551616)(h2:n'<18446744073709551616) :
 Calls prog 95 #[c.agg,c'.agg] w fun e w'=>e=.returned (.int .i64 (dw 4 n 3 n'))∧Grow w w':=by
 obtain⟨ck,cn,a1,a2,a3,a4,a5,a6,a7,a8,a9⟩:=c;obtain⟨dk,dn,b1,b2,b3,b4,b5,b6,b7,b8,b9⟩:=c';dsimp only at hk hn hk' hn';subst hk hn hk' hn';have hb:=pQ
 have HG:=aa (((ah w).alloc (.cells (Cv.mk 4 n a1 a2 a3 a4 a5 a6 a7 a8 a9).cells 27)).alloc (.cells (Cv.mk 3 n' b1 b2 b3 b4 b5 b6 b7 b8 b9).cells 27));have HI:=aa (fun w=>xt n w);have hcv:=CB n' h2;by_cases hx:dt n=true
 ·have HC:=aa (show -1=dw 4 n 3 n' by unfold dw;rw[ai (by decide),aw hx,aw rfl]);rw[hx] at HI;go_enter func95,ntmps95;go_wp2_with fail;go_quiet (fail);go_wp2_with (go_at_call 140;refine(HI.o _).mono ?_;rintro e w' ⟨rfl,rfl⟩);go_ret;exact⟨cA HC.o,HG.o.drewN _⟩
 have hx:dt n=false:=by simpa using hx
 rw[hx] at HI;have fx:=Num.of h1 hx;have hr:=AX n' h2;have hC:dw 4 n 3 n'=-(tq (i64 n') n):=by unfold dw;rw[ai (by decide),ai (by rw[hx];decide),aw rfl]
 rw[TD] at hC;have HW:=aa (fun w=>ajq (i64 n') n fx hr.1 hr.2 w);rcases TE (i64 n') n with h | h | h
 ·rw[h] at hC HW;have HC:=aa hC;clear hC h hr fx;go_enter func95,ntmps95;go_wp2_with fail;go_quiet (fail);go_wp2_with (first | (go_at_call 140;refine(HI.o _).mono ?_;rintro e w' ⟨rfl,rfl⟩) | (go_at_call 142;refine(HW.o _).mono ?_;rintro e w' ⟨rfl,rfl⟩));go_ret;exact⟨cA (by rw[HC.o];simp),HG.o.drewN _⟩
 ·rw[h] at hC HW;have HC:=aa hC;clear hC h hr fx;by_cases hz:n=9223372036854775808
  ·subst hz;go_enter func95,ntmps95;go_wp2_with fail;go_quiet (fail);go_wp2_with (first | (go_at_call 140;refine(HI.o _).mono ?_;rintro e w' ⟨rfl,rfl⟩) | (go_at_call 142;refine(HW.o _).mono ?_;rintro e w' ⟨rfl,rfl⟩));go_ret;exact⟨cA (by rw[HC.o];simp),HG.o.drewN _⟩
  have E7:((n:Int)==9223372036854775808)=false:=by simp;omega
  have HZ:=aa hz;clear hz;go_enter func95,ntmps95;go_wp2_with fail;go_quiet (fail);go_wp2_with (first | (go_at_call 140;refine(HI.o _).mono ?_;rintro e w' ⟨rfl,rfl⟩) | (go_at_call 142;refine(HW.o _).mono ?_;rintro e w' ⟨rfl,rfl⟩));go_ret;exact⟨cA (by rw[HC.o];simp[HZ.o]),HG.o.drewN _⟩
 rw[h] at hC HW;have HC:=aa hC;clear hC h hr fx;go_enter func95,ntmps95;go_wp2_with fail;go_quiet (fail);go_wp2_with (first | (go_at_call 140;refine(HI.o _).mono ?_;rintro e w' ⟨rfl,rfl⟩) | (go_at_call 142;refine(HW.o _).mono ?_;rintro e w' ⟨rfl,rfl⟩));go_ret;exact⟨cA (by rw[HC.o];simp),HG.o.drewN _⟩
theorem ajt(c c':Cv)(n n':Nat)(w:World)(hk:c.k=3)(hn:c.n=(n:Int))(hk':c'.k=3)(hn':c'.n=(n':Int))(h1:n<18446744073709551616)(h2:n'<18446744073709551616) :
 Calls prog 95 #[c.agg,c'.agg] w fun e w'=>e=.returned (.int .i64 (dw 3 n 3 n'))∧Grow w w':=by
 obtain⟨ck,cn,a1,a2,a3,a4,a5,a6,a7,a8,a9⟩:=c;obtain⟨dk,dn,b1,b2,b3,b4,b5,b6,b7,b8,b9⟩:=c';dsimp only at hk hn hk' hn';subst hk hn hk' hn';have hb:=pQ
 have HG:=aa (((ah w).alloc (.cells (Cv.mk 3 n a1 a2 a3 a4 a5 a6 a7 a8 a9).cells 27)).alloc (.cells (Cv.mk 3 n' b1 b2 b3 b4 b5 b6 b7 b8 b9).cells 27));have hcv:=CB n h1;have Qd:=CB n' h2;have HC:=aa (show sg (i64 n) (i64 n')=dw 3 n 3 n' by unfold dw;rw[aw rfl,aw rfl]);go_enter func95,ntmps95;go_wp2_with fail;go_quiet (fail);go_wp2_with (go_at_call 139;refine(aaX _ _ _).mono ?_;rintro e w' ⟨rfl,rfl⟩);go_ret;exact⟨cA HC.o,HG.o.drewN _⟩
theorem aju(k k':Int)(n n':Nat):dw k n k' n'=-1∨dw k n k' n'=0∨dw k n k' n'=1:=by
 have hm:∀i f,tq i f=-1∨tq i f=1:=by
  intro i f;unfold tq;repeat' split
  all_goals omega
 unfold dw
 repeat' split
 all_goals first | exact ahR _ _ | omega | (have:=hm (i64 n) n';omega) | (have:=hm (i64 n') n;omega)
theorem ajv(n n':Nat):dw 3 n 4 n'=-(dw 4 n' 3 n):=by
 unfold dw;have h43:¬ (4:Int)=3:=by decide
 simp only[iD,ai h43];by_cases h:dt n'=true
 ·simp only[aw h];rfl
 simp only[ai h];omega
theorem ajw(c c':Cv)(n n':Nat)(w:World)(hk:c.k=3)(hn:c.n=(n:Int))(hk':c'.k=4)(hn':c'.n=(n':Int))(h1:n<18446744073709551616)(h2:n'<18446744073709551616) :
 Calls prog 95 #[c.agg,c'.agg] w fun e w'=>e=.returned (.int .i64 (dw 3 n 4 n'))∧Grow w w':=by
 have HR:=aa (fun w=>aa0 c' c n' n w hk' hn' hk hn h2 h1);have fp:=aa (ajr (aju 4 3 n' n));rw[ajv];obtain⟨ck,cn,a1,a2,a3,a4,a5,a6,a7,a8,a9⟩:=c;obtain⟨dk,dn,b1,b2,b3,b4,b5,b6,b7,b8,b9⟩:=c';dsimp only at hk hn hk' hn';subst hk hn hk' hn';obtain⟨z,hz⟩:∃z,dw 4 n' 3 n=z:=⟨_,rfl⟩;rw[hz] at HR fp ⊢;have hwr:=fp.o;clear hz;have hb:=pQ
 have HG:=aa (((ah w).alloc (.cells (Cv.mk 3 n a1 a2 a3 a4 a5 a6 a7 a8 a9).cells 27)).alloc (.cells (Cv.mk 4 n' b1 b2 b3 b4 b5 b6 b7 b8 b9).cells 27));go_enter func95,ntmps95;go_wp2_with fail;go_quiet (fail);go_wp2_with fail;refine(HR.o _).mono ?_;rintro e w' ⟨rfl,hg⟩;have HG2:=aa ((HG.o.drewN _).trans hg);clear hg;go_wp2_with fail;go_ret;exact⟨rfl,HG2.o⟩
theorem ajx(k k':Int)(n n':Nat)(c c':Cv)(w:World)(hk:k=3∨k=4)(hk':k'=3∨k'=4)(h:In w (.mk k n [] [] []) c)(h':In w (.mk k' n' [] [] []) c') :
 Calls prog 95 #[c.agg,c'.agg] w fun e w'=>e=.returned (.int .i64 (dw k n k' n'))∧Grow w w':=by
 obtain⟨aB,aL,aF,cB,cL,cF,rfl,-,-,h3,-⟩:=h.open;obtain⟨bB,bL,bF,dB,dL,dF,rfl,-,-,k3,-⟩:=h'.open;rcases hk with rfl | rfl<;>rcases hk' with rfl | rfl
 ·exact ajt _ _ n n' w rfl rfl rfl rfl h3 k3
 ·exact ajw _ _ n n' w rfl rfl rfl rfl h3 k3
 ·exact aa0 _ _ n n' w rfl rfl rfl rfl h3 k3
 exact ajs _ _ n n' w rfl rfl rfl rfl h3 k3
end
section
open Go.RowKit Go.Shelf
theorem yz(k:Int)(w:World):Calls prog 93 #[.int .i64 k] w fun e w'=>e=.returned (.int .i64 (cls k))∧w=w':=by
 by_cases h:k=4
 ·subst h;go_enter func93,ntmps93;go_wp2_with fail;go_ret;exact⟨rfl,rfl⟩
 have hq:(k==4)=false:=by simpa using h
 have HC:=aa (show cls k=k by unfold cls;rw[ai h]);clear h;go_enter func93,ntmps93;go_wp2_with fail;go_ret;exact⟨cA HC.o.symm,rfl⟩
theorem ajy(a b:ByteArray)(w:World):Calls prog 143 #[.string a,.string b] w fun e w'=>e=.returned (.int .i64 (Lib.compareBytes a.data.toList b.data.toList))∧w=w':=by
 go_enter func143,ntmps143;go_wp2_with fail;rw[run_callFunc_extern (P:=prog) (f:=183) (fn:=f183) (by kernel_rfl) (by kernel_rfl) (by kernel_rfl) (by kernel_rfl) (e:=Extern.BytealgCompare.compare) (by kernel_rfl),Lib.run_compareString];simp only[Result.andThen];rw[Ko];go_wp2_with fail;go_ret;exact⟨rfl,rfl⟩
theorem Pn(a b:ByteArray)(w:World):Calls prog 97 #[.string a,.string b] w fun e w'=>e=.returned (.int .i64 (Lib.compareBytes a.data.toList b.data.toList))∧w=w':=by
 go_enter func97,ntmps97;go_wp2_with (go_at_call 143;refine(ajy a b _).mono ?_;rintro e w' ⟨rfl,rfl⟩);go_ret;exact⟨rfl,rfl⟩
theorem aa1(a b:Int)(g cap:Nat)(t:TypeId)(w:World)(hB:Blk w g t #[.int .i64 a,.int .i64 b]):Calls prog 96 #[.slice (some ⟨g,0,none⟩) 2 cap] w fun e w'=>e=.returned (.int .i64 (dM a b))∧w=w':=by
 have hc:=hB.cell;have hlt:=hB.lt;clear hB;have hc0:=hc 0;have hc1:=hc 1;clear hc;by_cases ha:a=0
 ·subst ha;rw[iR];by_cases hb:b=0
  ·subst hb;go_enter func96,ntmps96;go_wp2_with fail;go_loopg [5,8] 3 (fun gk x i wr=>w=wr∧∃j:Nat,j≤2∧gk+j=3∧i=.int .i64 j);exact⟨rfl,0,by omega,by omega,rfl⟩;obtain⟨rfl,j,hj,hg,rfl⟩:=hrel;obtain⟨gk',rfl⟩:=bS gk (by omega);rcases j with _ | _ | _ | j
   ·go_wp2_with fail;go_roundg gk';exact⟨rfl,1,by omega,by omega,rfl⟩;omega
   ·go_wp2_with fail;go_roundg gk';exact⟨rfl,2,by omega,by omega,rfl⟩;omega
   ·go_wp2_with fail;go_ret;exact⟨rfl,rfl⟩
   omega
  have wN:(b != 0)=true:=by simpa using hb
  clear hb;go_enter func96,ntmps96;go_wp2_with fail;go_loopg [5,8] 3 (fun gk x i wr=>w=wr∧∃j:Nat,j≤1∧gk+j=3∧i=.int .i64 j);exact⟨rfl,0,by omega,by omega,rfl⟩;obtain⟨rfl,j,hj,hg,rfl⟩:=hrel;obtain⟨gk',rfl⟩:=bS gk (by omega);rcases j with _ | _ | j
  ·go_wp2_with fail;go_roundg gk';exact⟨rfl,1,by omega,by omega,rfl⟩;omega
  ·go_wp2_with fail;go_ret;exact⟨rfl,rfl⟩
  omega
 rw[nu b ha];have haq:(a != 0)=true:=by simpa using ha
 clear ha;go_enter func96,ntmps96;go_wp2_with fail;go_loopg [5,8] 3 (fun gk x i wr=>w=wr∧i=.int .i64 0);exact⟨rfl,rfl⟩;obtain⟨rfl,rfl⟩:=hrel;go_wp2_with fail;go_ret;exact⟨rfl,rfl⟩
theorem ajz(a b:Int)(g cap:Nat)(t:TypeId)(w:World)(hB:Blk w g t #[.int .i64 a,.int .i64 b]):Calls prog 49 #[.slice (some ⟨g,0,none⟩) 2 cap] w fun e w'=>e=.returned (.int .i64 (dM a b))∧w=w':=by
 have hc:=hB.cell;have hlt:=hB.lt;clear hB;have hc0:=hc 0;have hc1:=hc 1;clear hc;by_cases ha:a=0
 ·subst ha;rw[iR];by_cases hb:b=0
  ·subst hb;go_enter func49,ntmps49;go_wp2_with fail;go_loopg [5,8] 3 (fun gk x i wr=>w=wr∧∃j:Nat,j≤2∧gk+j=3∧i=.int .i64 j);exact⟨rfl,0,by omega,by omega,rfl⟩;obtain⟨rfl,j,hj,hg,rfl⟩:=hrel;obtain⟨gk',rfl⟩:=bS gk (by omega);rcases j with _ | _ | _ | j
   ·go_wp2_with fail;go_roundg gk';exact⟨rfl,1,by omega,by omega,rfl⟩;omega
   ·go_wp2_with fail;go_roundg gk';exact⟨rfl,2,by omega,by omega,rfl⟩;omega
   ·go_wp2_with fail;go_ret;exact⟨rfl,rfl⟩
   omega
  have wN:(b != 0)=true:=by simpa using hb
  clear hb;go_enter func49,ntmps49;go_wp2_with fail;go_loopg [5,8] 3 (fun gk x i wr=>w=wr∧∃j:Nat,j≤1∧gk+j=3∧i=.int .i64 j);exact⟨rfl,0,by omega,by omega,rfl⟩;obtain⟨rfl,j,hj,hg,rfl⟩:=hrel;obtain⟨gk',rfl⟩:=bS gk (by omega);rcases j with _ | _ | j
  ·go_wp2_with fail;go_roundg gk';exact⟨rfl,1,by omega,by omega,rfl⟩;omega
  ·go_wp2_with fail;go_ret;exact⟨rfl,rfl⟩
  omega
 rw[nu b ha];have haq:(a != 0)=true:=by simpa using ha
 clear ha;go_enter func49,ntmps49;go_wp2_with fail;go_loopg [5,8] 3 (fun gk x i wr=>w=wr∧i=.int .i64 0);exact⟨rfl,rfl⟩;obtain⟨rfl,rfl⟩:=hrel;go_wp2_with fail;go_ret;exact⟨rfl,rfl⟩
theorem Nr{P:Program}{f:FuncId}{args:Array Value}{w:World}{a n:Nat}{v:Value}(h:Calls P f args (w.drewN (a+n)) fun e w'=>e=.returned v∧w.drewN (a+n)=w') :
 Calls P f args (w.drewN (a+n)) fun e w''=>e=.returned v∧∃m,w''=w.drewN (a+m):=h.mono fun _ _ q=>⟨q.1,n,q.2.symm⟩
theorem ajA{a b:List UInt8}{j:Nat}(h:a.take j=b.take j)(h1:j<a.length)(h2:j<b.length)(hne:a[j]≠b[j]):Lib.compareBytes a b=sg (a[j].toNat:Int) (b[j].toNat:Int):=by
 have e1:a=a.take j++a[j]::a.drop (j+1):=by rw[← Aw h1,qq]
 have e2:b=a.take j++b[j]::b.drop (j+1):=by rw[h,← Aw h2,qq]
 generalize a[j]=x at e1 hne ⊢;generalize b[j]=y at e2 hne ⊢;rw[e1,e2,DJ];exact(ah3 hne _ _).cmp
theorem aa2{a b:List UInt8}(h:a.take (min a.length b.length)=b.take (min a.length b.length)):Lib.compareBytes a b=sg (a.length:Int) (b.length:Int):=by
 rcases Nat.le_total a.length b.length with hl | hl
 ·rw[qu hl,fS] at h;have e:b=a++b.drop a.length:=by rw[h,dS,qu hl,qq]
  obtain⟨r,hr⟩:∃r,b.drop a.length=r:=⟨_,rfl⟩;rw[hr] at e;subst e;have:Lib.compareBytes a (a++r)=Lib.compareBytes [] r:=by have:=DJ a [] r;rwa [ml] at this
  rw[this]
  cases r with
  | nil=>simp[Lib.compareBytes,sg]
  | cons x r=>rw[Lib.compareBytes,nO (by simp;omega)]
 rw[FH hl,fS] at h;have e:a=b++a.drop b.length:=by rw[← h,dS,qu hl,qq]
 obtain⟨r,hr⟩:∃r,a.drop b.length=r:=⟨_,rfl⟩;rw[hr] at e;subst e;have:Lib.compareBytes (b++r) b=Lib.compareBytes r []:=by have:=DJ b r [];rwa [ml] at this
 rw[this]
 cases r with
 | nil=>simp[Lib.compareBytes,sg]
 | cons x r=>rw[Lib.compareBytes,oC (by simp;omega)]
end
section
open Go.RowKit Go.Shelf
theorem TF:∀(l:List Int) (j:Nat) (h:j<l.length),(∀i (hi:i<l.length),i<j→l[i]=0)→l[j]≠0→wR l=l[j]
 | [],j,h,_,_=>by simp at h
 | x::l,0,h,_,hn=>by simp only[CW] at hn ⊢;rw[wR,nu _ hn]
 | x::l,j+1,h,h0,hn=>by
  have hx:x=0:=h0 0 (by simp) (by omega);simp only[Fq] at hn ⊢;rw[wR,hx,iR];exact TF l j (by simpa using h) (fun i hi hij=>h0 (i+1) (by simpa using hi) (by omega)) hn
theorem TG:∀(l:List Int),(∀i (hi:i<l.length),l[i]=0)→wR l=0
 | [],_=>rfl
 | x::l,h=>by
  have hx:x=0:=h 0 (by simp);rw[wR,hx,iR];exact TG l (fun i hi=>h (i+1) (by simpa using hi))
namespace V
theorem aa3{l l':List V}{j:Nat}(h1:j<l.length)(h2:j<l'.length)(h:∀i (h1:i<l.length) (h2:i<l'.length),i<j→cmp l[i] l'[i]=0)(hn:cmp l[j] l'[j]≠0):cmpL l l'=cmp l[j] l'[j]:=by
 unfold cmpL;have hl:((l.zip l').map fun p=>cmp p.1 p.2).length=min l.length l'.length:=by simp
 rw[TF _ j (by rw[hl];omega) (fun i hi hij=>?_) (by simpa using hn)]
 ·simp
 rw[hl] at hi;have:=h i (by omega) (by omega) hij;simpa using this
theorem aa4{l l':List V}(h:∀i (h1:i<l.length) (h2:i<l'.length),cmp l[i] l'[i]=0):cmpL l l'=0:=by
 unfold cmpL;refine TG _ (fun i hi=>?_);have hl:((l.zip l').map fun p=>cmp p.1 p.2).length=min l.length l'.length:=by simp
 rw[hl] at hi;have:=h i (by omega) (by omega);simpa using this
theorem TI{l l':List (ByteArray×V)}{j:Nat}(h1:j<l.length)(h2:j<l'.length)(h:∀i (h1:i<l.length) (h2:i<l'.length),i<j→rB l[i] l'[i]=0)(hn:rB l[j] l'[j]≠0):l_ l l'=rB l[j] l'[j]:=by
 unfold l_;have hl:((l.zip l').map fun p=>rB p.1 p.2).length=min l.length l'.length:=by simp
 rw[TF _ j (by rw[hl];omega) (fun i hi hij=>?_) (by simpa using hn)]
 ·simp
 rw[hl] at hi;have:=h i (by omega) (by omega) hij;simpa using this
theorem aa5{l l':List (ByteArray×V)}(h:∀i (h1:i<l.length) (h2:i<l'.length),rB l[i] l'[i]=0):l_ l l'=0:=by
 unfold l_;refine TG _ (fun i hi=>?_);have hl:((l.zip l').map fun p=>rB p.1 p.2).length=min l.length l'.length:=by simp
 rw[hl] at hi;have:=h i (by omega) (by omega);simpa using this
end V
theorem Ns(a b c:Int):dM (dM a b) c=dM a (dM b c):=by unfold dM;split<;>simp_all
def CC(x y:V):Prop:=∀(w:World) (c c':Cv),In w x c→In w y c' →
 Calls prog 50 #[c.agg,c'.agg] w fun e w'=>e=.returned (.int .i64 (V.cmp x y))∧Grow w w'
theorem ajB(x y:V)(h:cls x.k≠cls y.k):CC x y:=by
 intro w c c' hx hy;obtain⟨k,n,b,l,f⟩:=x;obtain⟨k',n',b',l',f'⟩:=y;change cls k≠cls k' at h;have HE:=aa (show sg (cls k) (cls k')=V.cmp (.mk k n b l f) (.mk k' n' b' l' f') by rw[tu,aw h]);obtain⟨aB,aL,aF,cB,cL,cF,rfl,-⟩:=hx.open;obtain⟨bB,bL,bF,dB,dL,dF,rfl,-⟩:=hy.open;have HG:=aa (((ah w).alloc (.cells (Cv.mk k n aB b.length cB aL l.length cL aF f.length cF).cells 27)).alloc (.cells (Cv.mk k' n' bB b'.length dB bL l'.length dL bF f'.length dF).cells 27));have HA:=aa (fun w=>yz k w);have HB:=aa (fun w=>yz k' w);have HC:=aa (fun w=>CA (cls k) (cls k') w);have hz:(sg (cls k) (cls k') != 0)=true:=by have:=Z4 h;simpa using this
 obtain⟨z,hzz⟩:∃z,sg (cls k) (cls k')=z:=⟨_,rfl⟩;rw[hzz] at hz HC HE;rw[← HE.o];clear hx hy h hzz;go_enter func50,ntmps50;go_wp2_with fail;go_quiet ((first | (go_at_call 93;exact Calls.quiet_of_same ((HA.o _).mono fun e w' h=>⟨h.1,h.2.symm⟩)) | (go_at_call 93;exact Calls.quiet_of_same ((HB.o _).mono fun e w' h=>⟨h.1,h.2.symm⟩)) | (go_at_call 92;exact Calls.quiet_of_same ((HC.o _).mono fun e w' h=>⟨h.1,h.2.symm⟩))));go_wp2_with fail;go_ret;exact⟨rfl,HG.o.drewN _⟩
theorem TJ(k:Int)(n n':Nat)(b b':List UInt8)(l l':List V)(f f':List (ByteArray×V))(c c':Cv)(w:World)(hk2:(k==2)=false)(hk3:(k==3)=false)(hk4:(k==4)=false)(Rc:(k==5)=false)(wG:(k==6)=false)
 (hv:In w (.mk k n b l f) c) (hv':In w (.mk k n' b' l' f') c') (hl:∀x∈l,∀y∈l',CC x y) (hf:∀x∈f,∀y∈f',CC x.2 y.2) :
 Calls prog 50 #[c.agg,c'.agg] w fun e w'=>e=.returned (.int .i64 (dM (V.cmpL l l') (dM (V.l_ f f') (dM (sg (l.length:Int) (l'.length:Int)) (sg (f.length:Int) (f'.length:Int))))))∧Grow w w':=by
 obtain⟨aB,aL,aF,cB,cL,cF,rfl,h1,h2,h3,h4,h5,h6,h7,h8,h9,hb⟩:=hv.open;obtain⟨qC,tQ,tR,qD,tS,tT,rfl,h1',h2',h3',h4',qE,h6',Kz,xk,KA,hb'⟩:=hv'.open;have HV:=aa hv;have yV:=aa hv';have Hl:=aa hl;have Hf:=aa hf;have HA:=aa (fun w=>yz k w);have HC:=aa (fun w=>CA (cls k) (cls k) w);rw[jV rfl] at HC;obtain⟨M,hM⟩:∃M,min l.length l'.length=M:=⟨_,rfl⟩;have hMi:min (l.length:Int) (l'.length:Int)=(M:Int):=by omega
 obtain⟨M2,hM2⟩:∃M,min f.length f'.length=M:=⟨_,rfl⟩;have amK:min (f.length:Int) (f'.length:Int)=(M2:Int):=by omega
 have hMa:M≤l.length:=by omega
 have Qb:M≤l'.length:=by omega
 have hMc:M2≤f.length:=by omega
 have hMd:M2≤f'.length:=by omega
 have HM:=aa hM;have lV:=aa hM2;clear hv hv' hb hb' h1 h2 h3 h4 h5 h6 h8 h1' h2' h3' h4' qE h6' xk hl hf hM hM2;go_enter func50,ntmps50;go_wp2_with fail;go_quiet ((first | (go_at_call 93;exact Calls.quiet_of_same ((HA.o _).mono fun e w' h=>⟨h.1,h.2.symm⟩)) | (go_at_call 92;exact Calls.quiet_of_same ((HC.o _).mono fun e w' h=>⟨h.1,h.2.symm⟩))));go_wp2_with fail;go_loopg [50] (M+1) (fun gk i wr=>∃j:Nat,j≤M∧gk+j=M+1∧i=.int .i64 j∧(∀i (h1:i<l.length) (h2:i<l'.length),i<j→V.cmp l[i] l'[i]=0)∧Grow w wr ∧
  Blk wr w.heap.size 27 (Cv.cells ⟨k,(n:Int),aB,b.length,cB,aL,l.length,cL,aF,f.length,cF⟩)∧Blk wr (w.heap.size+1) 27 (Cv.cells ⟨k,(n':Int),qC,b'.length,qD,tQ,l'.length,tS,tR,f'.length,tT⟩))
 exact⟨0,by omega,by omega,rfl,fun i _ _ h=>absurd h (by omega),(((ah w).alloc _).alloc _).drewN _,((aD _ _ _).alloc _).drewN _,(cX (by simp) _ _).drewN _⟩;obtain⟨j,hj,hg,rfl,heq,hw,hB,hB'⟩:=hrel;obtain⟨gk',rfl⟩:=bS gk (by omega);have hc3:=hB.cell;have AO:=hB'.cell;have HW:=aa hw;have gY:=aa heq;have HB:=aa hB;have jH:=aa hB';by_cases hlt:j<M
 ·have iO:j<l.length:=by omega
  have hlt':j<l'.length:=by omega
  obtain⟨bk,o,x,ha,hbk,e0,e1,e2,e3,e4,hx⟩:=(HV.o.grow hw).fO j iO;obtain⟨tU,o',x',ha',vN,Dc,FT,e2',e3',FU,hx'⟩:=(yV.o.grow hw).fO j hlt';dsimp only at ha ha';subst ha ha';have HX:=aa hx;have qF:=aa hx';have vO:=aa (Hl.o _ (aW iO) _ (aW hlt'));clear hw hx hx' hB hB' heq;have hz0:w.heap.size<wr.heap.size:=HB.o.lt;have hz1:w.heap.size+1<wr.heap.size:=jH.o.lt;obtain⟨z,hz⟩:∃z,V.cmp l[j] l'[j]=z:=⟨_,rfl⟩;have HJ:=aa (fun w2 (hgr:Grow wr w2)=>vO.o w2 x x' (HX.o.grow hgr) (qF.o.grow hgr));rw[hz] at HJ;have HZ:=aa hz;clear hz;by_cases he:z=0
  ·subst he;go_wp2_with fail;go_region_held3 (fun w'=>∀b o,b<wr.heap.size→w'.cell? ⟨b,o,none⟩=wr.cell? ⟨b,o,none⟩) (first | exact fun _ _ _=>rfl | exact fun b o h=>hgr.below.cell (p:=⟨b,o,none⟩) h)
    (first | (go_at_call 50;refine(HJ.o _ (ah wr).drew).mono ?_;rintro e w2 ⟨rfl,hb2⟩;have hgr:Grow wr w2:=(ah wr).drew.trans hb2))
   have aH:=aa hgr;clear hgr hb2;go_wp2_with fail;go_roundg gk';refine⟨j+1,by omega,by omega,by go_num,fun i h1 h2 h3=>?_,HW.o.trans aH.o,HB.o.grow aH.o,jH.o.grow aH.o⟩;rcases fh i j with h | h
   ·exact gY.o i h1 h2 h
   obtain rfl:i=j:=by omega
   exact HZ.o;omega
  have E7:(z != 0)=true:=by simpa using he
  have HE:=aa he;have HR:=aa (V.aa3 iO hlt' gY.o (by rw[HZ.o];exact he));clear he;go_wp2_with fail;go_region_held3 (fun w'=>∀b o,b<wr.heap.size→w'.cell? ⟨b,o,none⟩=wr.cell? ⟨b,o,none⟩) (first | exact fun _ _ _=>rfl | exact fun b o h=>hgr.below.cell (p:=⟨b,o,none⟩) h)
   (first | (go_at_call 50;refine(HJ.o _ (ah wr).drew).mono ?_;rintro e w2 ⟨rfl,hb2⟩;have hgr:Grow wr w2:=(ah wr).drew.trans hb2))
  have aH:=aa hgr;clear hgr hb2;go_wp2_with fail;go_ret;refine⟨cA ?_,HW.o.trans aH.o⟩;rw[HR.o,HZ.o,nu _ HE.o]
 obtain rfl:j=M:=by omega
 have z_:=aa (show V.cmpL l l'=0 from V.aa4 (fun i h1 h2=>gY.o i h1 h2 (by have:=HM.o;omega)));clear hw hB hB' heq gY hlt hg;go_wp2_with fail;have Nt:=aa HW.o;go_loopg [75] (M2+1) (fun gk i wr=>∃j:Nat,j≤M2∧gk+j=M2+1∧i=.int .i64 j∧(∀i (h1:i<f.length) (h2:i<f'.length),i<j→V.rB f[i] f'[i]=0)∧Grow w wr ∧
  Blk wr w.heap.size 27 (Cv.cells ⟨k,(n:Int),aB,b.length,cB,aL,l.length,cL,aF,f.length,cF⟩)∧Blk wr (w.heap.size+1) 27 (Cv.cells ⟨k,(n':Int),qC,b'.length,qD,tQ,l'.length,tS,tR,f'.length,tT⟩))
 exact⟨0,by omega,by omega,rfl,fun i _ _ h=>absurd h (by omega),HW.o,HB.o,jH.o⟩;obtain⟨j,hj,hg,rfl,heq,hw,hB,hB'⟩:=hrel;obtain⟨gk',rfl⟩:=bS gk (by omega);clear hc3 AO HW Nt HB jH;have hc3:=hB.cell;have AO:=hB'.cell;have HW:=aa hw;have gY:=aa heq;have HB:=aa hB;have jH:=aa hB';have hz0:w.heap.size<wr.heap.size:=HB.o.lt;have hz1:w.heap.size+1<wr.heap.size:=jH.o.lt;by_cases hlt:j<M2
 ·have iO:j<f.length:=by omega
  have hlt':j<f'.length:=by omega
  obtain⟨bk,o,x,ha,hbk,es,im,e0,e1,e2,e3,e4,hx⟩:=(HV.o.grow hw).iF j iO;obtain⟨tU,o',x',ha',vN,es',Dd,Dc,FT,e2',e3',FU,hx'⟩:=(yV.o.grow hw).iF j hlt';dsimp only at ha ha';subst ha ha';have HX:=aa hx;have qF:=aa hx';have vO:=aa (Hf.o _ (aW iO) _ (aW hlt'));clear hw hx hx' hB hB' heq;have HP:=aa (show V.rB f[j] f'[j]=dM (Lib.compareBytes f[j].1.data.toList f'[j].1.data.toList) (V.cmp f[j].2 f'[j].2) from rfl);have HS:=aa (fun w2=>Pn f[j].1 f'[j].1 w2);obtain⟨s1,hs1⟩:∃s,f[j].1=s:=⟨_,rfl⟩;obtain⟨s2,hs2⟩:∃s,f'[j].1=s:=⟨_,rfl⟩;obtain⟨z2,hz2⟩:∃z,V.cmp f[j].2 f'[j].2=z:=⟨_,rfl⟩;have HJ:=aa (fun w2 (hgr:Grow wr w2)=>vO.o w2 x x' (HX.o.grow hgr) (qF.o.grow hgr));rw[hz2] at HJ HP;rw[hs1,hs2] at HS HP;rw[hs1] at es;rw[hs2] at es'
  obtain⟨z1,yA⟩:∃z,Lib.compareBytes s1.data.toList s2.data.toList=z:=⟨_,rfl⟩;rw[yA] at HS HP;obtain⟨z,hzz⟩:∃z,dM z1 z2=z:=⟨_,rfl⟩;have HO:=aa (fun g cap t w2 hB=>aa1 z1 z2 g cap t w2 hB);rw[hzz] at HO HP;clear hs1 hs2 hz2 yA hzz;by_cases he:z=0
  ·subst he;go_wp2_with fail;go_region_held3 (fun w'=>∀b o,b<wr.heap.size→w'.cell? ⟨b,o,none⟩=wr.cell? ⟨b,o,none⟩) (first | exact fun _ _ _=>rfl | exact fun b o h=>hgr.below.cell (p:=⟨b,o,none⟩) h | exact fun b o h=>(hgr.alloc _).below.cell (p:=⟨b,o,none⟩) h | exact fun b o h=>((hgr.alloc _).drew).below.cell (p:=⟨b,o,none⟩) h)
    (first | (go_at_call 50;refine(HJ.o _ (ah wr).drew).mono ?_;rintro e w2 ⟨rfl,hb2⟩;have hgr:Grow wr w2:=(ah wr).drew.trans hb2) | (go_at_call 97;refine(HS.o _).mono ?_;rintro e w2 ⟨rfl,rfl⟩) | (go_at_call 96;refine(HO.o _ _ _ _ (aD _ _ _)).mono ?_;rintro e w2 ⟨rfl,rfl⟩))
   all_goals
    have aH:=aa (hgr.alloc (.cells #[.int .i64 z1,.int .i64 z2] 3))
    clear hgr hb2
    go_wp2_with fail
    go_roundg gk'
    refine⟨j+1,by omega,by omega,by go_num,fun i h1 h2 h3=>?_,HW.o.trans aH.o,HB.o.grow aH.o,jH.o.grow aH.o⟩
    rcases fh i j with h | h
    ·exact gY.o i h1 h2 h
    obtain rfl:i=j:=by omega
    exact HP.o
    omega
  have E7:(z != 0)=true:=by simpa using he
  have HE:=aa he;have HR:=aa (V.TI iO hlt' gY.o (by rw[HP.o];exact he));clear he;go_wp2_with fail;go_region_held3 (fun w'=>∀b o,b<wr.heap.size→w'.cell? ⟨b,o,none⟩=wr.cell? ⟨b,o,none⟩) (first | exact fun _ _ _=>rfl | exact fun b o h=>hgr.below.cell (p:=⟨b,o,none⟩) h | exact fun b o h=>(hgr.alloc _).below.cell (p:=⟨b,o,none⟩) h | exact fun b o h=>((hgr.alloc _).drew).below.cell (p:=⟨b,o,none⟩) h)
   (first | (go_at_call 50;refine(HJ.o _ (ah wr).drew).mono ?_;rintro e w2 ⟨rfl,hb2⟩;have hgr:Grow wr w2:=(ah wr).drew.trans hb2) | (go_at_call 97;refine(HS.o _).mono ?_;rintro e w2 ⟨rfl,rfl⟩) | (go_at_call 96;refine(HO.o _ _ _ _ (aD _ _ _)).mono ?_;rintro e w2 ⟨rfl,rfl⟩))
  all_goals
   have aH:=aa (hgr.alloc (.cells #[.int .i64 z1,.int .i64 z2] 3))
   clear hgr hb2
   go_wp2_with fail
   go_ret
   refine⟨cA ?_,HW.o.trans aH.o⟩
   rw[z_.o,iR,HR.o,HP.o,nu _ HE.o]
 obtain rfl:j=M2:=by omega
 have TK:=aa (show V.l_ f f'=0 from V.aa5 (fun i h1 h2=>gY.o i h1 h2 (by have:=lV.o;omega)));clear hw hB hB' heq gY hlt hg;have gZ:=aa (fun w=>CA (l.length:Int) (l'.length:Int) w);have mG:=aa (fun w=>CA (f.length:Int) (f'.length:Int) w);obtain⟨z1,yA⟩:∃z,sg (l.length:Int) (l'.length:Int)=z:=⟨_,rfl⟩;obtain⟨z2,JK⟩:∃z,sg (f.length:Int) (f'.length:Int)=z:=⟨_,rfl⟩;rw[yA] at gZ;rw[JK] at mG;have MZ:=aa yA;have RT:=aa JK;have HO:=aa (fun g cap t w2 hB=>aa1 z1 z2 g cap t w2 hB);clear yA JK;go_wp2_with fail
 go_region_held3 (fun w'=>∀b o,b<wr.heap.size→w'.cell? ⟨b,o,none⟩=wr.cell? ⟨b,o,none⟩) (first | exact fun _ _ _=>rfl | exact fun b o h=>((ah wr).alloc _).below.cell (p:=⟨b,o,none⟩) h | exact fun b o h=>(((ah wr).alloc _).drew).below.cell (p:=⟨b,o,none⟩) h)
  (first | (go_at_call 92;(with_reducible refine(gZ.o _).mono ?_);rintro e w2 ⟨rfl,rfl⟩) | (go_at_call 92;(with_reducible refine(mG.o _).mono ?_);rintro e w2 ⟨rfl,rfl⟩) | (go_at_call 96;refine(HO.o _ _ _ _ (Blk.drew (aD _ _ _))).mono ?_;rintro e w2 ⟨rfl,rfl⟩) | (go_at_call 96;refine(HO.o _ _ _ _ (aD _ _ _)).mono ?_;rintro e w2 ⟨rfl,rfl⟩))
 all_goals
  have aH:=aa (((ah wr).alloc (.cells #[.int .i64 z1,.int .i64 z2] 3)).drew)
  go_wp2_with fail
  go_ret
  refine⟨cA ?_,HW.o.trans aH.o⟩
  rw[z_.o,TK.o,iR,iR,MZ.o,RT.o]
theorem ajC(k k':Int)(n n':Nat)(hk:k=3∨k=4)(hk':k'=3∨k'=4):CC (.mk k n [] [] []) (.mk k' n' [] [] []):=by
 intro w c c' hx hy;rw[V.Sh hk hk'];have HN:=aa (fun w2 (hg:Grow w w2)=>ajx k k' n n' c c' w2 hk hk' (hx.grow hg) (hy.grow hg));obtain⟨aB,aL,aF,cB,cL,cF,rfl,-⟩:=hx.open;obtain⟨bB,bL,bF,dB,dL,dF,rfl,-⟩:=hy.open;have HG:=aa (((ah w).alloc (.cells (Cv.mk k n aB 0 cB aL 0 cL aF 0 cF).cells 27)).alloc (.cells (Cv.mk k' n' bB 0 dB bL 0 dL bF 0 dF).cells 27));have HA:=aa (fun w=>yz k w);have kB:=aa (fun w=>yz k' w);have HC:=aa (fun w=>CA 3 3 w);rw[jV rfl] at HC;rw[show cls k=3 by rcases hk with rfl | rfl<;>rfl] at HA;rw[show cls k'=3 by rcases hk' with rfl | rfl<;>rfl] at kB;have hk2:(k==2)=false:=by rcases hk with rfl | rfl<;>rfl
 clear hx hy;rcases hk with rfl | rfl
 all_goals
  go_enter func50,ntmps50
  go_wp2_with fail
  go_quiet ((first | (go_at_call 93;exact Calls.quiet_of_same ((HA.o _).mono fun e w' h=>⟨h.1,h.2.symm⟩)) | (go_at_call 93;exact Calls.quiet_of_same ((kB.o _).mono fun e w' h=>⟨h.1,h.2.symm⟩)) | (go_at_call 92;exact Calls.quiet_of_same ((HC.o _).mono fun e w' h=>⟨h.1,h.2.symm⟩))))
  go_wp2_with fail
  refine(HN.o _ (HG.o.drewN _)).mono ?_
  rintro e w2 ⟨rfl,hg⟩
  have HG2:=aa ((HG.o.drewN _).trans hg)
  clear hg
  go_wp2_with fail
  go_ret
  exact⟨rfl,HG2.o⟩
theorem ajD(n n':Nat):CC (.mk 2 n [] [] []) (.mk 2 n' [] [] []):=by
 intro w c c' hx hy;have HE:=aa (show sg n n'=V.cmp (.mk 2 n [] [] []) (.mk 2 n' [] [] []) by rw[tu];rfl);rw[← HE.o];obtain⟨aB,aL,aF,cB,cL,cF,rfl,-⟩:=hx.open;obtain⟨bB,bL,bF,dB,dL,dF,rfl,-⟩:=hy.open;have HG:=aa (((ah w).alloc (.cells (Cv.mk 2 n aB 0 cB aL 0 cL aF 0 cF).cells 27)).alloc (.cells (Cv.mk 2 n' bB 0 dB bL 0 dL bF 0 dF).cells 27));have HA:=aa (fun w=>yz 2 w);have kB:=aa (fun w=>yz 2 w);have HC:=aa (fun w=>CA 2 2 w);rw[jV rfl] at HC;rw[show cls 2=2 from rfl] at HA kB;have HN:=aa (fun w=>TA n n' w);clear hx hy;go_enter func50,ntmps50;go_wp2_with fail
 go_quiet ((first | (go_at_call 93;exact Calls.quiet_of_same ((HA.o _).mono fun e w' h=>⟨h.1,h.2.symm⟩)) | (go_at_call 93;exact Calls.quiet_of_same ((kB.o _).mono fun e w' h=>⟨h.1,h.2.symm⟩)) | (go_at_call 92;exact Calls.quiet_of_same ((HC.o _).mono fun e w' h=>⟨h.1,h.2.symm⟩))));go_wp2_with (go_at_call 94;refine(HN.o _).mono ?_;rintro e w2 ⟨rfl,rfl⟩);go_ret;exact⟨rfl,HG.o.drewN _⟩
theorem ajE(k:Int)(b b':List UInt8)(hk:k=5∨k=6):CC (.mk k 0 b [] []) (.mk k 0 b' [] []):=by
 intro w c c' hx hy;have HE:=aa (show Lib.compareBytes b b'=V.cmp (.mk k 0 b [] []) (.mk k 0 b' [] []) by rw[tu,ai (by simp),ai (by omega),ai (by omega),aw hk]);rw[← HE.o];obtain⟨aB,aL,aF,cB,cL,cF,rfl,-,-,-,-,-,-,-,-,-,hb⟩:=hx.open;obtain⟨bB,bL,bF,dB,dL,dF,rfl,-,-,-,-,-,-,-,-,-,hb'⟩:=hy.open;have HG:=aa (((ah w).alloc (.cells (Cv.mk k 0 aB b.length cB aL 0 cL aF 0 cF).cells 27)).alloc (.cells (Cv.mk k 0 bB b'.length dB bL 0 dL bF 0 dF).cells 27));have HA:=aa (fun w=>yz k w);have kB:=aa (fun w=>yz k w);have HC:=aa (fun w=>CA k k w);rw[jV rfl] at HC;rw[show cls k=k by rcases hk with rfl | rfl<;>rfl] at HA kB;have HN:=aa (fun w2 (hg:Grow w w2)=>Vg b b' aB bB cB dB w2 (hb.grow hg) (hb'.grow hg))
 have hk2:(k==2)=false:=by rcases hk with rfl | rfl<;>rfl
 have hk3:(k==3)=false:=by rcases hk with rfl | rfl<;>rfl
 have hk4:(k==4)=false:=by rcases hk with rfl | rfl<;>rfl
 clear hx hy hb hb';rcases hk with rfl | rfl
 all_goals
  go_enter func50,ntmps50
  go_wp2_with fail
  go_quiet ((first | (go_at_call 93;exact Calls.quiet_of_same ((HA.o _).mono fun e w' h=>⟨h.1,h.2.symm⟩)) | (go_at_call 93;exact Calls.quiet_of_same ((kB.o _).mono fun e w' h=>⟨h.1,h.2.symm⟩)) | (go_at_call 92;exact Calls.quiet_of_same ((HC.o _).mono fun e w' h=>⟨h.1,h.2.symm⟩))))
  go_wp2_with (go_at_call 54;refine(HN.o _ (HG.o.drewN _)).mono ?_;rintro e w2 ⟨rfl,rfl⟩)
  go_ret
  exact⟨rfl,HG.o.drewN _⟩
theorem ajF(x:V):∀y:V,x.formed=true→y.formed=true→CC x y:=by
 induction x using V.ind with
 | h k n b l f hl hf =>
  intro y hx hy;obtain⟨k',n',b',l',f'⟩:=y;by_cases hcl:cls k≠cls k'
  ·exact ajB _ _ hcl
  have hcl:cls k=cls k':=tH hcl;rcases rU hx with h | ⟨m,hm,h⟩ | ⟨m,h⟩ | ⟨m,h⟩ | ⟨m,hm,h⟩ | ⟨m,h⟩ | ⟨m,hm,h⟩ | ⟨m,hm,hnd,h⟩<;>cases h <;>
  rcases rU hy with h | ⟨m',hm',h⟩ | ⟨m',h⟩ | ⟨m',h⟩ | ⟨m',hm',h⟩ | ⟨m',h⟩ | ⟨m',hm',h⟩ | ⟨m',hm',hnd',h⟩<;>cases h <;>
  first
  | exact absurd hcl (by decide)
  | exact ajC _ _ _ _ (by decide) (by decide)
  | exact ajD _ _
  | exact ajE _ _ _ (by decide)
  | skip
  ·intro w c c' h h';refine(TJ 1 0 0 [] [] [] [] [] [] c c' w rfl rfl rfl rfl rfl h h' (fun _ hx=>by simp at hx) (fun _ hx=>by simp at hx)).mono ?_;rintro e w' ⟨rfl,hg⟩;exact⟨cA (by rw[tu];rfl),hg⟩
  ·intro w c c' h h';refine(TJ 7 0 0 [] [] l l' [] [] c c' w rfl rfl rfl rfl rfl h h' (fun x hx y hy=>hl x hx y (hm x hx) (hm' y hy)) (fun _ hx=>by simp at hx)).mono ?_;rintro e w' ⟨rfl,hg⟩;refine⟨cA ?_,hg⟩;rw[tu,ai (by simp),ai (by decide),ai (by decide),ai (by decide)];have e0:V.l_ [] []=0:=rfl;have e1:sg (([]:List (ByteArray×V)).length:Int) (([]:List (ByteArray×V)).length:Int)=0:=rfl;rw[e0,e1,Ns];simp only[bz,gf,iR];unfold dM;repeat' split
   all_goals first | rfl | contradiction | omega
  intro w c c' h h';refine(TJ 8 0 0 [] [] [] [] f f' c c' w rfl rfl rfl rfl rfl h h' (fun _ hx=>by simp at hx) (fun x hx y hy=>hf x hx y.2 (hm x hx).2 (hm' y hy).2)).mono ?_;rintro e w' ⟨rfl,hg⟩;refine⟨cA ?_,hg⟩;rw[tu,ai (by simp),ai (by decide),ai (by decide),ai (by decide)];have e0:V.cmpL [] []=0:=rfl;have e1:sg (([]:List V).length:Int) (([]:List V).length:Int)=0:=rfl;rw[e0,e1,Ns];simp only[bz,dY,iR]
end
section
open Go.RowKit Go.Shelf
theorem aa6(i:Int)(f:Nat)(hf:Num f)(h1:-9223372036854775808≤i)(h2:i≤9223372036854775807)(w:World):Calls prog 193 #[.int .i64 i,.float .f64 f] w fun e w'=>e=.returned (.int .i64 (lA i f))∧w=w':=by
 have hw:=ways i f hf h1 h2;have hb:=hf.bits;obtain⟨r,hr⟩:∃r,lA i f=r:=⟨_,rfl⟩;rw[hr] at hw ⊢;clear hr hf
 cases hw with
 | high h =>
  rcases h with h | h
  all_goals
   go_enter func193,ntmps193
   go_wp2_with fail
   go_ret
   exact⟨rfl,rfl⟩
 | low h1 h2 =>
  go_enter func193,ntmps193;go_wp2_with fail;go_ret;exact⟨rfl,rfl⟩
 | mid _ k fin h1 h2 hk h3 =>
  have hv:=I7 (mQ f) k hk;have oa:=aa (fun w=>aaZ f hb fin w);clear hk fin;obtain⟨F,hF⟩:∃F,mQ f=F:=⟨_,rfl⟩;rw[hF] at hv h3 oa;clear hF hb;rcases h2 with h2 | h2<;>rcases h3 with ⟨h3,rfl⟩ | ⟨h3,rfl⟩ | ⟨rfl,⟨h3,h4,rfl⟩ | ⟨h3,h4,rfl⟩⟩
  all_goals
   go_enter func193,ntmps193
   first
   | have hs:(i==k)=false:=by simp;omega
   | have hs:(i==i)=true:=by simp
   first
   | have hs2:¬ i<k:=by omega
   | have hs2:True:=trivial
   go_wp2_with (go_at_call 182;refine(oa.o _).mono ?_;rintro e w' ⟨rfl,rfl⟩)
   go_ret
   exact⟨rfl,rfl⟩
theorem ajG(n:Nat)(hn:n<18446744073709551616):dt n=(decide (n / 4503599627370496 % 2048=2047)&&decide (n % 4503599627370496≠0)):=by
 rw[Sa hn,← Bool.decide_and];exact decide_eq_decide.2 (by omega)
theorem Af(k:Int)(n:Nat)(c:Cv)(w:World)(hk:k=3∨k=4)(h0:c.k=k)(h1:c.n=(n:Int))(h3:n<18446744073709551616) :
 Calls prog 192 #[c.agg] w fun e w'=>e=.returned (.bool (decide (k=4)&&dt n))∧Grow w w':=by
 obtain⟨ck,cn,aB,nB,cB,aL,nL,cL,aF,nF,cF⟩:=c;dsimp only at h0 h1;replace h0:=h0.symm;subst h0 h1;have HG:=aa ((ah w).alloc (.cells (Cv.mk k n aB nB cB aL nL cL aF nF cF).cells 27));rcases hk with rfl | rfl
 ·go_enter func192,ntmps192;go_wp2_with fail;go_ret;exact⟨rfl,HG.o⟩
 have hx1:bits .and .u64 ((n:Int) / 4503599627370496) 2047=((n / 4503599627370496 % 2048:Nat):Int):=by
  have h:=u64_and_nat (n / 4503599627370496) 2047 (by omega) (by decide);rw[show (n / 4503599627370496) &&& 2047=n / 4503599627370496 % 2048 from C2 _ 11] at h;rw[← h];rfl
 have hx2:bits .and .u64 (n:Int) 4503599627370495=((n % 4503599627370496:Nat):Int):=by
  have h:=u64_and_nat n 4503599627370495 h3 (by decide);rw[show n &&& 4503599627370495=n % 4503599627370496 from C2 _ 52] at h;exact h
 have hnb:=ajG n h3;obtain⟨E,hE⟩:∃E,n / 4503599627370496 % 2048=E:=⟨_,rfl⟩;obtain⟨M,hM⟩:∃M,n % 4503599627370496=M:=⟨_,rfl⟩;rw[hE] at hx1;rw[hM] at hx2;rw[hE,hM] at hnb;have kO:=aa hnb;clear hE hM hnb;by_cases e1:E=2047
 ·subst e1;by_cases e2:M=0
  ·subst e2;go_enter func192,ntmps192;go_wp2_with fail;go_ret;exact⟨by rw[kO.o];rfl,HG.o⟩
  have Qb:((M:Int) != 0)=true:=by simpa using e2
  go_enter func192,ntmps192;go_wp2_with fail;go_ret;exact⟨by rw[kO.o];simp[e2],HG.o⟩
 have hEb:((E:Int)==2047)=false:=by simp;omega
 go_enter func192,ntmps192;go_wp2_with fail;go_ret;exact⟨by rw[kO.o];simp[e1],HG.o⟩
def mh(k:Int)(n:Nat):Int:=if k=3 then 1 else if n=9223372036854775808 then 0 else 2
theorem Ag(k:Int)(n:Nat)(c:Cv)(w:World)(hk:k=3∨k=4)(h0:c.k=k)(h1:c.n=(n:Int))(h3:n<18446744073709551616) :
 Calls prog 194 #[c.agg] w fun e w'=>e=.returned (.int .i64 (mh k n))∧Grow w w':=by
 obtain⟨ck,cn,aB,nB,cB,aL,nL,cL,aF,nF,cF⟩:=c;dsimp only at h0 h1;replace h0:=h0.symm;subst h0 h1;have HG:=aa ((ah w).alloc (.cells (Cv.mk k n aB nB cB aL nL cL aF nF cF).cells 27));rcases hk with rfl | rfl
 ·go_enter func194,ntmps194;go_wp2_with fail;go_ret;exact⟨rfl,HG.o⟩
 by_cases hz:n=9223372036854775808
 ·subst hz;go_enter func194,ntmps194;go_wp2_with fail;go_ret;exact⟨rfl,HG.o⟩
 have E7:((n:Int)==9223372036854775808)=false:=by simp;omega
 have HP:=aa (show mh 4 n=2 by unfold mh;rw[ai (by decide),ai hz]);clear hz;go_enter func194,ntmps194;go_wp2_with fail;go_ret;exact⟨by rw[HP.o];rfl,HG.o⟩
theorem rG(a b:Int)(w:World):Calls prog 159 #[.int .i64 a,.int .i64 b] w fun e w'=>e=.returned (.int .i64 (sg a b))∧w=w':=by
 rcases qw a b with h | h | h
 ·rw[nO h];go_enter func159,ntmps159;go_wp2_with fail;go_ret;exact⟨rfl,rfl⟩
 ·rw[jV h];subst h;go_enter func159,ntmps159;go_wp2_with fail;go_ret;exact⟨rfl,rfl⟩
 rw[oC h];have h2:¬ a<b:=by omega
 go_enter func159,ntmps159;go_wp2_with fail;go_ret;exact⟨rfl,rfl⟩
theorem ajH(n n':Nat)(h1:n<18446744073709551616)(h2:n'<18446744073709551616)(h:sv n=sv n'):sg ((n' / 9223372036854775808:Nat):Int) ((n / 9223372036854775808:Nat):Int)=sg (mh 4 n) (mh 4 n'):=by
 by_cases e:n=n'
 ·subst e;rw[jV rfl,jV rfl]
 rcases ME h1 h2 ((Mv _ _).1 h) e with ⟨rfl,rfl⟩ | ⟨rfl,rfl⟩<;>rfl
theorem ajI(c c':Cv)(n n':Nat)(w:World)(hk:c.k=3)(hn:c.n=(n:Int))(hk':c'.k=3)(hn':c'.n=(n':Int))(h1:n<18446744073709551616)(h2:n'<18446744073709551616) :
 Calls prog 160 #[c.agg,c'.agg] w fun e w'=>e=.returned (.int .i64 (dw 3 n 3 n'))∧Grow w w':=by
 obtain⟨ck,cn,a1,a2,a3,a4,a5,a6,a7,a8,a9⟩:=c;obtain⟨dk,dn,b1,b2,b3,b4,b5,b6,b7,b8,b9⟩:=c';dsimp only at hk hn hk' hn';subst hk hn hk' hn';have hb:=pQ
 have aM:=aa (((ah w).alloc (.cells (Cv.mk 3 n a1 a2 a3 a4 a5 a6 a7 a8 a9).cells 27)).alloc (.cells (Cv.mk 3 n' b1 b2 b3 b4 b5 b6 b7 b8 b9).cells 27));have bg:=aa ((aD w 27 (Cv.mk 3 n a1 a2 a3 a4 a5 a6 a7 a8 a9).cells).alloc (.cells (Cv.mk 3 n' b1 b2 b3 b4 b5 b6 b7 b8 b9).cells 27));have gQ:=aa (cX (w:=w.alloc (.cells (Cv.mk 3 n a1 a2 a3 a4 a5 a6 a7 a8 a9).cells 27)) (g:=w.heap.size+1) (by simp) 27 (Cv.mk 3 n' b1 b2 b3 b4 b5 b6 b7 b8 b9).cells);have HI:=aa (fun w2=>Af 3 n (Cv.mk 3 n a1 a2 a3 a4 a5 a6 a7 a8 a9) w2 (by decide) rfl rfl h1);have HJ:=aa (fun w2=>Af 3 n' (Cv.mk 3 n' b1 b2 b3 b4 b5 b6 b7 b8 b9) w2 (by decide) rfl rfl h2);have HP:=aa (fun w2=>Ag 3 n (Cv.mk 3 n a1 a2 a3 a4 a5 a6 a7 a8 a9) w2 (by decide) rfl rfl h1)
 have HQ:=aa (fun w2=>Ag 3 n' (Cv.mk 3 n' b1 b2 b3 b4 b5 b6 b7 b8 b9) w2 (by decide) rfl rfl h2);rw[show (decide ((3:Int)=4)&&dt n)=false from rfl] at HI;rw[show (decide ((3:Int)=4)&&dt n')=false from rfl] at HJ;have h43:¬ (4:Int)=3:=by decide
 have hcv:=CB n h1;have Qd:=CB n' h2;have hC:dw 3 n 3 n'=sg (i64 n) (i64 n'):=by unfold dw;simp only[iD]
 rw[hC];clear hC h43;rcases qw (i64 n) (i64 n') with h | h | h
 ·rw[nO h];go_enter func160,ntmps160;go_wp2_with fail;refine(HI.o _).mono ?_;rintro e w1 ⟨rfl,hg1⟩;have aO:=aa (aM.o.trans hg1);have aQ:=aa (bg.o.grow hg1);have bQ:=aa (gQ.o.grow hg1);have hc1:=aQ.o.cell;have hd1:=bQ.o.cell;have eU:=aQ.o.lt;have bU:=bQ.o.lt;clear hg1;go_wp2_with fail;refine(HJ.o _).mono ?_;rintro e w2 ⟨rfl,hg2⟩;have HG2:=aa (aO.o.trans hg2);have aG:=aa (aQ.o.grow hg2);have ct:=aa (bQ.o.grow hg2);have hc2:=aG.o.cell;have hd2:=ct.o.cell;have hl2:=aG.o.lt;have hm2:=ct.o.lt;clear hg2;clear hc1 hd1 eU bU;go_wp2_with fail;go_ret;exact⟨cA rfl,HG2.o⟩
 ·rw[jV h];have h0:¬ i64 n<i64 n':=by omega
  have h00:¬ i64 n'<i64 n:=by omega
  clear h;go_enter func160,ntmps160;go_wp2_with fail;refine(HI.o _).mono ?_;rintro e w1 ⟨rfl,hg1⟩;have aO:=aa (aM.o.trans hg1);have aQ:=aa (bg.o.grow hg1);have bQ:=aa (gQ.o.grow hg1);have hc1:=aQ.o.cell;have hd1:=bQ.o.cell;have eU:=aQ.o.lt;have bU:=bQ.o.lt;clear hg1;go_wp2_with fail;refine(HJ.o _).mono ?_;rintro e w2 ⟨rfl,hg2⟩;have HG2:=aa (aO.o.trans hg2);have aG:=aa (aQ.o.grow hg2);have ct:=aa (bQ.o.grow hg2);have hc2:=aG.o.cell;have hd2:=ct.o.cell;have hl2:=aG.o.lt;have hm2:=ct.o.lt;clear hg2;clear hc1 hd1 eU bU;go_wp2_with fail;go_ret;exact⟨cA rfl,HG2.o⟩
 rw[oC h];have h0:¬ i64 n<i64 n':=by omega
 go_enter func160,ntmps160;go_wp2_with fail;refine(HI.o _).mono ?_;rintro e w1 ⟨rfl,hg1⟩;have aO:=aa (aM.o.trans hg1);have aQ:=aa (bg.o.grow hg1);have bQ:=aa (gQ.o.grow hg1);have hc1:=aQ.o.cell;have hd1:=bQ.o.cell;have eU:=aQ.o.lt;have bU:=bQ.o.lt;clear hg1;go_wp2_with fail;refine(HJ.o _).mono ?_;rintro e w2 ⟨rfl,hg2⟩;have HG2:=aa (aO.o.trans hg2);have aG:=aa (aQ.o.grow hg2);have ct:=aa (bQ.o.grow hg2);have hc2:=aG.o.cell;have hd2:=ct.o.cell;have hl2:=aG.o.lt;have hm2:=ct.o.lt;clear hg2;clear hc1 hd1 eU bU;go_wp2_with fail;go_ret;exact⟨cA rfl,HG2.o⟩
theorem ajJ(c c':Cv)(n n':Nat)(w:World)(hk:c.k=3)(hn:c.n=(n:Int))(hk':c'.k=4)(hn':c'.n=(n':Int))(h1:n<18446744073709551616)(h2:n'<18446744073709551616) :
 Calls prog 160 #[c.agg,c'.agg] w fun e w'=>e=.returned (.int .i64 (dw 3 n 4 n'))∧Grow w w':=by
 obtain⟨ck,cn,a1,a2,a3,a4,a5,a6,a7,a8,a9⟩:=c;obtain⟨dk,dn,b1,b2,b3,b4,b5,b6,b7,b8,b9⟩:=c';dsimp only at hk hn hk' hn';subst hk hn hk' hn';have hb:=pQ
 have aM:=aa (((ah w).alloc (.cells (Cv.mk 3 n a1 a2 a3 a4 a5 a6 a7 a8 a9).cells 27)).alloc (.cells (Cv.mk 4 n' b1 b2 b3 b4 b5 b6 b7 b8 b9).cells 27));have bg:=aa ((aD w 27 (Cv.mk 3 n a1 a2 a3 a4 a5 a6 a7 a8 a9).cells).alloc (.cells (Cv.mk 4 n' b1 b2 b3 b4 b5 b6 b7 b8 b9).cells 27));have gQ:=aa (cX (w:=w.alloc (.cells (Cv.mk 3 n a1 a2 a3 a4 a5 a6 a7 a8 a9).cells 27)) (g:=w.heap.size+1) (by simp) 27 (Cv.mk 4 n' b1 b2 b3 b4 b5 b6 b7 b8 b9).cells);have HI:=aa (fun w2=>Af 3 n (Cv.mk 3 n a1 a2 a3 a4 a5 a6 a7 a8 a9) w2 (by decide) rfl rfl h1);have HJ:=aa (fun w2=>Af 4 n' (Cv.mk 4 n' b1 b2 b3 b4 b5 b6 b7 b8 b9) w2 (by decide) rfl rfl h2);have HP:=aa (fun w2=>Ag 3 n (Cv.mk 3 n a1 a2 a3 a4 a5 a6 a7 a8 a9) w2 (by decide) rfl rfl h1)
 have HQ:=aa (fun w2=>Ag 4 n' (Cv.mk 4 n' b1 b2 b3 b4 b5 b6 b7 b8 b9) w2 (by decide) rfl rfl h2);rw[show (decide ((3:Int)=4)&&dt n)=false from rfl] at HI;rw[show (decide ((4:Int)=4)&&dt n')=dt n' from rfl] at HJ;have h43:¬ (4:Int)=3:=by decide
 by_cases hy:dt n'=true
 ·rw[hy] at HJ;rw[show dw 3 n 4 n'=1 by unfold dw;rw[aw rfl,ai h43,aw hy]];go_enter func160,ntmps160;go_wp2_with fail;refine(HI.o _).mono ?_;rintro e w1 ⟨rfl,hg1⟩;have aO:=aa (aM.o.trans hg1);have aQ:=aa (bg.o.grow hg1);have bQ:=aa (gQ.o.grow hg1);have hc1:=aQ.o.cell;have hd1:=bQ.o.cell;have eU:=aQ.o.lt;have bU:=bQ.o.lt;clear hg1;go_wp2_with fail;refine(HJ.o _).mono ?_;rintro e w2 ⟨rfl,hg2⟩;have HG2:=aa (aO.o.trans hg2);have aG:=aa (aQ.o.grow hg2);have ct:=aa (bQ.o.grow hg2);have hc2:=aG.o.cell;have hd2:=ct.o.cell;have hl2:=aG.o.lt;have hm2:=ct.o.lt;clear hg2;clear hc1 hd1 eU bU;go_wp2_with fail;refine(HI.o _).mono ?_;rintro e w3 ⟨rfl,hg3⟩;have aP:=aa (HG2.o.trans hg3);have aV:=aa (aG.o.grow hg3);have jC:=aa (ct.o.grow hg3)
  have hc3:=aV.o.cell;have hd3:=jC.o.cell;have ot:=aV.o.lt;have ve:=jC.o.lt;clear hg3;clear hc2 hd2 hl2 hm2;go_wp2_with fail;refine(HI.o _).mono ?_;rintro e w4 ⟨rfl,hg4⟩;have cj:=aa (aP.o.trans hg4);have av:=aa (aV.o.grow hg4);have vg:=aa (jC.o.grow hg4);have gz:=av.o.cell;have BX:=vg.o.cell;have hl4:=av.o.lt;have TL:=vg.o.lt;clear hg4;clear hc3 hd3 ot ve;go_wp2_with fail;go_ret;exact⟨cA rfl,cj.o⟩
 have hy:dt n'=false:=by simpa using hy
 rw[hy] at HJ;have fx:=Num.of h2 hy;have hcv:=CB n h1;have hr:=AX n h1;have hC:dw 3 n 4 n'=tq (i64 n) n':=by unfold dw;rw[aw rfl,ai h43,ai (by rw[hy];decide)]
 rw[TD] at hC;have HW:=aa (fun w=>aa6 (i64 n) n' fx hr.1 hr.2 w);rcases TE (i64 n) n' with h | h | h
 ·rw[h] at hC HW;rw[hC];clear hC h hr fx h43;go_enter func160,ntmps160;go_wp2_with fail;refine(HI.o _).mono ?_;rintro e w1 ⟨rfl,hg1⟩;have aO:=aa (aM.o.trans hg1);have aQ:=aa (bg.o.grow hg1);have bQ:=aa (gQ.o.grow hg1);have hc1:=aQ.o.cell;have hd1:=bQ.o.cell;have eU:=aQ.o.lt;have bU:=bQ.o.lt;clear hg1;go_wp2_with fail;refine(HJ.o _).mono ?_;rintro e w2 ⟨rfl,hg2⟩;have HG2:=aa (aO.o.trans hg2);have aG:=aa (aQ.o.grow hg2);have ct:=aa (bQ.o.grow hg2);have hc2:=aG.o.cell;have hd2:=ct.o.cell;have hl2:=aG.o.lt;have hm2:=ct.o.lt;clear hg2;clear hc1 hd1 eU bU;go_wp2_with fail;go_quiet ((first | (go_at_call 193;exact Calls.quiet_of_same ((HW.o _).mono fun e w' h=>⟨h.1,h.2.symm⟩))));go_wp2_with fail;go_ret;exact⟨cA (by simp),HG2.o.drewN _⟩
 ·rw[h] at hC HW;rw[hC];clear hC h hr fx h43;have hE:sg (mh 3 n) (mh 4 n')=if (0:Int)≠0 then 0 else if n'=9223372036854775808 then 1 else -1:=by
   have e3:mh 3 n=1:=rfl;by_cases hz:n'=9223372036854775808
   ·have e4:mh 4 n'=0:=by rw[hz];rfl
    rw[e3,e4,ai (by decide),aw hz];rfl
   have e4:mh 4 n'=2:=by unfold mh;rw[ai (by decide),ai hz]
   rw[e3,e4,ai (by decide),ai hz];rfl
  rw[← hE];clear hE;go_enter func160,ntmps160;go_wp2_with fail;refine(HI.o _).mono ?_;rintro e w1 ⟨rfl,hg1⟩;have aO:=aa (aM.o.trans hg1);have aQ:=aa (bg.o.grow hg1);have bQ:=aa (gQ.o.grow hg1);have hc1:=aQ.o.cell;have hd1:=bQ.o.cell;have eU:=aQ.o.lt;have bU:=bQ.o.lt;clear hg1;go_wp2_with fail;refine(HJ.o _).mono ?_;rintro e w2 ⟨rfl,hg2⟩;have HG2:=aa (aO.o.trans hg2);have aG:=aa (aQ.o.grow hg2);have ct:=aa (bQ.o.grow hg2);have hc2:=aG.o.cell;have hd2:=ct.o.cell;have hl2:=aG.o.lt;have hm2:=ct.o.lt;clear hg2;clear hc1 hd1 eU bU;go_wp2_with fail;go_quiet ((first | (go_at_call 193;exact Calls.quiet_of_same ((HW.o _).mono fun e w' h=>⟨h.1,h.2.symm⟩))));go_wp2_with fail
  go_region_held3 (fun w'=>(∀q,w'.cell? ⟨w.heap.size,q,none⟩=(Cv.mk 3 n a1 a2 a3 a4 a5 a6 a7 a8 a9).cells[q]?)∧(∀q,w'.cell? ⟨w.heap.size+1,q,none⟩=(Cv.mk 4 n' b1 b2 b3 b4 b5 b6 b7 b8 b9).cells[q]?)) (first | go_keep | exact⟨lO,qh⟩ | exact⟨ov,hdy⟩)
   (first | ((with_reducible refine(HP.o _).mono ?_);rintro e wx ⟨rfl,hgx⟩;first | (have px:=aa (bJ.o.trans hgx);have jW:=aa (bI.o.grow hgx);have jX:=aa (fN.o.grow hgx);have ov:=jW.o.cell;have hdy:=jX.o.cell;clear hgx) | (have bJ:=aa ((HG2.o.drewN _ |>.drew).trans hgx);have bI:=aa ((aG.o.drewN _ |>.drew).grow hgx);have fN:=aa ((ct.o.drewN _ |>.drew).grow hgx);have lO:=bI.o.cell;have qh:=fN.o.cell;clear hgx)) | ((with_reducible refine(HQ.o _).mono ?_);rintro e wx ⟨rfl,hgx⟩;first | (have px:=aa (bJ.o.trans hgx);have jW:=aa (bI.o.grow hgx);have jX:=aa (fN.o.grow hgx);have ov:=jW.o.cell;have hdy:=jX.o.cell;clear hgx) | (have bJ:=aa ((HG2.o.drewN _ |>.drew).trans hgx);have bI:=aa ((aG.o.drewN _ |>.drew).grow hgx);have fN:=aa ((ct.o.drewN _ |>.drew).grow hgx);have lO:=bI.o.cell;have qh:=fN.o.cell;clear hgx)) | (go_at_call 159;refine(rG _ _ _).mono ?_;rintro e wx ⟨rfl,rfl⟩))
  all_goals
   go_wp2_with fail
   go_ret
   exact⟨rfl,px.o⟩
 rw[h] at hC HW;rw[hC];clear hC h hr fx h43;go_enter func160,ntmps160;go_wp2_with fail;refine(HI.o _).mono ?_;rintro e w1 ⟨rfl,hg1⟩;have aO:=aa (aM.o.trans hg1);have aQ:=aa (bg.o.grow hg1);have bQ:=aa (gQ.o.grow hg1);have hc1:=aQ.o.cell;have hd1:=bQ.o.cell;have eU:=aQ.o.lt;have bU:=bQ.o.lt;clear hg1;go_wp2_with fail;refine(HJ.o _).mono ?_;rintro e w2 ⟨rfl,hg2⟩;have HG2:=aa (aO.o.trans hg2);have aG:=aa (aQ.o.grow hg2);have ct:=aa (bQ.o.grow hg2);have hc2:=aG.o.cell;have hd2:=ct.o.cell;have hl2:=aG.o.lt;have hm2:=ct.o.lt;clear hg2;clear hc1 hd1 eU bU;go_wp2_with fail;go_quiet ((first | (go_at_call 193;exact Calls.quiet_of_same ((HW.o _).mono fun e w' h=>⟨h.1,h.2.symm⟩))));go_wp2_with fail;go_ret;exact⟨cA (by simp),HG2.o.drewN _⟩
theorem ajK(c c':Cv)(n n':Nat)(w:World)(hk:c.k=4)(hn:c.n=(n:Int))(hk':c'.k=3)(hn':c'.n=(n':Int))(h1:n<18446744073709551616)(h2:n'<18446744073709551616) :
 Calls prog 160 #[c.agg,c'.agg] w fun e w'=>e=.returned (.int .i64 (dw 4 n 3 n'))∧Grow w w':=by
 obtain⟨ck,cn,a1,a2,a3,a4,a5,a6,a7,a8,a9⟩:=c;obtain⟨dk,dn,b1,b2,b3,b4,b5,b6,b7,b8,b9⟩:=c';dsimp only at hk hn hk' hn';subst hk hn hk' hn';have hb:=pQ
 have aM:=aa (((ah w).alloc (.cells (Cv.mk 4 n a1 a2 a3 a4 a5 a6 a7 a8 a9).cells 27)).alloc (.cells (Cv.mk 3 n' b1 b2 b3 b4 b5 b6 b7 b8 b9).cells 27));have bg:=aa ((aD w 27 (Cv.mk 4 n a1 a2 a3 a4 a5 a6 a7 a8 a9).cells).alloc (.cells (Cv.mk 3 n' b1 b2 b3 b4 b5 b6 b7 b8 b9).cells 27));have gQ:=aa (cX (w:=w.alloc (.cells (Cv.mk 4 n a1 a2 a3 a4 a5 a6 a7 a8 a9).cells 27)) (g:=w.heap.size+1) (by simp) 27 (Cv.mk 3 n' b1 b2 b3 b4 b5 b6 b7 b8 b9).cells);have HI:=aa (fun w2=>Af 4 n (Cv.mk 4 n a1 a2 a3 a4 a5 a6 a7 a8 a9) w2 (by decide) rfl rfl h1);have HJ:=aa (fun w2=>Af 3 n' (Cv.mk 3 n' b1 b2 b3 b4 b5 b6 b7 b8 b9) w2 (by decide) rfl rfl h2);have HP:=aa (fun w2=>Ag 4 n (Cv.mk 4 n a1 a2 a3 a4 a5 a6 a7 a8 a9) w2 (by decide) rfl rfl h1)
 have HQ:=aa (fun w2=>Ag 3 n' (Cv.mk 3 n' b1 b2 b3 b4 b5 b6 b7 b8 b9) w2 (by decide) rfl rfl h2);rw[show (decide ((3:Int)=4)&&dt n')=false from rfl] at HJ;rw[show (decide ((4:Int)=4)&&dt n)=dt n from rfl] at HI;have h43:¬ (4:Int)=3:=by decide
 by_cases hx:dt n=true
 ·rw[hx] at HI;rw[show dw 4 n 3 n'=-1 by unfold dw;rw[ai h43,aw hx,aw rfl]];go_enter func160,ntmps160;go_wp2_with fail;refine(HI.o _).mono ?_;rintro e w1 ⟨rfl,hg1⟩;have aO:=aa (aM.o.trans hg1);have aQ:=aa (bg.o.grow hg1);have bQ:=aa (gQ.o.grow hg1);have hc1:=aQ.o.cell;have hd1:=bQ.o.cell;have eU:=aQ.o.lt;have bU:=bQ.o.lt;clear hg1;go_wp2_with fail;refine(HI.o _).mono ?_;rintro e w2 ⟨rfl,hg2⟩;have HG2:=aa (aO.o.trans hg2);have aG:=aa (aQ.o.grow hg2);have ct:=aa (bQ.o.grow hg2);have hc2:=aG.o.cell;have hd2:=ct.o.cell;have hl2:=aG.o.lt;have hm2:=ct.o.lt;clear hg2;clear hc1 hd1 eU bU;go_wp2_with fail;refine(HJ.o _).mono ?_;rintro e w3 ⟨rfl,hg3⟩;have aP:=aa (HG2.o.trans hg3);have aV:=aa (aG.o.grow hg3);have jC:=aa (ct.o.grow hg3)
  have hc3:=aV.o.cell;have hd3:=jC.o.cell;have ot:=aV.o.lt;have ve:=jC.o.lt;clear hg3;clear hc2 hd2 hl2 hm2;go_wp2_with fail;refine(HI.o _).mono ?_;rintro e w4 ⟨rfl,hg4⟩;have cj:=aa (aP.o.trans hg4);have av:=aa (aV.o.grow hg4);have vg:=aa (jC.o.grow hg4);have gz:=av.o.cell;have BX:=vg.o.cell;have hl4:=av.o.lt;have TL:=vg.o.lt;clear hg4;clear hc3 hd3 ot ve;go_wp2_with fail;go_ret;exact⟨cA rfl,cj.o⟩
 have hx:dt n=false:=by simpa using hx
 rw[hx] at HI;have fx:=Num.of h1 hx;have hcv:=CB n' h2;have hr:=AX n' h2;have hC:dw 4 n 3 n'=-(tq (i64 n') n):=by unfold dw;rw[ai h43,ai (by rw[hx];decide),aw rfl]
 rw[TD] at hC;have HW:=aa (fun w=>aa6 (i64 n') n fx hr.1 hr.2 w);rcases TE (i64 n') n with h | h | h
 ·rw[h] at hC HW;rw[hC];clear hC h hr fx h43;go_enter func160,ntmps160;go_wp2_with fail;refine(HI.o _).mono ?_;rintro e w1 ⟨rfl,hg1⟩;have aO:=aa (aM.o.trans hg1);have aQ:=aa (bg.o.grow hg1);have bQ:=aa (gQ.o.grow hg1);have hc1:=aQ.o.cell;have hd1:=bQ.o.cell;have eU:=aQ.o.lt;have bU:=bQ.o.lt;clear hg1;go_wp2_with fail;refine(HJ.o _).mono ?_;rintro e w2 ⟨rfl,hg2⟩;have HG2:=aa (aO.o.trans hg2);have aG:=aa (aQ.o.grow hg2);have ct:=aa (bQ.o.grow hg2);have hc2:=aG.o.cell;have hd2:=ct.o.cell;have hl2:=aG.o.lt;have hm2:=ct.o.lt;clear hg2;clear hc1 hd1 eU bU;go_wp2_with fail;go_quiet ((first | (go_at_call 193;exact Calls.quiet_of_same ((HW.o _).mono fun e w' h=>⟨h.1,h.2.symm⟩))));go_wp2_with fail;go_ret;exact⟨cA (by simp),HG2.o.drewN _⟩
 ·rw[h] at hC HW;rw[hC];clear hC h hr fx h43;have hE:sg (mh 4 n) (mh 3 n')=-(if (0:Int)≠0 then 0 else if n=9223372036854775808 then 1 else -1):=by
   have e3:mh 3 n'=1:=rfl;by_cases hz:n=9223372036854775808
   ·have e4:mh 4 n=0:=by rw[hz];rfl
    rw[e3,e4,ai (by decide),aw hz];rfl
   have e4:mh 4 n=2:=by unfold mh;rw[ai (by decide),ai hz]
   rw[e3,e4,ai (by decide),ai hz];rfl
  rw[← hE];clear hE;go_enter func160,ntmps160;go_wp2_with fail;refine(HI.o _).mono ?_;rintro e w1 ⟨rfl,hg1⟩;have aO:=aa (aM.o.trans hg1);have aQ:=aa (bg.o.grow hg1);have bQ:=aa (gQ.o.grow hg1);have hc1:=aQ.o.cell;have hd1:=bQ.o.cell;have eU:=aQ.o.lt;have bU:=bQ.o.lt;clear hg1;go_wp2_with fail;refine(HJ.o _).mono ?_;rintro e w2 ⟨rfl,hg2⟩;have HG2:=aa (aO.o.trans hg2);have aG:=aa (aQ.o.grow hg2);have ct:=aa (bQ.o.grow hg2);have hc2:=aG.o.cell;have hd2:=ct.o.cell;have hl2:=aG.o.lt;have hm2:=ct.o.lt;clear hg2;clear hc1 hd1 eU bU;go_wp2_with fail;go_quiet ((first | (go_at_call 193;exact Calls.quiet_of_same ((HW.o _).mono fun e w' h=>⟨h.1,h.2.symm⟩))));go_wp2_with fail
  go_region_held3 (fun w'=>(∀q,w'.cell? ⟨w.heap.size,q,none⟩=(Cv.mk 4 n a1 a2 a3 a4 a5 a6 a7 a8 a9).cells[q]?)∧(∀q,w'.cell? ⟨w.heap.size+1,q,none⟩=(Cv.mk 3 n' b1 b2 b3 b4 b5 b6 b7 b8 b9).cells[q]?)) (first | go_keep | exact⟨lO,qh⟩ | exact⟨ov,hdy⟩)
   (first | ((with_reducible refine(HP.o _).mono ?_);rintro e wx ⟨rfl,hgx⟩;first | (have px:=aa (bJ.o.trans hgx);have jW:=aa (bI.o.grow hgx);have jX:=aa (fN.o.grow hgx);have ov:=jW.o.cell;have hdy:=jX.o.cell;clear hgx) | (have bJ:=aa ((HG2.o.drewN _ |>.drew).trans hgx);have bI:=aa ((aG.o.drewN _ |>.drew).grow hgx);have fN:=aa ((ct.o.drewN _ |>.drew).grow hgx);have lO:=bI.o.cell;have qh:=fN.o.cell;clear hgx)) | ((with_reducible refine(HQ.o _).mono ?_);rintro e wx ⟨rfl,hgx⟩;first | (have px:=aa (bJ.o.trans hgx);have jW:=aa (bI.o.grow hgx);have jX:=aa (fN.o.grow hgx);have ov:=jW.o.cell;have hdy:=jX.o.cell;clear hgx) | (have bJ:=aa ((HG2.o.drewN _ |>.drew).trans hgx);have bI:=aa ((aG.o.drewN _ |>.drew).grow hgx);have fN:=aa ((ct.o.drewN _ |>.drew).grow hgx);have lO:=bI.o.cell;have qh:=fN.o.cell;clear hgx)) | (go_at_call 159;refine(rG _ _ _).mono ?_;rintro e wx ⟨rfl,rfl⟩))
  all_goals
   go_wp2_with fail
   go_ret
   exact⟨rfl,px.o⟩
 rw[h] at hC HW;rw[hC];clear hC h hr fx h43;go_enter func160,ntmps160;go_wp2_with fail;refine(HI.o _).mono ?_;rintro e w1 ⟨rfl,hg1⟩;have aO:=aa (aM.o.trans hg1);have aQ:=aa (bg.o.grow hg1);have bQ:=aa (gQ.o.grow hg1);have hc1:=aQ.o.cell;have hd1:=bQ.o.cell;have eU:=aQ.o.lt;have bU:=bQ.o.lt;clear hg1;go_wp2_with fail;refine(HJ.o _).mono ?_;rintro e w2 ⟨rfl,hg2⟩;have HG2:=aa (aO.o.trans hg2);have aG:=aa (aQ.o.grow hg2);have ct:=aa (bQ.o.grow hg2);have hc2:=aG.o.cell;have hd2:=ct.o.cell;have hl2:=aG.o.lt;have hm2:=ct.o.lt;clear hg2;clear hc1 hd1 eU bU;go_wp2_with fail;go_quiet ((first | (go_at_call 193;exact Calls.quiet_of_same ((HW.o _).mono fun e w' h=>⟨h.1,h.2.symm⟩))));go_wp2_with fail;go_ret;exact⟨cA (by simp),HG2.o.drewN _⟩
theorem ajL(c c':Cv)(n n':Nat)(w:World)(hk:c.k=4)(hn:c.n=(n:Int))(hk':c'.k=4)(hn':c'.n=(n':Int))(h1:n<18446744073709551616)(h2:n'<18446744073709551616) :
 Calls prog 160 #[c.agg,c'.agg] w fun e w'=>e=.returned (.int .i64 (dw 4 n 4 n'))∧Grow w w':=by
 obtain⟨ck,cn,a1,a2,a3,a4,a5,a6,a7,a8,a9⟩:=c;obtain⟨dk,dn,b1,b2,b3,b4,b5,b6,b7,b8,b9⟩:=c';dsimp only at hk hn hk' hn';subst hk hn hk' hn';have hb:=pQ
 have aM:=aa (((ah w).alloc (.cells (Cv.mk 4 n a1 a2 a3 a4 a5 a6 a7 a8 a9).cells 27)).alloc (.cells (Cv.mk 4 n' b1 b2 b3 b4 b5 b6 b7 b8 b9).cells 27));have bg:=aa ((aD w 27 (Cv.mk 4 n a1 a2 a3 a4 a5 a6 a7 a8 a9).cells).alloc (.cells (Cv.mk 4 n' b1 b2 b3 b4 b5 b6 b7 b8 b9).cells 27));have gQ:=aa (cX (w:=w.alloc (.cells (Cv.mk 4 n a1 a2 a3 a4 a5 a6 a7 a8 a9).cells 27)) (g:=w.heap.size+1) (by simp) 27 (Cv.mk 4 n' b1 b2 b3 b4 b5 b6 b7 b8 b9).cells);have HI:=aa (fun w2=>Af 4 n (Cv.mk 4 n a1 a2 a3 a4 a5 a6 a7 a8 a9) w2 (by decide) rfl rfl h1);have HJ:=aa (fun w2=>Af 4 n' (Cv.mk 4 n' b1 b2 b3 b4 b5 b6 b7 b8 b9) w2 (by decide) rfl rfl h2);have HP:=aa (fun w2=>Ag 4 n (Cv.mk 4 n a1 a2 a3 a4 a5 a6 a7 a8 a9) w2 (by decide) rfl rfl h1)
 have HQ:=aa (fun w2=>Ag 4 n' (Cv.mk 4 n' b1 b2 b3 b4 b5 b6 b7 b8 b9) w2 (by decide) rfl rfl h2);rw[show (decide ((4:Int)=4)&&dt n)=dt n from rfl] at HI;rw[show (decide ((4:Int)=4)&&dt n')=dt n' from rfl] at HJ;have h43:¬ (4:Int)=3:=by decide
 by_cases hx:dt n=true
 ·rw[hx] at HI;by_cases hy:dt n'=true
  ·rw[hy] at HJ;rw[show dw 4 n 4 n'=sg n n' by unfold dw;rw[ai h43,aw hx,ai h43,aw hy]];clear h43;rcases qw (n:Int) (n':Int) with h | h | h
   ·rw[nO h];go_enter func160,ntmps160;go_wp2_with fail;refine(HI.o _).mono ?_;rintro e w1 ⟨rfl,hg1⟩;have aO:=aa (aM.o.trans hg1);have aQ:=aa (bg.o.grow hg1);have bQ:=aa (gQ.o.grow hg1);have hc1:=aQ.o.cell;have hd1:=bQ.o.cell;have eU:=aQ.o.lt;have bU:=bQ.o.lt;clear hg1;go_wp2_with fail;refine(HI.o _).mono ?_;rintro e w2 ⟨rfl,hg2⟩;have HG2:=aa (aO.o.trans hg2);have aG:=aa (aQ.o.grow hg2);have ct:=aa (bQ.o.grow hg2);have hc2:=aG.o.cell;have hd2:=ct.o.cell;have hl2:=aG.o.lt;have hm2:=ct.o.lt;clear hg2;clear hc1 hd1 eU bU;go_wp2_with fail;refine(HJ.o _).mono ?_;rintro e w3 ⟨rfl,hg3⟩;have aP:=aa (HG2.o.trans hg3);have aV:=aa (aG.o.grow hg3);have jC:=aa (ct.o.grow hg3);have hc3:=aV.o.cell;have hd3:=jC.o.cell;have ot:=aV.o.lt
    have ve:=jC.o.lt;clear hg3;clear hc2 hd2 hl2 hm2;go_wp2_with fail;go_ret;exact⟨cA rfl,aP.o⟩
   ·rw[jV h];have h0:¬ (n:Int)<(n':Int):=by omega
    have h00:¬ (n':Int)<(n:Int):=by omega
    clear h;go_enter func160,ntmps160;go_wp2_with fail;refine(HI.o _).mono ?_;rintro e w1 ⟨rfl,hg1⟩;have aO:=aa (aM.o.trans hg1);have aQ:=aa (bg.o.grow hg1);have bQ:=aa (gQ.o.grow hg1);have hc1:=aQ.o.cell;have hd1:=bQ.o.cell;have eU:=aQ.o.lt;have bU:=bQ.o.lt;clear hg1;go_wp2_with fail;refine(HI.o _).mono ?_;rintro e w2 ⟨rfl,hg2⟩;have HG2:=aa (aO.o.trans hg2);have aG:=aa (aQ.o.grow hg2);have ct:=aa (bQ.o.grow hg2);have hc2:=aG.o.cell;have hd2:=ct.o.cell;have hl2:=aG.o.lt;have hm2:=ct.o.lt;clear hg2;clear hc1 hd1 eU bU;go_wp2_with fail;refine(HJ.o _).mono ?_;rintro e w3 ⟨rfl,hg3⟩;have aP:=aa (HG2.o.trans hg3);have aV:=aa (aG.o.grow hg3);have jC:=aa (ct.o.grow hg3);have hc3:=aV.o.cell;have hd3:=jC.o.cell;have ot:=aV.o.lt
    have ve:=jC.o.lt;clear hg3;clear hc2 hd2 hl2 hm2;go_wp2_with fail;go_ret;exact⟨cA rfl,aP.o⟩
   rw[oC h];have h0:¬ (n:Int)<(n':Int):=by omega
   go_enter func160,ntmps160;go_wp2_with fail;refine(HI.o _).mono ?_;rintro e w1 ⟨rfl,hg1⟩;have aO:=aa (aM.o.trans hg1);have aQ:=aa (bg.o.grow hg1);have bQ:=aa (gQ.o.grow hg1);have hc1:=aQ.o.cell;have hd1:=bQ.o.cell;have eU:=aQ.o.lt;have bU:=bQ.o.lt;clear hg1;go_wp2_with fail;refine(HI.o _).mono ?_;rintro e w2 ⟨rfl,hg2⟩;have HG2:=aa (aO.o.trans hg2);have aG:=aa (aQ.o.grow hg2);have ct:=aa (bQ.o.grow hg2);have hc2:=aG.o.cell;have hd2:=ct.o.cell;have hl2:=aG.o.lt;have hm2:=ct.o.lt;clear hg2;clear hc1 hd1 eU bU;go_wp2_with fail;refine(HJ.o _).mono ?_;rintro e w3 ⟨rfl,hg3⟩;have aP:=aa (HG2.o.trans hg3);have aV:=aa (aG.o.grow hg3);have jC:=aa (ct.o.grow hg3);have hc3:=aV.o.cell;have hd3:=jC.o.cell;have ot:=aV.o.lt;have ve:=jC.o.lt
   clear hg3;clear hc2 hd2 hl2 hm2;go_wp2_with fail;go_ret;exact⟨cA rfl,aP.o⟩
  have hy:dt n'=false:=by simpa using hy
  rw[hy] at HJ;rw[show dw 4 n 4 n'=-1 by unfold dw;rw[ai h43,aw hx,ai h43,ai (by rw[hy];decide)]];go_enter func160,ntmps160;go_wp2_with fail;refine(HI.o _).mono ?_;rintro e w1 ⟨rfl,hg1⟩;have aO:=aa (aM.o.trans hg1);have aQ:=aa (bg.o.grow hg1);have bQ:=aa (gQ.o.grow hg1);have hc1:=aQ.o.cell;have hd1:=bQ.o.cell;have eU:=aQ.o.lt;have bU:=bQ.o.lt;clear hg1;go_wp2_with fail;refine(HI.o _).mono ?_;rintro e w2 ⟨rfl,hg2⟩;have HG2:=aa (aO.o.trans hg2);have aG:=aa (aQ.o.grow hg2);have ct:=aa (bQ.o.grow hg2);have hc2:=aG.o.cell;have hd2:=ct.o.cell;have hl2:=aG.o.lt;have hm2:=ct.o.lt;clear hg2;clear hc1 hd1 eU bU;go_wp2_with fail;refine(HJ.o _).mono ?_;rintro e w3 ⟨rfl,hg3⟩;have aP:=aa (HG2.o.trans hg3);have aV:=aa (aG.o.grow hg3)
  have jC:=aa (ct.o.grow hg3);have hc3:=aV.o.cell;have hd3:=jC.o.cell;have ot:=aV.o.lt;have ve:=jC.o.lt;clear hg3;clear hc2 hd2 hl2 hm2;go_wp2_with fail;refine(HI.o _).mono ?_;rintro e w4 ⟨rfl,hg4⟩;have cj:=aa (aP.o.trans hg4);have av:=aa (aV.o.grow hg4);have vg:=aa (jC.o.grow hg4);have gz:=av.o.cell;have BX:=vg.o.cell;have hl4:=av.o.lt;have TL:=vg.o.lt;clear hg4;clear hc3 hd3 ot ve;go_wp2_with fail;go_ret;exact⟨cA rfl,cj.o⟩
 have hx:dt n=false:=by simpa using hx
 rw[hx] at HI;by_cases hy:dt n'=true
 ·rw[hy] at HJ;rw[show dw 4 n 4 n'=1 by unfold dw;rw[ai h43,ai (by rw[hx];decide),ai h43,aw hy]];go_enter func160,ntmps160;go_wp2_with fail;refine(HI.o _).mono ?_;rintro e w1 ⟨rfl,hg1⟩;have aO:=aa (aM.o.trans hg1);have aQ:=aa (bg.o.grow hg1);have bQ:=aa (gQ.o.grow hg1);have hc1:=aQ.o.cell;have hd1:=bQ.o.cell;have eU:=aQ.o.lt;have bU:=bQ.o.lt;clear hg1;go_wp2_with fail;refine(HJ.o _).mono ?_;rintro e w2 ⟨rfl,hg2⟩;have HG2:=aa (aO.o.trans hg2);have aG:=aa (aQ.o.grow hg2);have ct:=aa (bQ.o.grow hg2);have hc2:=aG.o.cell;have hd2:=ct.o.cell;have hl2:=aG.o.lt;have hm2:=ct.o.lt;clear hg2;clear hc1 hd1 eU bU;go_wp2_with fail;refine(HI.o _).mono ?_;rintro e w3 ⟨rfl,hg3⟩;have aP:=aa (HG2.o.trans hg3);have aV:=aa (aG.o.grow hg3)
  have jC:=aa (ct.o.grow hg3);have hc3:=aV.o.cell;have hd3:=jC.o.cell;have ot:=aV.o.lt;have ve:=jC.o.lt;clear hg3;clear hc2 hd2 hl2 hm2;go_wp2_with fail;refine(HI.o _).mono ?_;rintro e w4 ⟨rfl,hg4⟩;have cj:=aa (aP.o.trans hg4);have av:=aa (aV.o.grow hg4);have vg:=aa (jC.o.grow hg4);have gz:=av.o.cell;have BX:=vg.o.cell;have hl4:=av.o.lt;have TL:=vg.o.lt;clear hg4;clear hc3 hd3 ot ve;go_wp2_with fail;go_ret;exact⟨cA rfl,cj.o⟩
 have hy:dt n'=false:=by simpa using hy
 rw[hy] at HJ;have hC:dw 4 n 4 n'=if sv n<sv n' then -1 else if sv n'<sv n then 1 else sg (mh 4 n) (mh 4 n'):=by
  unfold dw;rw[ai h43,ai (by rw[hx];decide),ai h43,ai (by rw[hy];decide)];by_cases q1:sv n<sv n'
  ·rw[aw q1,aw q1]
  rw[ai q1,ai q1];by_cases q2:sv n'<sv n
  ·rw[aw q2,aw q2]
  rw[ai q2,ai q2,ajH n n' h1 h2 (by omega)]
 have fx:=Num.of h1 hx;have fy:=Num.of h2 hy;rw[hC];clear hC h43;rcases qw (sv n) (sv n') with h | h | h
 ·have ho:=fx.lt fy h;rw[aw h];clear h fx fy;go_enter func160,ntmps160;go_wp2_with fail;refine(HI.o _).mono ?_;rintro e w1 ⟨rfl,hg1⟩;have aO:=aa (aM.o.trans hg1);have aQ:=aa (bg.o.grow hg1);have bQ:=aa (gQ.o.grow hg1);have hc1:=aQ.o.cell;have hd1:=bQ.o.cell;have eU:=aQ.o.lt;have bU:=bQ.o.lt;clear hg1;go_wp2_with fail;refine(HJ.o _).mono ?_;rintro e w2 ⟨rfl,hg2⟩;have HG2:=aa (aO.o.trans hg2);have aG:=aa (aQ.o.grow hg2);have ct:=aa (bQ.o.grow hg2);have hc2:=aG.o.cell;have hd2:=ct.o.cell;have hl2:=aG.o.lt;have hm2:=ct.o.lt;clear hg2;clear hc1 hd1 eU bU;go_wp2_with fail;go_ret;exact⟨cA rfl,HG2.o⟩
 ·have ho:=fx.eq fy h;rw[ai (by omega),ai (by omega)];clear h fx fy;go_enter func160,ntmps160;go_wp2_with fail;refine(HI.o _).mono ?_;rintro e w1 ⟨rfl,hg1⟩;have aO:=aa (aM.o.trans hg1);have aQ:=aa (bg.o.grow hg1);have bQ:=aa (gQ.o.grow hg1);have hc1:=aQ.o.cell;have hd1:=bQ.o.cell;have eU:=aQ.o.lt;have bU:=bQ.o.lt;clear hg1;go_wp2_with fail;refine(HJ.o _).mono ?_;rintro e w2 ⟨rfl,hg2⟩;have HG2:=aa (aO.o.trans hg2);have aG:=aa (aQ.o.grow hg2);have ct:=aa (bQ.o.grow hg2);have hc2:=aG.o.cell;have hd2:=ct.o.cell;have hl2:=aG.o.lt;have hm2:=ct.o.lt;clear hg2;clear hc1 hd1 eU bU;go_wp2_with fail
  go_region_held3 (fun w'=>(∀q,w'.cell? ⟨w.heap.size,q,none⟩=(Cv.mk 4 n a1 a2 a3 a4 a5 a6 a7 a8 a9).cells[q]?)∧(∀q,w'.cell? ⟨w.heap.size+1,q,none⟩=(Cv.mk 4 n' b1 b2 b3 b4 b5 b6 b7 b8 b9).cells[q]?)) (first | go_keep | exact⟨lO,qh⟩ | exact⟨ov,hdy⟩)
   (first | ((with_reducible refine(HP.o _).mono ?_);rintro e wx ⟨rfl,hgx⟩;first | (have px:=aa (bJ.o.trans hgx);have jW:=aa (bI.o.grow hgx);have jX:=aa (fN.o.grow hgx);have ov:=jW.o.cell;have hdy:=jX.o.cell;clear hgx) | (have bJ:=aa ((HG2.o.drew).trans hgx);have bI:=aa ((aG.o.drew).grow hgx);have fN:=aa ((ct.o.drew).grow hgx);have lO:=bI.o.cell;have qh:=fN.o.cell;clear hgx)) | ((with_reducible refine(HQ.o _).mono ?_);rintro e wx ⟨rfl,hgx⟩;first | (have px:=aa (bJ.o.trans hgx);have jW:=aa (bI.o.grow hgx);have jX:=aa (fN.o.grow hgx);have ov:=jW.o.cell;have hdy:=jX.o.cell;clear hgx) | (have bJ:=aa ((HG2.o.drew).trans hgx);have bI:=aa ((aG.o.drew).grow hgx);have fN:=aa ((ct.o.drew).grow hgx);have lO:=bI.o.cell;have qh:=fN.o.cell;clear hgx)) | (go_at_call 159;refine(rG _ _ _).mono ?_;rintro e wx ⟨rfl,rfl⟩))
  all_goals
   go_wp2_with fail
   go_ret
   exact⟨rfl,px.o⟩
 have ho:=fx.gt fy h;rw[ai (by omega),aw h];clear h fx fy;go_enter func160,ntmps160;go_wp2_with fail;refine(HI.o _).mono ?_;rintro e w1 ⟨rfl,hg1⟩;have aO:=aa (aM.o.trans hg1);have aQ:=aa (bg.o.grow hg1);have bQ:=aa (gQ.o.grow hg1);have hc1:=aQ.o.cell;have hd1:=bQ.o.cell;have eU:=aQ.o.lt;have bU:=bQ.o.lt;clear hg1;go_wp2_with fail;refine(HJ.o _).mono ?_;rintro e w2 ⟨rfl,hg2⟩;have HG2:=aa (aO.o.trans hg2);have aG:=aa (aQ.o.grow hg2);have ct:=aa (bQ.o.grow hg2);have hc2:=aG.o.cell;have hd2:=ct.o.cell;have hl2:=aG.o.lt;have hm2:=ct.o.lt;clear hg2;clear hc1 hd1 eU bU;go_wp2_with fail;go_ret;exact⟨cA rfl,HG2.o⟩
theorem ajM(k k':Int)(n n':Nat)(c c':Cv)(w:World)(hk:k=3∨k=4)(hk':k'=3∨k'=4)(h:In w (.mk k n [] [] []) c)(h':In w (.mk k' n' [] [] []) c') :
 Calls prog 160 #[c.agg,c'.agg] w fun e w'=>e=.returned (.int .i64 (dw k n k' n'))∧Grow w w':=by
 obtain⟨aB,aL,aF,cB,cL,cF,rfl,-,-,h3,-⟩:=h.open;obtain⟨bB,bL,bF,dB,dL,dF,rfl,-,-,k3,-⟩:=h'.open;rcases hk with rfl | rfl<;>rcases hk' with rfl | rfl
 ·exact ajI _ _ n n' w rfl rfl rfl rfl h3 k3
 ·exact ajJ _ _ n n' w rfl rfl rfl rfl h3 k3
 ·exact ajK _ _ n n' w rfl rfl rfl rfl h3 k3
 exact ajL _ _ n n' w rfl rfl rfl rfl h3 k3
end
end Go.Proofs.YtndjopkdbdcmdaaGreatDoor
