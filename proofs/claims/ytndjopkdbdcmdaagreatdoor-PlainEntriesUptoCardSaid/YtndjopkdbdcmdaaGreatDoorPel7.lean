/- Part 7 of the proof of pentries_card. -/
import Derived.Test.YtndjopkdbdcmdaaGreatDoorPel2
import Derived.Test.YtndjopkdbdcmdaaGreatDoorPel3
import Derived.Deep.CutRange
set_option linter.unusedVariables false
set_option linter.unusedSimpArgs false
set_option maxRecDepth 100000
set_option maxHeartbeats 12800000
open Go.Proofs.Tryz
namespace Go.Proofs.YtndjopkdbdcmdaaGreatDoor
section
open Go.Shelf Go.RowKit Go.Lib Go.Sort
variable {α:Type} [Inhabited α] {lt:α→α→Bool}
theorem aaS{d dk d2 d3:Array α}{a m b s e mid:Nat}(hb:b≤d.size)(nS:a≤mid)(hmb:mid≤b)(has:a≤s)(hsm:s≤m)(Hy:e≤b)(hme:m≤e)(IW:qP d m (m-s) (e-m) dk)(hx:∀p q,a≤p→p<mid→mid≤q→q<b→lt dk[q]! dk[p]! = false)
 (h2:PermIn a mid dk d2) (h2s:SortedIn lt a mid d2) (h3:PermIn mid b d2 d3) (h3s:SortedIn lt mid b d3):PermIn a b d d3∧SortedIn lt a b d3:=by
 have z1:=IW.1.1;have z2:=h2.1;refine⟨permIn_trans _ _ _ _ _ (permIn_mono _ _ _ _ _ _ (by omega) (by omega) hb IW.1) (permIn_trans _ _ _ _ _ (permIn_mono _ _ _ _ _ _ (av _) hmb (by omega) h2) (permIn_mono _ _ _ _ _ _ nS (av _) (by omega) h3)),?_⟩;refine aji (II h3 h2s (.inl (av _))) h3s ?_;exact aax (by omega) nS hmb (.inr h3) (aax (by omega) nS hmb (.inl h2) hx)
theorem ajX(Z:Nat)(hz:∀w,(Go.sizeOf 115).run prog w=.ok Z w)(enc:α→List Value)(cf:α→α→Int)(hS:SWO (ltOf cf))(gc:Nat)(cb:Array Value)(eg:∀args w,(callFunc gc args).run prog w=.ok (.enter gc args) w)(blk off cap:Nat)(d0:Array α)(w0:World)(R:RowK enc Z w0 blk off d0)(hC:CmpLays prog gc cb enc Z cf blk off d0.size w0)(hsz:d0.size<4611686018427387904)(a m b:Nat)(d:Array α)(w:World)(aaT:Hid (∀(a' m' b':Nat) (d':Array α) (w':World),b'-a'<b-a→a'<m'→m'<b'→b'≤d'.size→d'.size=d0.size→SortedIn (ltOf cf) a' m' d'→SortedIn (ltOf cf) m' b' d'→SWK enc Z w0 blk off d' w'→uE Z enc cf gc cb blk off cap w0 a' m' b' d' w'))(hs:d.size=d0.size)(S:SWK enc Z w0 blk off d w)(nS:a+1<m)(hmb:m+1<b)(hb:b≤d.size)(h1:SortedIn (ltOf cf) a m d)(h2:SortedIn (ltOf cf) m b d):uE Z enc cf gc cb blk off cap w0 a m b d w:=by
 have HZ:=aa hz;have gq:=aa hs;have mixed:prog.follows Departure.mixedOrders=true:=by kernel_rfl
 have S0:Aside (SWK enc Z w0 blk off d w):=S;have H1:=aa h1;have H2:=aa h2;have HB:=aa hb;have Sj:d.size<4611686018427387904:=by omega
 have Sk:((m:Int)-(a:Int)==1)=false:=by rw[pj];omega
 have ajm:IntKind.i64.wrap ((m:Int)-(a:Int))=(m:Int)-(a:Int):=by rw[cZ];omega
 have BK:((b:Int)-(m:Int)==1)=false:=by rw[pj];omega
 have amE:IntKind.i64.wrap ((b:Int)-(m:Int))=(b:Int)-(m:Int):=by rw[cZ];omega
 have amF:IntKind.i64.wrap ((a:Int)+(b:Int))=(a:Int)+(b:Int):=by rw[cZ];omega
 obtain⟨mid,hmid⟩:∃mid,mid=(a+b) / 2:=⟨_,rfl⟩;obtain⟨n,hN⟩:∃n,n=mid+m:=⟨_,rfl⟩;have amG:((a:Int)+(b:Int)) / 2=(mid:Int):=by omega
 have en:(mid:Int)+(m:Int)=(n:Int):=by omega
 have rn:IntKind.i64.wrap (n:Int)=(n:Int):=by rw[cZ];omega
 obtain⟨p,hp⟩:∃p,p=n-1:=⟨_,rfl⟩;have ep:(n:Int)-1=(p:Int):=by omega
 have rp:IntKind.i64.wrap (p:Int)=(p:Int):=by rw[cZ];omega
 have kA:=aa (show p+1=n∧n=mid+m∧a+1<mid∧mid+1<b+1∧mid<b∧p<4611686018427387904+4611686018427387904 by omega);clear S h1 h2 hs hp;unfold uE;have vQ:=aa (And.intro hN hmid);clear hN hmid;go_enter func191,ntmps191;go_upto_if 140 with fail;go_cut [20,21] from 129 to 146 (fun Tb Tc wx=>w=wx∧∃s0 r0:Nat,Tb=.int .i64 s0∧Tc=.int .i64 r0∧s0≤r0∧Hid (∀s,s0≤s→s≤r0→a≤s∧s≤m∧s≤mid∧m+s≤n∧n≤s+b)∧Hid ((s0=a∨n=s0+b)∧(r0=m∨n=r0+m)))
 case first =>
  obtain⟨hN,hmid⟩:=vQ.out;by_cases amH:mid<m
  ·have hbr:(mid:Int)<(m:Int):=by omega
   obtain⟨s0,hs0⟩:∃s0,s0=n-b:=⟨_,rfl⟩;have jT:(n:Int)-(b:Int)=(s0:Int):=by omega
   have rs0:IntKind.i64.wrap (s0:Int)=(s0:Int):=by rw[cZ];omega
   have h3:Hid (s0≤mid∧(∀s,s0≤s→s≤mid→a≤s∧s≤m∧s≤mid∧m+s≤n∧n≤s+b)∧(s0=a∨n=s0+b)∧(mid=m∨n=mid+m)):=aa ⟨by omega,fun s h1 h2=>by omega,by omega,by omega⟩;clear hs0 hN hmid;go_wp2_with fail;go_meet;exact⟨rfl,s0,mid,rfl,rfl,h3.out.1,h3.out.2.1,h3.out.2.2⟩
  have hbr:¬ (mid:Int)<(m:Int):=by omega
  have h3:Hid (a≤m∧(∀s,a≤s→s≤m→a≤s∧s≤m∧s≤mid∧m+s≤n∧n≤s+b)∧(a=a∨n=a+b)∧(m=m∨n=m+m)):=aa ⟨by omega,fun s h1 h2=>by omega,by omega,by omega⟩;clear hN hmid;go_wp2_with fail;go_meet;exact⟨rfl,a,m,rfl,rfl,h3.out.1,h3.out.2.1,aa ⟨.inl rfl,.inl rfl⟩⟩
 obtain⟨rfl,s0,r0,rfl,rfl,hsr,Td,nK⟩:=hcut;go_wp2_with fail;go_loopg [20,21,23] (r0-s0+1) (fun gk Tb Tc s23 wr=>∃(i j:Nat),Tb=.int .i64 i∧Tc=.int .i64 j∧s0≤i∧i≤j∧j≤r0∧j-i≤gk∧Aside (SWK enc Z w0 blk off d wr)∧Hid ((i=s0∨ltOf cf d[n-i]! d[i-1]! = false)∧(j=r0∨ltOf cf d[p-j]! d[j]! = true)));exact⟨s0,r0,rfl,rfl,av _,hsr,av _,by omega,S0,.inl rfl,.inl rfl⟩;clear S0;obtain⟨i,j,rfl,rfl,rI,hij,hjb,iB,S1,HI⟩:=hrel;by_cases hlt:i<j
 ·have hL:=Td.out i rI (by omega);have hL2:=Td.out j (by omega) hjb;have LX:=kA.out;obtain⟨gk',rfl⟩:=bP gk (by omega);obtain⟨h,hh⟩:∃h,(i+j) / 2=h:=⟨_,rfl⟩;have JN:i≤h:=by omega
  have Ac:h<j:=by omega
  have hhi:((i:Int)+(j:Int)) / 2=(h:Int):=by omega
  have aay:IntKind.i64.wrap ((i:Int)+(j:Int))=(i:Int)+(j:Int):=by rw[cZ];omega
  clear hh;have uC:(i:Int)<(j:Int):=by omega
  obtain⟨q,hq⟩:∃q,q=p-h:=⟨_,rfl⟩;have Sm:(p:Int)-(h:Int)=(q:Int):=by omega
  have HQ:=aa hq;have hqd:q<d.size∧h<d.size:=by omega
  clear hq hL hL2 LX;have ea1:((q:Nat):Int).toNat=q:=by omega
  have pa1:(0:Int)≤((q:Nat):Int):=by omega
  have ba1:((q:Nat):Int)<(d.size:Int):=by omega
  have ra1:IntKind.i64.wrap ((q:Nat):Int)=((q:Nat):Int):=by rw[cZ];omega
  have ea2:((h:Nat):Int).toNat=h:=by omega
  have pa2:(0:Int)≤((h:Nat):Int):=by omega
  have ba2:((h:Nat):Int)<(d.size:Int):=by omega
  have ra2:IntKind.i64.wrap ((h:Nat):Int)=((h:Nat):Int):=by rw[cZ];omega
  have lA:=S1.out.ld R (by have:=gq.out;omega) prog q (by have:=gq.out;omega);have lB:=S1.out.ld R (by have:=gq.out;omega) prog h (by have:=gq.out;omega);have jL:=fun n os=>S1.out.cmp hC (by have:=gq.out;omega) d[q]! d[h]! n os
  have SG:=aa (fun n os=>S1.out.grown n os);have nA:(enc d[q]!).length=Z:=R.hk _;have nB:(enc d[h]!).length=Z:=R.hk _;obtain⟨z,hzz⟩:∃z,cf d[q]! d[h]! = z:=⟨_,rfl⟩;rw[hzz] at jL;have zF:=aa hzz;generalize enc d[q]! = cA at lA jL nA;generalize enc d[h]! = cB at lB jL nB;clear S1 hzz;by_cases hlv:z<0
  ·have hlb:decide (z<0)=true:=bT hlv;go_wp2_with fail;go_quiet_grown (first | (go_at_fn gc;refine Calls.grown_of (jL _ _)));have eV:Aside (SWK enc Z w0 blk off d (grow (wr.drewN nq) osq)):=SG.out nq osq;generalize grow (wr.drewN nq) osq=w2 at eV ⊢;clear lA lB jL SG;go_wp2_with fail;go_roundg gk';exact⟨i,h,rfl,rfl,rI,by omega,by omega,by omega,eV,HI.out.1,.inr (by unfold ltOf;rw[← HQ.out,zF.out];exact bT hlv)⟩;omega
  have hlb:decide (z<0)=false:=bY hlv;go_wp2_with fail;go_quiet_grown (first | (go_at_fn gc;refine Calls.grown_of (jL _ _)));have eV:Aside (SWK enc Z w0 blk off d (grow (wr.drewN nq) osq)):=SG.out nq osq;generalize grow (wr.drewN nq) osq=w2 at eV ⊢;clear lA lB jL SG;go_wp2_with fail;go_roundg gk';exact⟨h+1,j,by go_num,rfl,by omega,by omega,hjb,by omega,eV,.inr (by rw[wG,show n-(h+1)=q by have:=HQ.out;have:=kA.out;omega];unfold ltOf;rw[zF.out];exact bY (by omega)),HI.out.2⟩;omega
 obtain rfl:i=j:=by omega
 have uC:¬ (i:Int)<(i:Int):=by omega
 obtain⟨C8,hL2,hL3,hL4,hL5⟩:=Td.out i rI hjb;obtain⟨e,he⟩:∃e,e=n-i:=⟨_,rfl⟩;have ee:(n:Int)-(i:Int)=(e:Int):=by omega
 have re:IntKind.i64.wrap (e:Int)=(e:Int):=by rw[cZ];omega
 have nQ:=aa he;have hme:m≤e:=by omega
 have Hy:e≤b:=by omega
 have hes:e+i=n:=by omega
 have HLO:=aa (show i=a∨e=b∨ltOf cf d[e]! d[i-1]! = false by
  rcases HI.out.1 with h | h
  ·have:=nK.out.1;omega
  rw[he];exact .inr (.inr h))
 have HHI:=aa (show i=m∨e=m∨ltOf cf d[e-1]! d[i]! = true by
  rcases HI.out.2 with h | h
  ·have:=nK.out.2;omega
  rw[he,show n-i-1=p-i by have:=kA.out;omega];exact .inr (.inr h))
 have RD:mid+m=i+e:=by have:=kA.out;omega
 have amI:a≤mid:=by have:=kA.out;omega
 have amJ:mid≤b:=by have:=kA.out;omega
 have amK:b-mid<b-a∧mid-a<b-a:=by have:=kA.out;omega
 clear he;generalize hsi:i=s at *;have hz0:=hz;obtain⟨c1,hc1⟩:∃c:Bool,c=decide (s<m∧m<e):=⟨_,rfl⟩;have IX:=aa hc1;clear hc1;go_upto_region 39 with fail;go_cut [185] from 178 to 185 (fun c wx=>c=.bool c1∧wr=wx)
 case first =>
  by_cases h1:s<m
  ·have i1:(s:Int)<(m:Int):=by omega
   by_cases h2:m<e
   ·have i2:(m:Int)<(e:Int):=by omega
    go_wp2_with fail;go_meet;exact⟨cT Value.bool (by rw[IX.out];exact(bT ⟨h1,h2⟩).symm),rfl⟩
   have i2:¬ (m:Int)<(e:Int):=by omega
   go_wp2_with fail;go_meet;exact⟨cT Value.bool (by rw[IX.out];exact(bY (fun h=>h2 h.2)).symm),rfl⟩
  have i1:¬ (s:Int)<(m:Int):=by omega
  go_wp2_with fail;go_meet;exact⟨cT Value.bool (by rw[IX.out];exact(bY (fun h=>h1 h.1)).symm),rfl⟩
 obtain⟨rfl,rfl⟩:=hcut;go_upto_if 185 with fail;go_cut [] from 178 to 191 (fun wx=>∃dk:Array α,Hid (qP d m (m-s) (e-m) dk)∧Aside (SWK enc Z w0 blk off dk wx))
 case first =>
  by_cases hz:s<m∧m<e
  ·obtain rfl:c1=true:=by rw[IX.out];exact bT hz
   have IW:=ajc Z hz0 enc gc cb blk off cap s m e d0 d w0 wr R gq.out.symm S1.out hz.1 hz.2 (by omega) Sj;have ajY:=aa IW;clear IW S1;go_wp2_with fail;refine ajY.out.mono ?_;rintro e7 w2 ⟨rfl,dk,hrt,S2⟩;have Ey:=aa hrt;clear hrt;go_wp2_with fail;go_meet;exact⟨dk,Ey,S2⟩
  obtain rfl:c1=false:=by rw[IX.out];exact bY hz
  go_wp2_with fail;go_meet;refine⟨d,?_,S1⟩;by_cases h1:s<m
  ·rw[show e-m=0 by
    have:¬ m<e:=fun h=>hz ⟨h1,h⟩
    omega]
   exact qP.ajg d m _
  rw[show m-s=0 by omega];exact qP.ajf d m _
 obtain⟨dk,Ey,S2⟩:=hcut;generalize wc=w2 at S2 ⊢;clear S1;have mv:=aa (ajh hS H1.out H2.out (by omega) (by omega) (by omega) (by omega) (by have:=nQ.out;have:=kA.out;omega) HLO.out HHI.out Ey.out);have BO:=aa Ey.out.1.1;obtain⟨c2,hc2⟩:∃c:Bool,c=decide (a<s∧s<mid):=⟨_,rfl⟩;have IY:=aa hc2;clear hc2;go_upto_region 41 with fail;go_cut [199] from 192 to 199 (fun c wx=>c=.bool c2∧w2=wx)
 case first =>
  by_cases h1:a<s
  ·have i1:(a:Int)<(s:Int):=by omega
   by_cases h2:s<mid
   ·have i2:(s:Int)<(mid:Int):=by omega
    go_wp2_with fail;go_meet;exact⟨cT Value.bool (by rw[IY.out];exact(bT ⟨h1,h2⟩).symm),rfl⟩
   have i2:¬ (s:Int)<(mid:Int):=by omega
   go_wp2_with fail;go_meet;exact⟨cT Value.bool (by rw[IY.out];exact(bY (fun h=>h2 h.2)).symm),rfl⟩
  have i1:¬ (a:Int)<(s:Int):=by omega
  go_wp2_with fail;go_meet;exact⟨cT Value.bool (by rw[IY.out];exact(bY (fun h=>h1 h.1)).symm),rfl⟩
 obtain⟨rfl,rfl⟩:=hcut;go_upto_if 199 with fail;go_cut [] from 192 to 205 (fun wx=>∃d2:Array α,Hid (PermIn a mid dk d2∧SortedIn (ltOf cf) a mid d2)∧Aside (SWK enc Z w0 blk off d2 wx))
 case first =>
  by_cases hz:a<s∧s<mid
  ·obtain rfl:c2=true:=by rw[IY.out];exact bT hz
   have hrec:=aaT.out a s mid dk w2 (by omega) (by omega) (by omega) (by have:=BO.out;omega) (by have:=BO.out;have:=gq.out;omega) mv.out.1 mv.out.2.1 S2.out;unfold uE at hrec;rw[BO.out] at hrec;have ajZ:=aa hrec;clear hrec S2;go_wp2_with fail;refine ajZ.out.mono ?_;rintro e8 w3 ⟨rfl,d2,hp2,hs2,S3⟩;have pz:=aa (And.intro hp2 hs2);clear hp2 hs2;go_wp2_with fail;go_meet;exact⟨d2,pz,S3⟩
  obtain rfl:c2=false:=by rw[IY.out];exact bY hz
  go_wp2_with fail;go_meet;refine⟨dk,And.intro (permIn_refl dk a mid) ?_,S2⟩;by_cases h1:a<s
  ·exact Mn mv.out.1 (av _) (by
    have:¬ s<mid:=fun h=>hz ⟨h1,h⟩
    omega)
  exact Mn mv.out.2.1 (by omega) (av _)
 obtain⟨d2,pz,S3⟩:=hcut;generalize wc=w3 at S3 ⊢;clear S2;have yM:=aa (pz.out.1.1.trans BO.out);obtain⟨c3,hc3⟩:∃c:Bool,c=decide (mid<e∧e<b):=⟨_,rfl⟩;have IZ:=aa hc3;clear hc3;go_upto_region 43 with fail;go_cut [213] from 206 to 213 (fun c wx=>c=.bool c3∧w3=wx)
 case first =>
  by_cases h1:mid<e
  ·have i1:(mid:Int)<(e:Int):=by omega
   by_cases h2:e<b
   ·have i2:(e:Int)<(b:Int):=by omega
    go_wp2_with fail;go_meet;exact⟨cT Value.bool (by rw[IZ.out];exact(bT ⟨h1,h2⟩).symm),rfl⟩
   have i2:¬ (e:Int)<(b:Int):=by omega
   go_wp2_with fail;go_meet;exact⟨cT Value.bool (by rw[IZ.out];exact(bY (fun h=>h2 h.2)).symm),rfl⟩
  have i1:¬ (mid:Int)<(e:Int):=by omega
  go_wp2_with fail;go_meet;exact⟨cT Value.bool (by rw[IZ.out];exact(bY (fun h=>h1 h.1)).symm),rfl⟩
 obtain⟨rfl,rfl⟩:=hcut;by_cases hz:mid<e∧e<b
 ·obtain rfl:c3=true:=by rw[IZ.out];exact bT hz
  have hrec:=aaT.out mid e b d2 w3 (by omega) (by omega) (by omega) (by have:=yM.out;omega) (by have:=yM.out;have:=gq.out;omega) (II pz.out.1 mv.out.2.2.1 (.inr (av _))) (II pz.out.1 mv.out.2.2.2.1 (.inr (by omega))) S3.out;unfold uE at hrec;rw[yM.out] at hrec;have aj0:=aa hrec;clear hrec S3;go_wp2_with fail;refine aj0.out.mono ?_;rintro e9 w4 ⟨rfl,d3,Dy,hs3,S4⟩;have HF:=aa (aaS HB.out (by omega) (by omega) (by omega) (by omega) (by omega) (by omega) Ey.out mv.out.2.2.2.2 pz.out.1 pz.out.2 Dy hs3);have HS4:=aa S4;clear Dy hs3 S4;go_wp2_with fail;go_end0;exact⟨rfl,d3,HF.out.1,HF.out.2,HS4.out⟩
 obtain rfl:c3=false:=by rw[IZ.out];exact bY hz
 have HF:=aa (aaS HB.out (by omega) (by omega) (by omega) (by omega) (by omega) (by omega) Ey.out mv.out.2.2.2.2 pz.out.1 pz.out.2 (permIn_refl d2 mid b) (by
  by_cases h1:mid<e
  ·have h2:¬ e<b:=fun h=>hz ⟨h1,h⟩
   have hh:=II pz.out.1 mv.out.2.2.1 (.inr (av _));exact Mn hh (av _) (by omega)
  have hh:=II pz.out.1 mv.out.2.2.2.1 (.inr (by omega));exact Mn hh (by omega) (av _)))
 go_wp2_with fail;go_end0;exact⟨rfl,d2,HF.out.1,HF.out.2,S3.out⟩
theorem aaU(Z:Nat)(hz:∀w,(Go.sizeOf 115).run prog w=.ok Z w)(enc:α→List Value)(cf:α→α→Int)(hS:SWO (ltOf cf))(gc:Nat)(cb:Array Value)(eg:∀args w,(callFunc gc args).run prog w=.ok (.enter gc args) w)(blk off cap:Nat)(d0:Array α)(w0:World)(R:RowK enc Z w0 blk off d0)(hC:CmpLays prog gc cb enc Z cf blk off d0.size w0)(hsz:d0.size<4611686018427387904):∀(N a m b:Nat) (d:Array α) (w:World),b-a≤N→a<m→m<b→b≤d.size→d.size=d0.size→SortedIn (ltOf cf) a m d→SortedIn (ltOf cf) m b d→SWK enc Z w0 blk off d w→uE Z enc cf gc cb blk off cap w0 a m b d w
 | 0,a,m,b,d,w,hN,h1,h2,hb,hs,s1,s2,S=>by omega
 | N+1,a,m,b,d,w,hN,h1,h2,hb,hs,s1,s2,S=>by
  by_cases hm:m=a+1
  ·subst hm;exact ajj Z hz enc cf hS gc cb eg blk off cap d0 w0 R hC hsz a b d w hs S h2 hb s2
  by_cases BK:b=m+1
  ·subst BK;exact ajl Z hz enc cf hS gc cb eg blk off cap d0 w0 R hC hsz a m d w hs S (by omega) hb s1
  exact ajX Z hz enc cf hS gc cb eg blk off cap d0 w0 R hC hsz a m b d w (fun a' m' b' d' w' k1 k2 k3 k4 k5 k6 k7 k8=>aaU Z hz enc cf hS gc cb eg blk off cap d0 w0 R hC hsz N a' m' b' d' w' (by omega) k2 k3 k4 k5 k6 k7 k8) hs S (by omega) (by omega) hb s1 s2
end
section
open Go.Shelf Go.RowKit Go.Lib Go.Sort
variable {α:Type} [Inhabited α] {lt:α→α→Bool}
def jZ(lt:α→α→Bool)(bs lo n:Nat)(d:Array α):Prop:=∀i j,lo≤i→i<j→j<n→i / bs=j / bs→lt d[j]! d[i]! = false
theorem jZ.nj{bs lo n:Nat}{d:Array α}(h:jZ lt bs lo n d){a b:Nat}(ha:lo≤a)(hb:b≤n)(hab:∀i,a≤i→i<b→i / bs=a / bs):SortedIn lt a b d:=fun i j h1 h2 h3=>h i j (by omega) h2 (by omega) (by rw[hab i h1 (by omega),hab j (by omega) h3])
theorem jZ.perm{bs lo n a b:Nat}{d d':Array α}(h:jZ lt bs lo n d)(hp:PermIn a b d d')(hd:n≤a∨b≤lo):jZ lt bs lo n d':=fun i j h1 h2 h3 h4=>by
 rw[hp.2.1 i (by omega),hp.2.1 j (by omega)];exact h i j h1 h2 h3 h4
theorem aaV{bs t i:Nat}(h1:t*bs≤i)(h2:i<(t+1)*bs):i / bs=t:=by
 have hb:0<bs:=by
  rcases uN bs with h | h
  ·subst h;simp at h2
  exact h
 rw[Nat.div_eq_iff hb];rw[jM,ng] at h2;omega
theorem jZ.more{bs t n:Nat}{d d':Array α}(h:jZ lt bs 0 (t*bs) d)(hp:PermIn (t*bs) n d d')(hs:SortedIn lt (t*bs) n d')(hn:n≤(t+1)*bs):jZ lt bs 0 n d':=fun i j h1 h2 h3 h4=>by
 rcases dH j (t*bs) with hj | hj
 ·rw[hp.2.1 i (.inl (by omega)),hp.2.1 j (.inl hj)];exact h i j h1 h2 hj h4
 rcases dH i (t*bs) with hi | hi
 ·have hb:0<bs:=by
   rcases uN bs with h0 | h0
   ·subst h0;simp at hi
   exact h0
  have e1:=aaV hj (by omega);have e2:i / bs<t:=by rw[zR hb];exact hi
  omega
 exact hs i j hi h2 h3
theorem aj1{P:Program}{gc:Nat}{cb:Array Value}{enc:α→List Value}{Z:Nat}{cf:α→α→Int}{blk off:Nat}{d:Array α}{w0 W:World}(h:SWK enc Z w0 blk off d W)(hblk:blk<w0.heap.size)(hC:CmpLays P gc cb enc Z cf blk off d.size w0):CmpLays P gc cb enc Z cf blk off d.size W:=fun m os dk kV x y=>by
 obtain⟨n,os',e⟩:=h.on hblk m dk os kV;rw[e];exact hC n os' dk kV x y
theorem aj2(Z:Nat)(hz:∀w,(Go.sizeOf 115).run prog w=.ok Z w)(enc:α→List Value)(cf:α→α→Int)(hS:SWO (ltOf cf))(gc:Nat)(cb:Array Value)(eg:∀args w,(callFunc gc args).run prog w=.ok (.enter gc args) w)(blk off cap:Nat)(d0:Array α)(w0:World)(R:RowK enc Z w0 blk off d0)(hC:CmpLays prog gc cb enc Z cf blk off d0.size w0)(hsz:d0.size<4611686018427387904)
 (a b:Nat) (d:Array α) (w:World) (hs:d.size=d0.size) (S:SWK enc Z w0 blk off d w) (hab:a≤b) (hb:b≤d.size) :
 Calls prog 190 #[.slice (some ⟨blk,off,none⟩) d.size cap,.int .i64 a,.int .i64 b,.func (.func gc) #[] cb] w fun e w'=>e=.returned (.tuple #[])∧∃d',PermIn a b d d'∧SortedIn (ltOf cf) a b d'∧SWK enc Z w0 blk off d' w':=by
 have h:=AnyQ.insertionSortCmpFunc (P:=prog) ajo Z isAgg115 hz enc R.hk R.h1 cf gc cb blk off cap a b d w eg (aj1 S R.hblk (by rw[hs];exact hC)) (S.holds R.hblk R.hH hs) (S.lt R.hblk) hab hb (by omega);refine h.mono ?_;rintro e w' ⟨he,n,os,rfl⟩;have hi:=insertionSort_holds hS d a b hab hb;exact⟨he,_,hi.1,hi.2,S.on R.hblk n _ os hi.1.1⟩
theorem jZ.up{bs a b n:Nat}{d d':Array α}(h1:jZ lt (2*bs) 0 a d)(hab:a≤b)(JM:b≤n)(hp:PermIn a b d d')(hs:SortedIn lt a b d')(ha:a % (2*bs)=0)(hb:b≤a+2*bs):jZ lt (2*bs) 0 b d':=by
 have he:a=a / (2*bs)*(2*bs):=by
  have:=sM a (2*bs);rw[ha,fF,nW] at this;exact this.symm
 rw[he] at h1 hp hs;exact jZ.more h1 hp hs (by rw[jM,ng,← he];exact hb)
theorem jZ.half{bs a n:Nat}{d:Array α}(h:jZ lt bs a n d)(hbs:0<bs)(ha:a % (2*bs)=0){x y:Nat}(hx:x=a∨x=a+bs)(hy:y≤x+bs)(hyn:y≤n):SortedIn lt x y d:=by
 have he:a / (2*bs)*(2*bs)=a:=by
  have:=sM a (2*bs);rw[ha,fF,nW] at this;exact this
 have hc:∃t,x=t*bs:=by
  rcases hx with h | h
  ·exact⟨a / (2*bs)*2,by rw[h,qW,he]⟩
  exact⟨a / (2*bs)*2+1,by rw[h,jM,qW,he,ng]⟩
 obtain⟨t,ht⟩:=hc;refine h.nj (by omega) hyn (fun i h1 h2=>?_);have k:∀j,x≤j→j<y→j / bs=t:=fun j h3 h4=>aaV (by rw[← ht];exact h3) (by rw[jM,ng,← ht];omega)
 rw[k i h1 h2,k x (av _) (by omega)]
theorem aj3(Z:Nat)(hz:∀w,(Go.sizeOf 115).run prog w=.ok Z w)(enc:α→List Value)(cf:α→α→Int)(hS:SWO (ltOf cf))(gc:Nat)(cb:Array Value)(eg:∀args w,(callFunc gc args).run prog w=.ok (.enter gc args) w)(blk off cap:Nat)(d:Array α)(w:World)(R:RowK enc Z w blk off d)(hC:CmpLays prog gc cb enc Z cf blk off d.size w)(hsz:d.size<1152921504606846976) :
 Calls prog 157 #[.slice (some ⟨blk,off,none⟩) d.size cap,.int .i64 d.size,.func (.func gc) #[] cb] w fun e w'=>e=.returned (.tuple #[])∧∃d',PermIn 0 d.size d d'∧SortedIn (ltOf cf) 0 d.size d'∧SWK enc Z w blk off d' w':=by
 have aaW:∀(a b:Nat) (dk:Array α) (wr:World),dk.size=d.size→SWK enc Z w blk off dk wr→a≤b→b≤d.size→Calls prog 190 #[.slice (some ⟨blk,off,none⟩) d.size cap,.int .i64 a,.int .i64 b,.func (.func gc) #[] cb] wr fun e w'=>e=.returned (.tuple #[])∧∃d',PermIn a b dk d'∧SortedIn (ltOf cf) a b d'∧SWK enc Z w blk off d' w':=fun a b dk wr h1 h2 h3 h4=>by
  have h:=aj2 Z hz enc cf hS gc cb eg blk off cap d w R hC (by omega) a b dk wr h1 h2 h3 (by omega);rw[h1] at h;exact h
 have aaX:∀(a m b:Nat) (dk:Array α) (wr:World),dk.size=d.size→SWK enc Z w blk off dk wr→a<m→m<b→b≤d.size→SortedIn (ltOf cf) a m dk→SortedIn (ltOf cf) m b dk→Calls prog 191 #[.slice (some ⟨blk,off,none⟩) d.size cap,.int .i64 a,.int .i64 m,.int .i64 b,.func (.func gc) #[] cb] wr fun e w'=>e=.returned (.tuple #[])∧∃d',PermIn a b dk d'∧SortedIn (ltOf cf) a b d'∧SWK enc Z w blk off d' w':=fun a m b dk wr h1 h2 h3 h4 h5 h6 h7=>by
  have h:=aaU Z hz enc cf hS gc cb eg blk off cap d w R hC (by omega) (b-a) a m b dk wr (av _) h3 h4 (by omega) h1 h6 h7 h2;unfold uE at h;rw[h1] at h;exact h
 have Te:=aa aaW;have Tf:=aa aaX;have S0:Aside (SWK enc Z w blk off d w):=SWK.start R.hH;obtain⟨n,hn⟩:∃n,n=d.size:=⟨_,rfl⟩;rw[← hn] at hsz Te Tf ⊢;have HN:=aa hn;clear aaW aaX hC R hz eg hS hn;go_enter func157,ntmps157;go_wp2_with fail;go_loopg [7,8] (n+1) (fun gk s7 s8 wr=>∃(a b:Nat) (dk:Array α),s7=.int .i64 a∧s8=.int .i64 b∧b=a+20∧a≤n∧n-a≤gk∧a % 20=0∧Aside (SWK enc Z w blk off dk wr)∧Hid (PermIn 0 n d dk∧jZ (ltOf cf) 20 0 a dk));exact⟨0,20,d,rfl,rfl,rfl,aS _,by omega,rfl,S0,permIn_refl _ _ _,fun i j h1 h2 h3=>by omega⟩;clear S0;obtain⟨a,b,dk,rfl,rfl,hab,MD,iB,nS,S1,HB⟩:=hrel;have qQ:=aa hab;have HAM:=aa nS;have amL:a<b:=by omega
 clear hab nS;by_cases hle:b≤n
 ·have Tg:(b:Int)≤(n:Int):=by omega
  have amM:IntKind.i64.wrap ((b:Int)+20)=(b:Int)+20:=by rw[cZ];omega
  have lM:=aa (Te.out a b dk wr (by rw[HB.out.1.1,← HN.out]) S1.out (by omega) hle);clear S1;go_wp2_with fail;refine lM.out.mono ?_;rintro e w2 ⟨rfl,d2,hp,hs,S2⟩;have HP:=aa (And.intro hp hs);have eV:Aside (SWK enc Z w blk off d2 w2):=S2;clear hp hs S2 lM;go_wp2_with fail;go_roundg (n-b);have hab:=qQ.out;have nS:=HAM.out;refine⟨b,b+20,d2,rfl,by go_num,rfl,hle,av _,by omega,eV,permIn_trans _ _ _ _ _ HB.out.1 (permIn_mono _ _ _ _ _ _ (aS _) hle (by rw[HB.out.1.1,← HN.out];exact av _) HP.out.1),?_⟩;have he:a=a / 20*20:=by omega
  have h1:=HB.out.2;have h2:=HP.out;rw[he] at h1 h2;exact jZ.more h1 h2.1 h2.2 (by omega);have hab:=qQ.out;omega
 have Tg:¬ (b:Int)≤(n:Int):=by omega
 have lM:=aa (Te.out a n dk wr (by rw[HB.out.1.1,← HN.out]) S1.out MD (av _));clear S1;go_wp2_with fail;refine lM.out.mono ?_;rintro e w2 ⟨rfl,d2,hp,hs,S2⟩;have HP:=aa (show PermIn 0 n d d2∧jZ (ltOf cf) 20 0 n d2 by
  have hab:=qQ.out;have nS:=HAM.out;refine⟨permIn_trans _ _ _ _ _ HB.out.1 (permIn_mono _ _ _ _ _ _ (aS _) (av _) (by rw[HB.out.1.1,← HN.out];exact av _) hp),?_⟩;have he:a=a / 20*20:=by omega
  have h1:=HB.out.2;rw[he] at h1 hp hs;exact jZ.more h1 hp hs (by omega))
 have eV:Aside (SWK enc Z w blk off d2 w2):=S2;clear hp hs S2 lM;go_wp2_with fail;go_loopg [6] (n+1) (fun gk s6 wr=>∃(bs:Nat) (dk:Array α),s6=.int .i64 bs∧0<bs∧bs<2305843009213693952∧n-bs≤gk∧Aside (SWK enc Z w blk off dk wr)∧Hid (PermIn 0 n d dk∧jZ (ltOf cf) bs 0 n dk));exact⟨20,d2,rfl,by omega,by omega,by omega,eV,HP.out⟩;clear eV HP HB;obtain⟨bs,dk,rfl,hbs,hbb,N3,S1,HB⟩:=hrel;by_cases hlt:bs<n
 ·have uC:(bs:Int)<(n:Int):=by omega
  obtain⟨b2,hb2⟩:∃b2,b2=2*bs:=⟨_,rfl⟩;have eb2:2*(bs:Int)=(b2:Int):=by omega
  have eb3:(bs:Int)*2=(b2:Int):=by omega
  have rb2:IntKind.i64.wrap (b2:Int)=(b2:Int):=by rw[cZ];omega
  have aG:=aa hb2;have aaY:b2<2305843009213693952:=by omega
  have amN:bs<b2:=by omega
  clear hb2;go_wp2_with fail;go_loopg [7,8] (n+1) (fun gk s7 s8 wr=>∃(a b:Nat) (dk:Array α),s7=.int .i64 a∧s8=.int .i64 b∧b=a+b2∧a≤n∧n-a≤gk∧Aside (SWK enc Z w blk off dk wr)∧Hid (a % b2=0∧PermIn 0 n d dk∧jZ (ltOf cf) b2 0 a dk∧jZ (ltOf cf) bs a n dk));exact⟨0,b2,dk,rfl,rfl,by omega,aS _,by omega,S1,Nat.zero_mod _,HB.out.1,fun i j h1 h2 h3=>by omega,HB.out.2⟩;clear S1 HB;obtain⟨a,b,dk,rfl,rfl,hab,MD,amO,S1,HB⟩:=hrel;obtain⟨m,hm⟩:∃m,m=a+bs:=⟨_,rfl⟩;have em:(a:Int)+(bs:Int)=(m:Int):=by omega
  have rm:IntKind.i64.wrap (m:Int)=(m:Int):=by rw[cZ];omega
  have HM:=aa hm;have nS:a<m:=by omega
  have hmb:m<b:=by omega
  have qQ:=aa hab;clear hm hab;by_cases hle:b≤n
  ·have Tg:(b:Int)≤(n:Int):=by omega
   obtain⟨c,hc⟩:∃c,c=b+b2:=⟨_,rfl⟩;have hcb:b≤c:=by omega
   have ec:(b:Int)+(b2:Int)=(c:Int):=by omega
   have rc:IntKind.i64.wrap (c:Int)=(c:Int):=by rw[cZ];omega
   have HC:=aa hc;clear hc;have Bv:=aa (show SortedIn (ltOf cf) a m dk by
    have hm:=HM.out;have hab:=qQ.out;exact HB.out.2.2.2.half hbs (by rw[← aG.out];exact HB.out.1) (.inl rfl) (by omega) (by omega))
   have eV:=aa (show SortedIn (ltOf cf) m b dk by
    have hm:=HM.out;have:=aG.out;have hab:=qQ.out;exact HB.out.2.2.2.half hbs (by rw[← aG.out];exact HB.out.1) (.inr hm) (by omega) (by omega))
   have lM:=aa (Tf.out a m b dk wr (by rw[HB.out.2.1.1,← HN.out]) S1.out nS hmb hle Bv.out eV.out);clear S1;go_wp2_with fail;refine lM.out.mono ?_;rintro e w2 ⟨rfl,d3,hp,hs,S2⟩;have HP:=aa (And.intro hp hs);have sQ:Aside (SWK enc Z w blk off d3 w2):=S2;clear hp hs S2 lM;go_wp2_with fail;go_roundg (n-b);have hab:=qQ.out;refine⟨b,c,d3,rfl,rfl,HC.out,hle,av _,sQ,?_,permIn_trans _ _ _ _ _ HB.out.2.1 (permIn_mono _ _ _ _ _ _ (aS _) hle (by rw[HB.out.2.1.1,← HN.out];exact av _) HP.out.1),?_,?_⟩
   ·rw[hab,Nat.add_mod_right];exact HB.out.1
   ·have h1:=HB.out.2.2.1;rw[aG.out] at h1 ⊢;exact h1.up (by omega) hle HP.out.1 HP.out.2 (by rw[← aG.out];exact HB.out.1) (by rw[← aG.out];omega)
   exact jZ.perm (fun i j h1 h2 h3 h4=>HB.out.2.2.2 i j (by omega) h2 h3 h4) HP.out.1 (.inr (av _));have hab:=qQ.out;omega
  have Tg:¬ (b:Int)≤(n:Int):=by omega
  by_cases RD:m<n
  ·have aj4:(m:Int)<(n:Int):=by omega
   have Bv:=aa (show SortedIn (ltOf cf) a m dk by
    have hm:=HM.out;have hab:=qQ.out;exact HB.out.2.2.2.half hbs (by rw[← aG.out];exact HB.out.1) (.inl rfl) (by omega) (by omega))
   have eV:=aa (show SortedIn (ltOf cf) m n dk by
    have hm:=HM.out;have:=aG.out;have hab:=qQ.out;exact HB.out.2.2.2.half hbs (by rw[← aG.out];exact HB.out.1) (.inr hm) (by omega) (av _))
   have lM:=aa (Tf.out a m n dk wr (by rw[HB.out.2.1.1,← HN.out]) S1.out nS RD (av _) Bv.out eV.out);clear S1;go_wp2_with fail;refine lM.out.mono ?_;rintro e w2 ⟨rfl,d3,hp,hs,S2⟩;have HP:=aa (And.intro hp hs);have sQ:Aside (SWK enc Z w blk off d3 w2):=S2;clear hp hs S2 lM;go_wp2_with fail;go_roundg (n-b2);have hab:=qQ.out;refine⟨b2,d3,rfl,by omega,aaY,av _,sQ,permIn_trans _ _ _ _ _ HB.out.2.1 (permIn_mono _ _ _ _ _ _ (aS _) (av _) (by rw[HB.out.2.1.1,← HN.out];exact av _) HP.out.1),?_⟩;have h1:=HB.out.2.2.1;rw[aG.out] at h1 ⊢;exact h1.up MD (av _) HP.out.1 HP.out.2 (by rw[← aG.out];exact HB.out.1) (by rw[← aG.out];omega);omega
  have aj4:¬ (m:Int)<(n:Int):=by omega
  go_wp2_with fail;go_roundg (n-b2);have hab:=qQ.out;refine⟨b2,dk,rfl,by omega,aaY,av _,S1,HB.out.2.1,?_⟩;have h1:=HB.out.2.2.1;have hs:SortedIn (ltOf cf) a n dk:=by
   have hm:=HM.out;have hab:=qQ.out;exact HB.out.2.2.2.half hbs (by rw[← aG.out];exact HB.out.1) (.inl rfl) (by omega) (av _)
  rw[aG.out] at h1 ⊢;exact h1.up MD (av _) (permIn_refl _ _ _) hs (by rw[← aG.out];exact HB.out.1) (by rw[← aG.out];omega);omega
 have uC:¬ (bs:Int)<(n:Int):=by omega
 go_wp2_with fail;go_end0;exact⟨rfl,dk,HB.out.1,HB.out.2.nj (aS _) (av _) (fun i h1 h2=>by rw[Cj (by omega),Nat.zero_div]),S1.out⟩
theorem aem(Z:Nat)(hz:∀w,(Go.sizeOf 115).run prog w=.ok Z w)(enc:α→List Value)(cf:α→α→Int)(hS:SWO (ltOf cf))(gc:Nat)(cb:Array Value)(eg:∀args w,(callFunc gc args).run prog w=.ok (.enter gc args) w)(blk off cap:Nat)(d:Array α)(w:World)(R:RowK enc Z w blk off d)(hC:CmpLays prog gc cb enc Z cf blk off d.size w)(hsz:d.size<1152921504606846976) :
 Calls prog 107 #[.slice (some ⟨blk,off,none⟩) d.size cap,.func (.func gc) #[] cb] w fun e w'=>e=.returned (.tuple #[])∧∃d',PermIn 0 d.size d d'∧SortedIn (ltOf cf) 0 d.size d'∧SWK enc Z w blk off d' w':=by
 have HST:=aa (aj3 Z hz enc cf hS gc cb eg blk off cap d w R hC hsz);clear hC R hz eg hS;go_enter func107,ntmps107;go_wp2_with fail;refine HST.out.mono ?_;rintro e w2 ⟨rfl,d2,hp,hs,S2⟩;have HP:=aa (And.intro hp (And.intro hs S2));clear hp hs S2;go_wp2_with fail;go_end0;exact⟨rfl,d2,HP.out.1,HP.out.2.1,HP.out.2.2⟩
omit [Inhabited α] in
theorem aj5(A:Option Addr)(cap:Nat)(fv:Value)(w:World):Calls prog 190 #[.slice A 0 cap,.int .i64 0,.int .i64 0,fv] w fun e w'=>e=.returned (.tuple #[])∧w'=w:=by
 go_enter func190,ntmps190;go_wp2_with fail;go_loopg [8] 1 (fun gk s8 wr=>s8=.int .i64 1∧w=wr);exact⟨rfl,rfl⟩;obtain⟨rfl,rfl⟩:=hrel;go_wp2_with fail;go_end0;exact⟨rfl,rfl⟩
omit [Inhabited α] in
theorem aej(A:Option Addr)(cap:Nat)(fv:Value)(w:World):Calls prog 107 #[.slice A 0 cap,fv] w fun e w'=>e=.returned (.tuple #[])∧w'=w:=by
 have hst:Calls prog 157 #[.slice A 0 cap,.int .i64 0,fv] w fun e w'=>e=.returned (.tuple #[])∧w'=w:=by
  have HI:=aa (aj5 A cap fv w);go_enter func157,ntmps157;go_wp2_with fail;go_loopg [7,8] 1 (fun gk s7 s8 wr=>s7=.int .i64 0∧s8=.int .i64 20∧w=wr);exact⟨rfl,rfl,rfl⟩;obtain⟨rfl,rfl,rfl⟩:=hrel;go_wp2_with fail;refine HI.out.mono ?_;rintro e w' ⟨rfl,rfl⟩;go_wp2_with fail;go_loopg [6] 1 (fun gk s6 wr=>s6=.int .i64 20∧w'=wr);exact⟨rfl,rfl⟩;obtain⟨rfl,rfl⟩:=hrel;go_wp2_with fail;go_end0;exact⟨rfl,rfl⟩
 have HST:=aa hst;clear hst;go_enter func107,ntmps107;go_wp2_with fail;refine HST.out.mono ?_;rintro e w2 ⟨rfl,rfl⟩;go_wp2_with fail;go_end0;exact⟨rfl,rfl⟩
end
section
open Go.RowKit Go.Shelf
theorem aj6(base n c vb:Nat)(A:Option Addr)(xs vs:List Value)(w:World)(Tv:TypeId)(jm:∀u∈vs,u.oneCell'=true)(hown:w.ownsRow base 48 3 (.slice A n c) n xs)(hn:n≤1000000000)(hz:vs.length=3)
 (hv:w.heap[vb]?=some (.cells vs.toArray Tv (0,0))) (hbase:base≤w.heap.size) :
 Calls prog 116 #[.slice A n c,.int .i64 n,.slice (some ⟨vb,0,none⟩) 1 1] w fun e w'=>∃A' c',e=.returned (.slice A' (n+1:Nat) c')∧w'.ownsRow base 48 3 (.slice A' (n+1) c') (n+1) (xs++vs)∧w.grownBy w' (Value.ownBlock (.slice A n c)) ∧
  (Value.ownBlock (.slice A' (n+1) c')=Value.ownBlock (.slice A n c)∨Value.ownBlock (.slice A' (n+1) c')=some w.heap.size):=by
 have hc:c≤maxLen:=by
  obtain⟨-,⟨hq,-,-⟩ | ⟨g,cap,cur,hq,-,-,-,hcm,-⟩⟩:=hown
  ·injection hq with _ _ h3;rw[h3];exact aS _
  injection hq with _ _ h3;rw[h3];exact hcm
 have hc2:n≤c:=by
  obtain⟨-,⟨hq,-,-⟩ | ⟨g,cap,cur,hq,-,-,hnc,-,-⟩⟩:=hown
  ·injection hq with _ h2 _;rw[h2];exact aS _
  injection hq with _ _ h3;rw[h3];exact hnc
 have hcc:c≤9223372036854775807:=by unfold maxLen at hc;omega
 clear hc;obtain⟨i0,hi0,hz0,hz1,hz2⟩:=info_parts Gw;have fX:=aa hi0;have fY:=aa hz0;have fZ:=aa hz1;have f_:=aa hz2;have HS:=aa (Src.ofSlice (P:=prog) (size:=3) w mq ⟨vb,0,none⟩ 1 1 vs (by omega) (fun j u hu=>by rw[add_lit,uM w vb _ _ Tv (0,0) hv];simpa using hu) jm);have HO:=aa hown;clear hi0 hz0 hz1 hz2 hown hv jm;rcases Decidable.em (c=n) with hcn | hcn
 case' inl=>replace hcn:=hcn.symm;subst hcn
 all_goals
  go_enter func116,ntmps116
  go_wp2_with (at_builtin;refine sO rfl (.tmp 23) (.tmp 24) 42 42 rfl base 48 i0 _ 3 64 mq fX.o fY.o fZ.o f_.o rfl (.slice A n _) n xs rfl HO.o _ 1 vs rfl HS.o (by omega) (by simp only[maxLen];omega) hbase ?_;intro A3 c3 w3 gA pP ux;have g_:=aa gA;have aJ:=aa pP;have BN:=aa ux;clear gA pP ux)
  all_goals
   go_ret
   exact⟨A3,c3,rfl,g_.o,aJ.o,BN.o⟩
theorem aj7(base n i c vb g:Nat)(xs vs:List Value)(w:World)(Tv:TypeId)(h1:∀u∈xs,u.oneCell'=true)(jm:∀u∈vs,u.oneCell'=true)(hown:w.ownsRow base 48 3 (.slice (some ⟨g,0,none⟩) n c) n xs)(hi:i<n)(hn:n≤1000000000)(hroom:n+1≤c)(hz:vs.length=3)
 (hv:w.heap[vb]?=some (.cells vs.toArray Tv (0,0))) (hvb:vb≠g) :
 Calls prog 116 #[.slice (some ⟨g,0,none⟩) n c,.int .i64 i,.slice (some ⟨vb,0,none⟩) 1 1] w fun e w'=>e=.returned (.slice (some ⟨g,0,none⟩) (n+1:Nat) c)∧w'.ownsRow base 48 3 (.slice (some ⟨g,0,none⟩) (n+1) c) (n+1) (xs.take (i*3)++vs++xs.drop (i*3))∧w.grownBy w' (some g):=by
 obtain⟨g',cur,hA,hb,hg,hnc,hcm,hcs,ht,hl⟩:=mP hown (by omega);injection hA with hA;injection hA with hA _;subst hA;have bG:(i+1)*3≤n*3:=iu _ hi;have hm2:(n+1)*3≤c*3:=iu _ hroom;have hcm2:c≤9223372036854775807:=by unfold maxLen at hcm;omega
 have dE:(xs.drop (i*3)).length=n*3-i*3:=by rw[iI,hl]
 have hsz:(prog.info? 48).map (·.size)=some 3:=by kernel_rfl
 have hov:∀ab lb cb,(callFunc 164 #[.slice (some ⟨vb,0,none⟩) 1 1,.slice (some ⟨g,ab,none⟩) lb cb]).run prog w=.ok (.value (.bool false)) w:=fun ab lb cb=>by
  rw[run_callFunc_extern (fn:=f164) (by kernel_rfl) (by kernel_rfl) (by kernel_rfl) (by kernel_rfl) (e:=Extern.SlicesOverlaps.overlaps #[42,42] #[4]) (by kernel_rfl),
   Lib.run_overlaps_apart w 42 4 48 mq 3 (fun _=>rfl) ⟨vb,0,none⟩ ⟨g,ab,none⟩ 1 1 lb cb hvb Tv 48 vs.toArray.size cur.size (by simp[World.shape?,hv]) (by simp[World.shape?,hg]) (by rw[hcs];omega) (by simp[World.frozen?,hv]) (by simp[World.frozen?,hv])]
  rfl
 have I0:∀ty m1 m2 dc sc,m1=n-i→m2=n+1-i→(Builtin.copy_ #[42,42] ty #[.slice (some ⟨g,(i+1)*3,none⟩) m1 dc,.slice (some ⟨g,i*3,none⟩) m2 sc]).run prog w.drew=.ok (goInt (n-i:Nat)) (w.drew.setCells g ((i+1)*3) (xs.drop (i*3))):=fun ty m1 m2 dc sc bG hm2=>by
  have hmin:Nat.min m2 m1=n-i:=by show min _ _=_;omega
  have h:=zt (P:=prog) w.drew 42 42 ty 48 3 g ((i+1)*3) m1 dc ⟨g,i*3,none⟩ m2 sc (xs.drop (i*3)) mq hsz (by rw[dE,hmin];omega)
   (fun j v hj=>by rw[add_lit];rw[wC] at hj;exact vC (w:=w.drew) hg ht _ v hj)
   (fun j hj=>(mn (w:=w.drew) hg _ (by rw[hcs];omega)).1) (fun j hj=>(mn (w:=w.drew) hg _ (by rw[hcs];omega)).2) (fun v hv=>h1 v (qY hv))
  rw[hmin] at h;exact h
 obtain⟨W1,hW1⟩:∃W1,w.drew.setCells g ((i+1)*3) (xs.drop (i*3))=W1:=⟨_,rfl⟩;obtain⟨c1,hg1,hs1,-⟩:=xE (w:=w.drew) (o:=(i+1)*3) hg (xs.drop (i*3)) (by rw[dE,hcs];omega);have hv1:W1.heap[vb]?=some (.cells vs.toArray Tv (0,0)):=by
  rw[← hW1,(mH g _ rfl _ w.drew _).block vb (pn.1 hv).1 (by intro h;injection h with h;exact hvb h)];exact hv
 rw[hW1] at hg1;have I3:∀ty dc,(Builtin.copy_ #[42,42] ty #[.slice (some ⟨g,i*3,none⟩) (n+1-i) dc,.slice (some ⟨vb,0,none⟩) 1 1]).run prog W1=.ok (goInt (1:Nat)) (W1.setCells g (i*3) vs):=fun ty dc=>by
  have hmin:Nat.min 1 (n+1-i)=1:=by show min _ _=_;omega
  have h:=zt (P:=prog) W1 42 42 ty 48 3 g (i*3) (n+1-i) dc ⟨vb,0,none⟩ 1 1 vs mq hsz (by rw[hz,hmin])
   (fun j v hj=>by rw[add_lit,uM W1 vb _ _ Tv (0,0) hv1];simpa using hj)
   (fun j hj=>(mn hg1 _ (by rw[hs1,hcs];omega)).1) (fun j hj=>(mn hg1 _ (by rw[hs1,hcs];omega)).2) jm
  rw[hmin] at h;exact h
 have uJ:=aa (show (W1.setCells g (i*3) vs).ownsRow base 48 3 (.slice (some ⟨g,0,none⟩) (n+1) c) (n+1) (xs.take (i*3)++vs++xs.drop (i*3)) by
  rw[← hW1];exact ZA (w:=w.drew) hown i hi hroom hz)
 have aO:=aa (show w.grownBy (W1.setCells g (i*3) vs) (some g) by
  rw[← hW1];exact LS (World.grownBy.trans (mH g _ rfl _ w.drew _) (mH g _ rfl _ _ _)))
 have iQ:=aa I0;have aj8:∀ty dc,(Builtin.copy_ #[42,42] ty #[.slice (some ⟨g,i*3,none⟩) (n+1-i) dc,.slice (some ⟨vb,0,none⟩) 1 1]).run prog (w.drew.setCells g ((i+1)*3) (xs.drop (i*3)))=.ok (goInt (1:Nat)) ((w.drew.setCells g ((i+1)*3) (xs.drop (i*3))).setCells g (i*3) vs):=by
  rw[hW1];exact I3
 rw[← hW1] at uJ aO;clear hown hg hg1 hs1 I3 hv1 hW1 ht hl dE hcs hcm h1 jm bG hm2 hv I0 hsz hz W1;have hz2:¬ ((i:Int)=(n:Int)):=by omega
 have hw1:IntKind.i64.wrap ((i:Int)+1)=(i:Int)+1:=by rw[cZ];omega
 have hw2:IntKind.i64.wrap ((n:Int)+1)=(n:Int)+1:=by rw[cZ];omega
 have hb1:(0:Int)≤(i:Int)+1:=by omega
 have aj9:(0:Int)≤(n:Int)+1:=by omega
 have htn:((i:Int)+1).toNat=i+1:=by omega
 have aj_:((n:Int)+1).toNat=n+1:=by omega
 have hin:i≤n:=by omega
 have hb2:¬ (c=i+1):=by omega
 have hb4:¬ (c=i):=by omega
 have dt:¬ ((c:Int)<(n:Int)+1):=by omega
 have Bf:(n:Int)+1≤(c:Int):=by omega
 have mr:(i:Int)≤(n:Int):=by omega
 have kU:(i:Int)≤(n:Int)+1:=by omega
 have gH:(i:Int)+1≤(n:Int)+1:=by omega
 have Th:i≤n+1:=by omega
 have mixed:prog.follows Departure.mixedOrders=true:=by kernel_rfl
 go_enter func116,ntmps116;go_wp2_with (simp only[hov]);go_region_law_o (refine step_copy_runI rfl _ _ 42 42 rfl _ _ (by simp[Act.eval,Act.put]) (by simp[Act.eval,Act.put]) (iQ.o _ (n-i) (n+1-i) (c-(i+1)) (c-i) rfl rfl) ?_);go_wp2_with fail;go_ret;exact⟨rfl,uJ.o,aO.o⟩
theorem aka(base n i c vb g:Nat)(xs vs:List Value)(w:World)(Tv:TypeId)(h1:∀u∈xs,u.oneCell'=true)(jm:∀u∈vs,u.oneCell'=true)(hown:w.ownsRow base 48 3 (.slice (some ⟨g,0,none⟩) n c) n xs)(hi:i<n)(hn:n≤1000000000)(hroom:c<n+1)(hz:vs.length=3)
 (hv:w.heap[vb]?=some (.cells vs.toArray Tv (0,0))) (hvb:vb≠g) (hbase:base≤w.heap.size) :
 Calls prog 116 #[.slice (some ⟨g,0,none⟩) n c,.int .i64 i,.slice (some ⟨vb,0,none⟩) 1 1] w fun e w'=>∃A' c',e=.returned (.slice A' (n+1:Nat) c')∧w'.ownsRow base 48 3 (.slice A' (n+1) c') (n+1) (xs.take (i*3)++vs++xs.drop (i*3))∧w.grownBy w' none∧Value.ownBlock (.slice A' (n+1) c')=some w.heap.size:=by
 obtain⟨g',cur,hA,hb,hg,hnc,hcm,hcs,ht,hl⟩:=mP hown (by omega);injection hA with hA;injection hA with hA _;subst hA;obtain⟨i0,hi0,hz0,hzs,hzb⟩:=info_parts Gw;have bG:(i+1)*3≤n*3:=iu _ hi;have hcm2:c≤9223372036854775807:=by unfold maxLen at hcm;omega
 have dE:(xs.drop (i*3)).length=n*3-i*3:=by rw[iI,hl]
 have htl:(xs.take (i*3)).length=i*3:=by rw[eD,hl];omega
 have hsz:(prog.info? 48).map (·.size)=some 3:=by kernel_rfl
 have i7:g<w.heap.size:=(pn.1 hg).1;have Ti:vb<w.heap.size:=(pn.1 hv).1;have hkk:(n:Int)+1-(i:Int)=((n+1-i:Nat):Int):=by omega
 have hik:i+(n+1-i)=n+1:=by omega
 have hold:(Builtin.firstCells i0.size i (.slice (some ⟨g,0,none⟩) i c)).run prog w.drew=.ok (xs.take (i*3)).toArray w.drew:=by
  rw[hzs];exact MN w.drew 3 i ⟨g,0,none⟩ i c (xs.take (i*3)) htl (fun j v hj=>by
   rw[add_lit,dg];rw[Cn] at hj;split at hj
   ·exact vC (w:=w.drew) hg ht j v hj
   cases hj)
 have x_:∀ty,(Builtin.append_ #[42,3] ty #[.slice (some ⟨g,0,none⟩) i c,.int .i64 ((n:Int)+1-(i:Int))]).run prog w =
  .ok (.slice (some ⟨w.heap.size,0,none⟩) (n+1) (grownCap w (n+1) c 48)) (w.drew.alloc (.cells ((xs.take (i*3)).toArray++Builtin.zeroCells (Value.agg #[.string ⟨#[]⟩,.slice none 0 0,.slice none 0 0]).cells (n+1-i)++Builtin.zeroCells (Value.agg #[.string ⟨#[]⟩,.slice none 0 0,.slice none 0 0]).cells (grownCap w (n+1) c 48-(n+1))) 48)):=fun ty=>by
  have h:=Lib.run_append_grow_zeros (P:=prog) w 42 3 ty 48 i0 _ .i64 .i64 mq (by kernel_rfl) hi0 hz0 (some ⟨g,0,none⟩) i c (xs.take (i*3)) hold (n+1-i) (by omega) (by omega) (by omega) (by omega) (by rw[hzb];omega) (by rw[hzb,hik];exact Jg hroom (by omega));rw[hik] at h;rw[hkk];exact h
 obtain⟨G,hG⟩:∃G,G=grownCap w (n+1) c 48:=⟨_,rfl⟩;have Tj:n+1≤G:=by rw[hG];exact grownCap_ge w _ _ _
 have xP:G≤maxLen:=by rw[hG];exact grownCap_le_maxLen w _ _ _ (by unfold maxLen;omega)
 rw[← hG] at x_;obtain⟨ROW,ya⟩:∃ROW:Array Value,ROW=(xs.take (i*3)).toArray++Builtin.zeroCells (Value.agg #[.string ⟨#[]⟩,.slice none 0 0,.slice none 0 0]).cells (n+1-i)++Builtin.zeroCells (Value.agg #[.string ⟨#[]⟩,.slice none 0 0,.slice none 0 0]).cells (G-(n+1)):=⟨_,rfl⟩;rw[← ya] at x_;have oX:ROW.size=G*3:=by
  rw[ya];simp only[ML,Builtin.zeroCells,Value.cells,Jf,htl,Array.size_map,Array.size_range,aU,bn];omega
 have I4:ROW.toList.take (i*3)=xs.take (i*3):=by
  rw[ya];simp only[MM,mE];rw[EW htl]
 obtain⟨W1,hW1⟩:∃W1,W1=(w.alloc (.cells ROW 48)).drew:=⟨_,rfl⟩;have yb:W1.heap=w.heap.push (.cells ROW 48):=by rw[hW1];rfl
 have Tk:W1.heap.size=w.heap.size+1:=by rw[yb,Array.size_push]
 have hN:W1.heap[w.heap.size]?=some (.cells ROW 48 (0,0)):=by rw[yb];simp
 have hO:∀k,k<w.heap.size→W1.heap[k]?=w.heap[k]?:=fun k hk=>by
  rw[yb];simp[Array.getElem?_push,Nat.ne_of_lt hk]
 have Tm:∀ty dc,(Builtin.copy_ #[42,42] ty #[.slice (some ⟨w.heap.size,i*3,none⟩) (n+1-i) dc,.slice (some ⟨vb,0,none⟩) 1 1]).run prog W1=.ok (goInt (1:Nat)) (W1.setCells w.heap.size (i*3) vs):=fun ty dc=>by
  have hmin:Nat.min 1 (n+1-i)=1:=by show min _ _=_;omega
  have h:=zt (P:=prog) W1 42 42 ty 48 3 w.heap.size (i*3) (n+1-i) dc ⟨vb,0,none⟩ 1 1 vs mq hsz (by rw[hz,hmin])
   (fun j v hj=>by rw[add_lit,uM W1 vb _ _ Tv (0,0) ((hO vb Ti).trans hv)];simpa using hj)
   (fun j hj=>(mn hN _ (by rw[oX];omega)).1) (fun j hj=>(mn hN _ (by rw[oX];omega)).2) jm
  rw[hmin] at h;exact h
 obtain⟨c1,BS,hs2,-⟩:=xE (o:=i*3) hN vs (by rw[oX];omega);have hg2:(W1.setCells w.heap.size (i*3) vs).heap[g]?=some (.cells cur 48 (0,0)):=by
  rw[(mH w.heap.size _ rfl _ W1 _).block g (by omega) (by intro h;injection h with h;omega),hO g i7];exact hg
 have BV:∀ty m1 m2 dc sc,m1=n-i→m2=n-i→(Builtin.copy_ #[42,42] ty #[.slice (some ⟨w.heap.size,(i+1)*3,none⟩) m1 dc,.slice (some ⟨g,i*3,none⟩) m2 sc]).run prog (W1.setCells w.heap.size (i*3) vs).drew=.ok (goInt (n-i:Nat)) ((W1.setCells w.heap.size (i*3) vs).drew.setCells w.heap.size ((i+1)*3) (xs.drop (i*3))):=fun ty m1 m2 dc sc bG hm2=>by
  have hmin:Nat.min m2 m1=n-i:=by show min _ _=_;omega
  have h:=zt (P:=prog) (W1.setCells w.heap.size (i*3) vs).drew 42 42 ty 48 3 w.heap.size ((i+1)*3) m1 dc ⟨g,i*3,none⟩ m2 sc (xs.drop (i*3)) mq hsz (by rw[dE,hmin];omega)
   (fun j v hj=>by rw[add_lit];rw[wC] at hj;exact vC (w:=(W1.setCells w.heap.size (i*3) vs).drew) hg2 ht _ v hj)
   (fun j hj=>(mn (w:=(W1.setCells w.heap.size (i*3) vs).drew) BS _ (by rw[hs2,oX];omega)).1) (fun j hj=>(mn (w:=(W1.setCells w.heap.size (i*3) vs).drew) BS _ (by rw[hs2,oX];omega)).2) (fun v hv=>h1 v (qY hv))
  rw[hmin] at h;exact h
 have uJ:=aa (ZB (base:=base) hN (by omega) oX I4 hl hz hi Tj xP);have aO:=aa (show w.grownBy ((W1.setCells w.heap.size (i*3) vs).drew.setCells w.heap.size ((i+1)*3) (xs.drop (i*3))) none by
  have hs1:(W1.setCells w.heap.size (i*3) vs).heap.size≥w.heap.size:=a_ (by omega) (mH w.heap.size _ rfl _ W1 _).size;have e1:w.grownBy W1 (some w.heap.size):=⟨by rw[hW1];rfl,by rw[hW1];rfl,by rw[hW1];rfl,by omega,fun k hk _=>hO k hk⟩;have e2:W1.grownBy (W1.setCells w.heap.size (i*3) vs) (some w.heap.size):=mH w.heap.size _ rfl _ W1 _;have e3:(W1.setCells w.heap.size (i*3) vs).grownBy ((W1.setCells w.heap.size (i*3) vs).drew.setCells w.heap.size ((i+1)*3) (xs.drop (i*3))) (some w.heap.size):=LS (mH w.heap.size _ rfl _ _ _);have e4:=(e1.trans e2).trans e3;exact⟨e4.os,e4.tape,e4.output,e4.size,fun k hk _=>e4.block k hk (by intro h;injection h with h;omega)⟩)
 have hGi:¬ (G=i):=by omega
 have akb:¬ (G=i+1):=by omega
 have akc:G≤9223372036854775807:=by unfold maxLen at xP;omega
 rw[hW1] at uJ aO Tm BV;have HB:=aa BV;have Tn:=aa x_;clear hown yb Tk hg hg2 hN BS hs2 hO hW1 W1 ht hl dE htl hcs hcm h1 jm bG hv hsz hz oX I4 ya hG hold x_ hkk hik hi0 hz0 hzs hzb xP BV;have hz2:¬ ((i:Int)=(n:Int)):=by omega
 have hz3:(c:Int)<(n:Int)+1:=by omega
 have FM:¬ (c=i):=by omega
 have hw1:IntKind.i64.wrap ((i:Int)+1)=(i:Int)+1:=by rw[cZ];omega
 have hw2:IntKind.i64.wrap ((n:Int)+1)=(n:Int)+1:=by rw[cZ];omega
 have hw3:IntKind.i64.wrap ((n:Int)+1-(i:Int))=(n:Int)+1-(i:Int):=by rw[cZ];omega
 have hb1:(0:Int)≤(i:Int)+1:=by omega
 have htn:((i:Int)+1).toNat=i+1:=by omega
 have hin:i≤n:=by omega
 have R_:i≤c:=by omega
 have hb3:(i:Int)≤(n:Int):=by omega
 have kU:(i:Int)≤(n:Int)+1:=by omega
 have gH:(i:Int)+1≤(n:Int)+1:=by omega
 have Th:i≤n+1:=by omega
 have su:i≤G:=by omega
 have mixed:prog.follows Departure.mixedOrders=true:=by kernel_rfl
 go_enter func116,ntmps116;go_wp2_with (at_builtin;refine Lib.wpList_append_run _ rfl _ _ _ _ rfl _ _ rfl rfl _ _ (Tn.o _) ?_);go_region_law_o (refine step_copy_runI rfl _ _ 42 42 rfl _ _ (by simp[Act.eval,Act.put]) (by simp[Act.eval,Act.put]) (HB.o _ (n-i) (n-i) (G-(i+1)) (c-i) rfl rfl) ?_);go_wp2_with fail;go_ret;exact⟨_,_,rfl,uJ.o,aO.o,rfl⟩
theorem Xy(base n i c vb:Nat)(A:Option Addr)(xs vs:List Value)(w:World)(Tv:TypeId)(h1:∀u∈xs,u.oneCell'=true)(jm:∀u∈vs,u.oneCell'=true)(hown:w.ownsRow base 48 3 (.slice A n c) n xs)(hi:i≤n)(hn:n≤1000000000)(hz:vs.length=3)
 (hv:w.heap[vb]?=some (.cells vs.toArray Tv (0,0))) (hvb:Value.ownBlock (.slice A n c)≠some vb) (hbase:base≤w.heap.size) :
 Calls prog 116 #[.slice A n c,.int .i64 i,.slice (some ⟨vb,0,none⟩) 1 1] w fun e w'=>∃A' c',e=.returned (.slice A' (n+1:Nat) c')∧w'.ownsRow base 48 3 (.slice A' (n+1) c') (n+1) (xs.take (i*3)++vs++xs.drop (i*3))∧w.grownBy w' (Value.ownBlock (.slice A n c)) ∧
  (Value.ownBlock (.slice A' (n+1) c')=Value.ownBlock (.slice A n c)∨Value.ownBlock (.slice A' (n+1) c')=some w.heap.size):=by
 rcases dH i n with hlt | hge
 ·obtain⟨g,cur,rfl,hb,hg,hnc,hcm,hcs,ht,hl⟩:=mP hown (by omega);have Et:vb≠g:=fun h=>hvb (by rw[h];rfl)
  rcases dH c (n+1) with hr | hr
  ·refine(aka base n i c vb g xs vs w Tv h1 jm hown hlt hn hr hz hv Et hbase).mono ?_;rintro e w' ⟨A',c',he,ho,hgr,hA⟩;exact⟨A',c',he,ho,⟨hgr.os,hgr.tape,hgr.output,hgr.size,fun k hk _=>hgr.block k hk (by intro h;cases h)⟩,.inr hA⟩
  refine(aj7 base n i c vb g xs vs w Tv h1 jm hown hlt hn hr hz hv Et).mono ?_;rintro e w' ⟨he,ho,hgr⟩;exact⟨_,_,he,ho,hgr,.inl rfl⟩
 obtain rfl:i=n:=by omega
 have hl:xs.length=i*3:=hown.1;rw[pV (by omega),Jl (by omega),mD];exact aj6 base i c vb A xs vs w Tv jm hown hn hz hv hbase
theorem akd(base n c vb:Nat)(A:Option Addr)(xs vs:List Value)(w:World)(Tv:TypeId)(jm:∀u∈vs,u.oneCell'=true)(hown:w.ownsRow base 27 5 (.slice A n c) n xs)(hn:n≤1000000000)(hz:vs.length=5)
 (hv:w.heap[vb]?=some (.cells vs.toArray Tv (0,0))) (hbase:base≤w.heap.size) :
 Calls prog 121 #[.slice A n c,.int .i64 n,.slice (some ⟨vb,0,none⟩) 1 1] w fun e w'=>∃A' c',e=.returned (.slice A' (n+1:Nat) c')∧w'.ownsRow base 27 5 (.slice A' (n+1) c') (n+1) (xs++vs)∧w.grownBy w' (Value.ownBlock (.slice A n c)) ∧
  (Value.ownBlock (.slice A' (n+1) c')=Value.ownBlock (.slice A n c)∨Value.ownBlock (.slice A' (n+1) c')=some w.heap.size):=by
 have hc:c≤maxLen:=by
  obtain⟨-,⟨hq,-,-⟩ | ⟨g,cap,cur,hq,-,-,-,hcm,-⟩⟩:=hown
  ·injection hq with _ _ h3;rw[h3];exact aS _
  injection hq with _ _ h3;rw[h3];exact hcm
 have hc2:n≤c:=by
  obtain⟨-,⟨hq,-,-⟩ | ⟨g,cap,cur,hq,-,-,hnc,-,-⟩⟩:=hown
  ·injection hq with _ h2 _;rw[h2];exact aS _
  injection hq with _ _ h3;rw[h3];exact hnc
 have hcc:c≤9223372036854775807:=by unfold maxLen at hc;omega
 clear hc;obtain⟨i0,hi0,hz0,hz1,hz2⟩:=info_parts Rm;have fX:=aa hi0;have fY:=aa hz0;have fZ:=aa hz1;have f_:=aa hz2;have HS:=aa (Src.ofSlice (P:=prog) (size:=5) w sA ⟨vb,0,none⟩ 1 1 vs (by omega) (fun j u hu=>by rw[add_lit,uM w vb _ _ Tv (0,0) hv];simpa using hu) jm);have HO:=aa hown;clear hi0 hz0 hz1 hz2 hown hv jm;rcases Decidable.em (c=n) with hcn | hcn
 case' inl=>replace hcn:=hcn.symm;subst hcn
 all_goals
  go_enter func121,ntmps121
  go_wp2_with (at_builtin;refine sO rfl (.tmp 23) (.tmp 24) 24 24 rfl base 27 i0 _ 5 88 sA fX.o fY.o fZ.o f_.o rfl (.slice A n _) n xs rfl HO.o _ 1 vs rfl HS.o (by omega) (by simp only[maxLen];omega) hbase ?_;intro A3 c3 w3 gA pP ux;have g_:=aa gA;have aJ:=aa pP;have BN:=aa ux;clear gA pP ux)
  all_goals
   go_ret
   exact⟨A3,c3,rfl,g_.o,aJ.o,BN.o⟩
theorem ake(base n i c vb g:Nat)(xs vs:List Value)(w:World)(Tv:TypeId)(h1:∀u∈xs,u.oneCell'=true)(jm:∀u∈vs,u.oneCell'=true)(hown:w.ownsRow base 27 5 (.slice (some ⟨g,0,none⟩) n c) n xs)(hi:i<n)(hn:n≤1000000000)(hroom:n+1≤c)(hz:vs.length=5)
 (hv:w.heap[vb]?=some (.cells vs.toArray Tv (0,0))) (hvb:vb≠g) :
 Calls prog 121 #[.slice (some ⟨g,0,none⟩) n c,.int .i64 i,.slice (some ⟨vb,0,none⟩) 1 1] w fun e w'=>e=.returned (.slice (some ⟨g,0,none⟩) (n+1:Nat) c)∧w'.ownsRow base 27 5 (.slice (some ⟨g,0,none⟩) (n+1) c) (n+1) (xs.take (i*5)++vs++xs.drop (i*5))∧w.grownBy w' (some g):=by
 obtain⟨g',cur,hA,hb,hg,hnc,hcm,hcs,ht,hl⟩:=mP hown (by omega);injection hA with hA;injection hA with hA _;subst hA;have bG:(i+1)*5≤n*5:=iu _ hi;have hm2:(n+1)*5≤c*5:=iu _ hroom;have hcm2:c≤9223372036854775807:=by unfold maxLen at hcm;omega
 have dE:(xs.drop (i*5)).length=n*5-i*5:=by rw[iI,hl]
 have hsz:(prog.info? 27).map (·.size)=some 5:=by kernel_rfl
 have hov:∀ab lb cb,(callFunc 168 #[.slice (some ⟨vb,0,none⟩) 1 1,.slice (some ⟨g,ab,none⟩) lb cb]).run prog w=.ok (.value (.bool false)) w:=fun ab lb cb=>by
  rw[run_callFunc_extern (fn:=f168) (by kernel_rfl) (by kernel_rfl) (by kernel_rfl) (by kernel_rfl) (e:=Extern.SlicesOverlaps.overlaps #[24,24] #[4]) (by kernel_rfl),
   Lib.run_overlaps_apart w 24 4 27 sA 5 (fun _=>rfl) ⟨vb,0,none⟩ ⟨g,ab,none⟩ 1 1 lb cb hvb Tv 27 vs.toArray.size cur.size (by simp[World.shape?,hv]) (by simp[World.shape?,hg]) (by rw[hcs];omega) (by simp[World.frozen?,hv]) (by simp[World.frozen?,hv])]
  rfl
 have I0:∀ty m1 m2 dc sc,m1=n-i→m2=n+1-i→(Builtin.copy_ #[24,24] ty #[.slice (some ⟨g,(i+1)*5,none⟩) m1 dc,.slice (some ⟨g,i*5,none⟩) m2 sc]).run prog w.drew=.ok (goInt (n-i:Nat)) (w.drew.setCells g ((i+1)*5) (xs.drop (i*5))):=fun ty m1 m2 dc sc bG hm2=>by
  have hmin:Nat.min m2 m1=n-i:=by show min _ _=_;omega
  have h:=zt (P:=prog) w.drew 24 24 ty 27 5 g ((i+1)*5) m1 dc ⟨g,i*5,none⟩ m2 sc (xs.drop (i*5)) sA hsz (by rw[dE,hmin];omega)
   (fun j v hj=>by rw[add_lit];rw[wC] at hj;exact vC (w:=w.drew) hg ht _ v hj)
   (fun j hj=>(mn (w:=w.drew) hg _ (by rw[hcs];omega)).1) (fun j hj=>(mn (w:=w.drew) hg _ (by rw[hcs];omega)).2) (fun v hv=>h1 v (qY hv))
  rw[hmin] at h;exact h
 obtain⟨W1,hW1⟩:∃W1,w.drew.setCells g ((i+1)*5) (xs.drop (i*5))=W1:=⟨_,rfl⟩;obtain⟨c1,hg1,hs1,-⟩:=xE (w:=w.drew) (o:=(i+1)*5) hg (xs.drop (i*5)) (by rw[dE,hcs];omega);have hv1:W1.heap[vb]?=some (.cells vs.toArray Tv (0,0)):=by
  rw[← hW1,(mH g _ rfl _ w.drew _).block vb (pn.1 hv).1 (by intro h;injection h with h;exact hvb h)];exact hv
 rw[hW1] at hg1;have I3:∀ty dc,(Builtin.copy_ #[24,24] ty #[.slice (some ⟨g,i*5,none⟩) (n+1-i) dc,.slice (some ⟨vb,0,none⟩) 1 1]).run prog W1=.ok (goInt (1:Nat)) (W1.setCells g (i*5) vs):=fun ty dc=>by
  have hmin:Nat.min 1 (n+1-i)=1:=by show min _ _=_;omega
  have h:=zt (P:=prog) W1 24 24 ty 27 5 g (i*5) (n+1-i) dc ⟨vb,0,none⟩ 1 1 vs sA hsz (by rw[hz,hmin])
   (fun j v hj=>by rw[add_lit,uM W1 vb _ _ Tv (0,0) hv1];simpa using hj)
   (fun j hj=>(mn hg1 _ (by rw[hs1,hcs];omega)).1) (fun j hj=>(mn hg1 _ (by rw[hs1,hcs];omega)).2) jm
  rw[hmin] at h;exact h
 have uJ:=aa (show (W1.setCells g (i*5) vs).ownsRow base 27 5 (.slice (some ⟨g,0,none⟩) (n+1) c) (n+1) (xs.take (i*5)++vs++xs.drop (i*5)) by
  rw[← hW1];exact ZA (w:=w.drew) hown i hi hroom hz)
 have aO:=aa (show w.grownBy (W1.setCells g (i*5) vs) (some g) by
  rw[← hW1];exact LS (World.grownBy.trans (mH g _ rfl _ w.drew _) (mH g _ rfl _ _ _)))
 have iQ:=aa I0;have aj8:∀ty dc,(Builtin.copy_ #[24,24] ty #[.slice (some ⟨g,i*5,none⟩) (n+1-i) dc,.slice (some ⟨vb,0,none⟩) 1 1]).run prog (w.drew.setCells g ((i+1)*5) (xs.drop (i*5)))=.ok (goInt (1:Nat)) ((w.drew.setCells g ((i+1)*5) (xs.drop (i*5))).setCells g (i*5) vs):=by
  rw[hW1];exact I3
 rw[← hW1] at uJ aO;clear hown hg hg1 hs1 I3 hv1 hW1 ht hl dE hcs hcm h1 jm bG hm2 hv I0 hsz hz W1;have hz2:¬ ((i:Int)=(n:Int)):=by omega
 have hw1:IntKind.i64.wrap ((i:Int)+1)=(i:Int)+1:=by rw[cZ];omega
 have hw2:IntKind.i64.wrap ((n:Int)+1)=(n:Int)+1:=by rw[cZ];omega
 have hb1:(0:Int)≤(i:Int)+1:=by omega
 have aj9:(0:Int)≤(n:Int)+1:=by omega
 have htn:((i:Int)+1).toNat=i+1:=by omega
 have aj_:((n:Int)+1).toNat=n+1:=by omega
 have hin:i≤n:=by omega
 have hb2:¬ (c=i+1):=by omega
 have hb4:¬ (c=i):=by omega
 have dt:¬ ((c:Int)<(n:Int)+1):=by omega
 have Bf:(n:Int)+1≤(c:Int):=by omega
 have mr:(i:Int)≤(n:Int):=by omega
 have kU:(i:Int)≤(n:Int)+1:=by omega
 have gH:(i:Int)+1≤(n:Int)+1:=by omega
 have Th:i≤n+1:=by omega
 have mixed:prog.follows Departure.mixedOrders=true:=by kernel_rfl
 go_enter func121,ntmps121;go_wp2_with (simp only[hov]);go_region_law_o (refine step_copy_runI rfl _ _ 24 24 rfl _ _ (by simp[Act.eval,Act.put]) (by simp[Act.eval,Act.put]) (iQ.o _ (n-i) (n+1-i) (c-(i+1)) (c-i) rfl rfl) ?_);go_wp2_with fail;go_ret;exact⟨rfl,uJ.o,aO.o⟩
theorem akf(base n i c vb g:Nat)(xs vs:List Value)(w:World)(Tv:TypeId)(h1:∀u∈xs,u.oneCell'=true)(jm:∀u∈vs,u.oneCell'=true)(hown:w.ownsRow base 27 5 (.slice (some ⟨g,0,none⟩) n c) n xs)(hi:i<n)(hn:n≤1000000000)(hroom:c<n+1)(hz:vs.length=5)
 (hv:w.heap[vb]?=some (.cells vs.toArray Tv (0,0))) (hvb:vb≠g) (hbase:base≤w.heap.size) :
 Calls prog 121 #[.slice (some ⟨g,0,none⟩) n c,.int .i64 i,.slice (some ⟨vb,0,none⟩) 1 1] w fun e w'=>∃A' c',e=.returned (.slice A' (n+1:Nat) c')∧w'.ownsRow base 27 5 (.slice A' (n+1) c') (n+1) (xs.take (i*5)++vs++xs.drop (i*5))∧w.grownBy w' none∧Value.ownBlock (.slice A' (n+1) c')=some w.heap.size:=by
 obtain⟨g',cur,hA,hb,hg,hnc,hcm,hcs,ht,hl⟩:=mP hown (by omega);injection hA with hA;injection hA with hA _;subst hA;obtain⟨i0,hi0,hz0,hzs,hzb⟩:=info_parts Rm;have bG:(i+1)*5≤n*5:=iu _ hi;have hcm2:c≤9223372036854775807:=by unfold maxLen at hcm;omega
 have dE:(xs.drop (i*5)).length=n*5-i*5:=by rw[iI,hl]
 have htl:(xs.take (i*5)).length=i*5:=by rw[eD,hl];omega
 have hsz:(prog.info? 27).map (·.size)=some 5:=by kernel_rfl
 have i7:g<w.heap.size:=(pn.1 hg).1;have Ti:vb<w.heap.size:=(pn.1 hv).1;have hkk:(n:Int)+1-(i:Int)=((n+1-i:Nat):Int):=by omega
 have hik:i+(n+1-i)=n+1:=by omega
 have hold:(Builtin.firstCells i0.size i (.slice (some ⟨g,0,none⟩) i c)).run prog w.drew=.ok (xs.take (i*5)).toArray w.drew:=by
  rw[hzs];exact MN w.drew 5 i ⟨g,0,none⟩ i c (xs.take (i*5)) htl (fun j v hj=>by
   rw[add_lit,dg];rw[Cn] at hj;split at hj
   ·exact vC (w:=w.drew) hg ht j v hj
   cases hj)
 have x_:∀ty,(Builtin.append_ #[24,3] ty #[.slice (some ⟨g,0,none⟩) i c,.int .i64 ((n:Int)+1-(i:Int))]).run prog w =
  .ok (.slice (some ⟨w.heap.size,0,none⟩) (n+1) (grownCap w (n+1) c 27)) (w.drew.alloc (.cells ((xs.take (i*5)).toArray++Builtin.zeroCells (Value.agg #[.int .i64 0,.int .u64 0,.slice none 0 0,.slice none 0 0,.slice none 0 0]).cells (n+1-i)++Builtin.zeroCells (Value.agg #[.int .i64 0,.int .u64 0,.slice none 0 0,.slice none 0 0,.slice none 0 0]).cells (grownCap w (n+1) c 27-(n+1))) 27)):=fun ty=>by
  have h:=Lib.run_append_grow_zeros (P:=prog) w 24 3 ty 27 i0 _ .i64 .i64 sA (by kernel_rfl) hi0 hz0 (some ⟨g,0,none⟩) i c (xs.take (i*5)) hold (n+1-i) (by omega) (by omega) (by omega) (by omega) (by rw[hzb];omega) (by rw[hzb,hik];exact Jg hroom (by omega));rw[hik] at h;rw[hkk];exact h
 obtain⟨G,hG⟩:∃G,G=grownCap w (n+1) c 27:=⟨_,rfl⟩;have Tj:n+1≤G:=by rw[hG];exact grownCap_ge w _ _ _
 have xP:G≤maxLen:=by rw[hG];exact grownCap_le_maxLen w _ _ _ (by unfold maxLen;omega)
 rw[← hG] at x_;obtain⟨ROW,ya⟩:∃ROW:Array Value,ROW=(xs.take (i*5)).toArray++Builtin.zeroCells (Value.agg #[.int .i64 0,.int .u64 0,.slice none 0 0,.slice none 0 0,.slice none 0 0]).cells (n+1-i)++Builtin.zeroCells (Value.agg #[.int .i64 0,.int .u64 0,.slice none 0 0,.slice none 0 0,.slice none 0 0]).cells (G-(n+1)):=⟨_,rfl⟩;rw[← ya] at x_;have oX:ROW.size=G*5:=by
  rw[ya];simp only[ML,Builtin.zeroCells,Value.cells,Jf,htl,Array.size_map,Array.size_range,aU,bn];omega
 have I4:ROW.toList.take (i*5)=xs.take (i*5):=by
  rw[ya];simp only[MM,mE];rw[EW htl]
 obtain⟨W1,hW1⟩:∃W1,W1=(w.alloc (.cells ROW 27)).drew:=⟨_,rfl⟩;have yb:W1.heap=w.heap.push (.cells ROW 27):=by rw[hW1];rfl
 have Tk:W1.heap.size=w.heap.size+1:=by rw[yb,Array.size_push]
 have hN:W1.heap[w.heap.size]?=some (.cells ROW 27 (0,0)):=by rw[yb];simp
 have hO:∀k,k<w.heap.size→W1.heap[k]?=w.heap[k]?:=fun k hk=>by
  rw[yb];simp[Array.getElem?_push,Nat.ne_of_lt hk]
 have Tm:∀ty dc,(Builtin.copy_ #[24,24] ty #[.slice (some ⟨w.heap.size,i*5,none⟩) (n+1-i) dc,.slice (some ⟨vb,0,none⟩) 1 1]).run prog W1=.ok (goInt (1:Nat)) (W1.setCells w.heap.size (i*5) vs):=fun ty dc=>by
  have hmin:Nat.min 1 (n+1-i)=1:=by show min _ _=_;omega
  have h:=zt (P:=prog) W1 24 24 ty 27 5 w.heap.size (i*5) (n+1-i) dc ⟨vb,0,none⟩ 1 1 vs sA hsz (by rw[hz,hmin])
   (fun j v hj=>by rw[add_lit,uM W1 vb _ _ Tv (0,0) ((hO vb Ti).trans hv)];simpa using hj)
   (fun j hj=>(mn hN _ (by rw[oX];omega)).1) (fun j hj=>(mn hN _ (by rw[oX];omega)).2) jm
  rw[hmin] at h;exact h
 obtain⟨c1,BS,hs2,-⟩:=xE (o:=i*5) hN vs (by rw[oX];omega);have hg2:(W1.setCells w.heap.size (i*5) vs).heap[g]?=some (.cells cur 27 (0,0)):=by
  rw[(mH w.heap.size _ rfl _ W1 _).block g (by omega) (by intro h;injection h with h;omega),hO g i7];exact hg
 have BV:∀ty m1 m2 dc sc,m1=n-i→m2=n-i→(Builtin.copy_ #[24,24] ty #[.slice (some ⟨w.heap.size,(i+1)*5,none⟩) m1 dc,.slice (some ⟨g,i*5,none⟩) m2 sc]).run prog (W1.setCells w.heap.size (i*5) vs).drew=.ok (goInt (n-i:Nat)) ((W1.setCells w.heap.size (i*5) vs).drew.setCells w.heap.size ((i+1)*5) (xs.drop (i*5))):=fun ty m1 m2 dc sc bG hm2=>by
  have hmin:Nat.min m2 m1=n-i:=by show min _ _=_;omega
  have h:=zt (P:=prog) (W1.setCells w.heap.size (i*5) vs).drew 24 24 ty 27 5 w.heap.size ((i+1)*5) m1 dc ⟨g,i*5,none⟩ m2 sc (xs.drop (i*5)) sA hsz (by rw[dE,hmin];omega)
   (fun j v hj=>by rw[add_lit];rw[wC] at hj;exact vC (w:=(W1.setCells w.heap.size (i*5) vs).drew) hg2 ht _ v hj)
   (fun j hj=>(mn (w:=(W1.setCells w.heap.size (i*5) vs).drew) BS _ (by rw[hs2,oX];omega)).1) (fun j hj=>(mn (w:=(W1.setCells w.heap.size (i*5) vs).drew) BS _ (by rw[hs2,oX];omega)).2) (fun v hv=>h1 v (qY hv))
  rw[hmin] at h;exact h
 have uJ:=aa (ZB (base:=base) hN (by omega) oX I4 hl hz hi Tj xP);have aO:=aa (show w.grownBy ((W1.setCells w.heap.size (i*5) vs).drew.setCells w.heap.size ((i+1)*5) (xs.drop (i*5))) none by
  have hs1:(W1.setCells w.heap.size (i*5) vs).heap.size≥w.heap.size:=a_ (by omega) (mH w.heap.size _ rfl _ W1 _).size;have e1:w.grownBy W1 (some w.heap.size):=⟨by rw[hW1];rfl,by rw[hW1];rfl,by rw[hW1];rfl,by omega,fun k hk _=>hO k hk⟩;have e2:W1.grownBy (W1.setCells w.heap.size (i*5) vs) (some w.heap.size):=mH w.heap.size _ rfl _ W1 _;have e3:(W1.setCells w.heap.size (i*5) vs).grownBy ((W1.setCells w.heap.size (i*5) vs).drew.setCells w.heap.size ((i+1)*5) (xs.drop (i*5))) (some w.heap.size):=LS (mH w.heap.size _ rfl _ _ _);have e4:=(e1.trans e2).trans e3;exact⟨e4.os,e4.tape,e4.output,e4.size,fun k hk _=>e4.block k hk (by intro h;injection h with h;omega)⟩)
 have hGi:¬ (G=i):=by omega
 have akb:¬ (G=i+1):=by omega
 have akc:G≤9223372036854775807:=by unfold maxLen at xP;omega
 rw[hW1] at uJ aO Tm BV;have HB:=aa BV;have Tn:=aa x_;clear hown yb Tk hg hg2 hN BS hs2 hO hW1 W1 ht hl dE htl hcs hcm h1 jm bG hv hsz hz oX I4 ya hG hold x_ hkk hik hi0 hz0 hzs hzb xP BV;have hz2:¬ ((i:Int)=(n:Int)):=by omega
 have hz3:(c:Int)<(n:Int)+1:=by omega
 have FM:¬ (c=i):=by omega
 have hw1:IntKind.i64.wrap ((i:Int)+1)=(i:Int)+1:=by rw[cZ];omega
 have hw2:IntKind.i64.wrap ((n:Int)+1)=(n:Int)+1:=by rw[cZ];omega
 have hw3:IntKind.i64.wrap ((n:Int)+1-(i:Int))=(n:Int)+1-(i:Int):=by rw[cZ];omega
 have hb1:(0:Int)≤(i:Int)+1:=by omega
 have htn:((i:Int)+1).toNat=i+1:=by omega
 have hin:i≤n:=by omega
 have R_:i≤c:=by omega
 have hb3:(i:Int)≤(n:Int):=by omega
 have kU:(i:Int)≤(n:Int)+1:=by omega
 have gH:(i:Int)+1≤(n:Int)+1:=by omega
 have Th:i≤n+1:=by omega
 have su:i≤G:=by omega
 have mixed:prog.follows Departure.mixedOrders=true:=by kernel_rfl
 go_enter func121,ntmps121;go_wp2_with (at_builtin;refine Lib.wpList_append_run _ rfl _ _ _ _ rfl _ _ rfl rfl _ _ (Tn.o _) ?_);go_region_law_o (refine step_copy_runI rfl _ _ 24 24 rfl _ _ (by simp[Act.eval,Act.put]) (by simp[Act.eval,Act.put]) (HB.o _ (n-i) (n-i) (G-(i+1)) (c-i) rfl rfl) ?_);go_wp2_with fail;go_ret;exact⟨_,_,rfl,uJ.o,aO.o,rfl⟩
theorem ag2(base n i c vb:Nat)(A:Option Addr)(xs vs:List Value)(w:World)(Tv:TypeId)(h1:∀u∈xs,u.oneCell'=true)(jm:∀u∈vs,u.oneCell'=true)(hown:w.ownsRow base 27 5 (.slice A n c) n xs)(hi:i≤n)(hn:n≤1000000000)(hz:vs.length=5)
 (hv:w.heap[vb]?=some (.cells vs.toArray Tv (0,0))) (hvb:Value.ownBlock (.slice A n c)≠some vb) (hbase:base≤w.heap.size) :
 Calls prog 121 #[.slice A n c,.int .i64 i,.slice (some ⟨vb,0,none⟩) 1 1] w fun e w'=>∃A' c',e=.returned (.slice A' (n+1:Nat) c')∧w'.ownsRow base 27 5 (.slice A' (n+1) c') (n+1) (xs.take (i*5)++vs++xs.drop (i*5))∧w.grownBy w' (Value.ownBlock (.slice A n c)) ∧
  (Value.ownBlock (.slice A' (n+1) c')=Value.ownBlock (.slice A n c)∨Value.ownBlock (.slice A' (n+1) c')=some w.heap.size):=by
 rcases dH i n with hlt | hge
 ·obtain⟨g,cur,rfl,hb,hg,hnc,hcm,hcs,ht,hl⟩:=mP hown (by omega);have Et:vb≠g:=fun h=>hvb (by rw[h];rfl)
  rcases dH c (n+1) with hr | hr
  ·refine(akf base n i c vb g xs vs w Tv h1 jm hown hlt hn hr hz hv Et hbase).mono ?_;rintro e w' ⟨A',c',he,ho,hgr,hA⟩;exact⟨A',c',he,ho,⟨hgr.os,hgr.tape,hgr.output,hgr.size,fun k hk _=>hgr.block k hk (by intro h;cases h)⟩,.inr hA⟩
  refine(ake base n i c vb g xs vs w Tv h1 jm hown hlt hn hr hz hv Et).mono ?_;rintro e w' ⟨he,ho,hgr⟩;exact⟨_,_,he,ho,hgr,.inl rfl⟩
 obtain rfl:i=n:=by omega
 have hl:xs.length=i*5:=hown.1;rw[pV (by omega),Jl (by omega),mD];exact akd base i c vb A xs vs w Tv jm hown hn hz hv hbase
end
end Go.Proofs.YtndjopkdbdcmdaaGreatDoor
