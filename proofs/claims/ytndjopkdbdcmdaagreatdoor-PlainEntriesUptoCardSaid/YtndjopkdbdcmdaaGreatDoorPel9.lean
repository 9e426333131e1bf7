/- Part 9 of the proof of pentries_card. -/
import Derived.Test.YtndjopkdbdcmdaaGreatDoorPel8
set_option linter.unusedVariables false
set_option linter.unusedSimpArgs false
set_option maxRecDepth 100000
set_option maxHeartbeats 12800000
open Go.Proofs.Tryz
namespace Go.Proofs.YtndjopkdbdcmdaaGreatDoor
section
open Go.RowKit Go.Shelf
theorem Gq(w:World)(b:Nat):(callFunc 188 #[.float .f64 b]).run prog w=.ok (.value (.int .u64 b)) w:=by kernel_rfl
theorem Tz(w:World):Calls prog 207 #[.int .i64 (-1)] w fun e w'=>e=.returned (.float .f64 18442240474082181120)∧w=w':=by
 have hb:=wh
 go_enter func207,ntmps207;go_wp2;go_ret;exact⟨rfl,rfl⟩
theorem aa8{f:Nat}{s:Bool}{m:Nat}{p:Int}(h:Ieee.double.read f=.number s m p):dX f=false:=by
 unfold dX;rw[Rb h];rfl
theorem aa9:dX 18442240474082181120=false:=by decide
theorem ak_(f:Nat)(s:Bool)(m:Nat)(p:Int)(hr:Ieee.double.read f=.number s m p)(hm:m≠0)(hp:-1074≤p)(hs:s=false)(hf:1≤f)(hf2:f≤18446744073709551616)(w:World) :
 Calls prog 206 #[.float .f64 f,.float .f64 18442240474082181120] w fun e w'=>e=.returned (.float .f64 (f-1))∧w=w':=by
 have hb:=wh
 have hb2:=Gq;have h1:=Rb hr;have h2:(FloatKind.f64.format.order f 18442240474082181120==some Ordering.eq)=false:=by
  show (Ieee.double.order f 18442240474082181120==some Ordering.eq)=false;rw[(LC hr).1];rfl
 have h3:(FloatKind.f64.format.order 18442240474082181120 f==some Ordering.gt)=false:=by
  show (Ieee.double.order 18442240474082181120 f==some Ordering.gt)=false;rw[(LC hr).2];rfl
 have h4:(FloatKind.f64.format.order f 0==some Ordering.eq)=false:=by
  show (Ieee.double.order f 0==some Ordering.eq)=false;rw[LD hr hm hp,hs];rfl
 have h4':(FloatKind.f64.format.order f 0==some Ordering.gt)=true:=by
  show (Ieee.double.order f 0==some Ordering.gt)=true;rw[LD hr hm hp,hs];rfl
 have h5:=aa8 hr;have h6:=aa9;have hw:IntKind.u64.wrap ((f:Int)-1)=(f:Int)-1:=by rw[IntKind.wrap_u64];omega
 have e1:((f:Int)-1).toNat=f-1:=by omega
 clear hr hs hm hp h1;go_enter func206,ntmps206;go_wp2_with (first
  | (go_at_call 140;refine(Ev f _).mono ?_;rintro e w' ⟨rfl,rfl⟩)
  | (go_at_call 140;refine(Ev 18442240474082181120 _).mono ?_;rintro e w' ⟨rfl,rfl⟩))
 go_ret;exact⟨by first | rfl | (congr 2;omega),rfl⟩
theorem ala(f:Nat)(s:Bool)(m:Nat)(p:Int)(hr:Ieee.double.read f=.number s m p)(hm:m≠0)(hp:-1074≤p)(hs:s=true)(hf2:f+1<18446744073709551616)(w:World) :
 Calls prog 206 #[.float .f64 f,.float .f64 18442240474082181120] w fun e w'=>e=.returned (.float .f64 (f+1))∧w=w':=by
 have hb:=wh
 have hb2:=Gq;have h1:=Rb hr;have h2:(FloatKind.f64.format.order f 18442240474082181120==some Ordering.eq)=false:=by
  show (Ieee.double.order f 18442240474082181120==some Ordering.eq)=false;rw[(LC hr).1];rfl
 have h3:(FloatKind.f64.format.order 18442240474082181120 f==some Ordering.gt)=false:=by
  show (Ieee.double.order 18442240474082181120 f==some Ordering.gt)=false;rw[(LC hr).2];rfl
 have h4:(FloatKind.f64.format.order f 0==some Ordering.eq)=false:=by
  show (Ieee.double.order f 0==some Ordering.eq)=false;rw[LD hr hm hp,hs];rfl
 have h4':(FloatKind.f64.format.order f 0==some Ordering.gt)=false:=by
  show (Ieee.double.order f 0==some Ordering.gt)=false;rw[LD hr hm hp,hs];rfl
 have h5:=aa8 hr;have h6:=aa9;have hw:IntKind.u64.wrap ((f:Int)+1)=(f:Int)+1:=by rw[IntKind.wrap_u64];omega
 have e1:((f:Int)+1).toNat=f+1:=by omega
 clear hr hs hm hp h1;go_enter func206,ntmps206;go_wp2_with (first
  | (go_at_call 140;refine(Ev f _).mono ?_;rintro e w' ⟨rfl,rfl⟩)
  | (go_at_call 140;refine(Ev 18442240474082181120 _).mono ?_;rintro e w' ⟨rfl,rfl⟩))
 go_ret;exact⟨by first | rfl | (congr 2;omega),rfl⟩
theorem alb(i:Int)(w:World)(h1:-9223372036854775808≤i)(h2:i≤9223372036854775807) :
 Calls prog 185 #[.int .i64 i] w fun e w'=>e=.returned (.tuple #[.float .f64 (fl i).1,.int .u64 ((fl i).2:Nat)])∧w=w':=by
 have hc:=Du i h1 h2;obtain⟨g,hg⟩:∃g,(fl i).1=g:=⟨_,rfl⟩;obtain⟨rest,hrest⟩:∃g,(fl i).2=g:=⟨_,rfl⟩;obtain⟨f0,rH⟩:∃f0,FloatKind.f64.nearest i=f0:=⟨_,rfl⟩;obtain⟨n,hn⟩:∃n,i-(rest:Int)=n:=⟨_,rfl⟩;rw[hg,hrest,rH,hn] at hc;rw[hg,hrest];clear hg hrest;have hv:=Mt g n hc.val;have hsm:=hc.small;have hlo:=hc.lo;have hhi:=hc.hi;have hsub:IntKind.u64.wrap (IntKind.u64.wrap i-IntKind.u64.wrap n)=(rest:Int):=by
  have e:=hc.eq;rw[IntKind.wrap_u64,IntKind.wrap_u64,IntKind.wrap_u64];omega
 have Ez:0<i→IntKind.u64.wrap (i-IntKind.u64.wrap n)=(rest:Int):=by
  have e:=hc.eq;intro hi;rw[IntKind.wrap_u64,IntKind.wrap_u64];omega
 have hlt:FloatKind.f64.format.order g 4890909195324358656=some Ordering.lt:=hc.lt;have hfi:floatOfInt FloatKind.f64 i=f0:=rH;have hd:decide (i<n)=false:=by simpa using hhi
 have hgb:=hc.bits;have hst:=hc.step;clear hc;clear hn rH;have hbb:=wh
 rcases hst with rfl | ⟨hpos,rfl,ho,s,m,p,hr,hm,hp,hs⟩ | ⟨hneg,rfl,⟨ho,n',hv',hn'⟩,s,m,p,hr,hm,hp,hs⟩
 ·by_cases hpos:0<i
  ·have alc:=Ez hpos;clear Ez;go_enter func185,ntmps185;go_wp2;go_ret2;exact⟨rfl,rfl⟩
  clear Ez;go_enter func185,ntmps185;go_wp2;go_ret2;exact⟨rfl,rfl⟩
 ·have HN:=aa (fun w=>ak_ (g+1) s m p hr hm hp hs (by omega) (by omega) w);rw[wG] at HN;have alc:=Ez hpos;clear hr hm hp hs Ez;rcases ho with ho | ⟨ho,n',hv',hn'⟩
  ·have ho':FloatKind.f64.format.order (g+1) 4890909195324358656=some Ordering.eq:=ho;clear ho;go_enter func185,ntmps185;go_wp2_with (first | (go_at_call 207;refine(Tz _).mono ?_;rintro e w' ⟨rfl,rfl⟩) | (go_at_call 206;refine(HN.o _).mono ?_;rintro e w' ⟨rfl,rfl⟩));go_ret2;exact⟨rfl,rfl⟩
  have ho':FloatKind.f64.format.order (g+1) 4890909195324358656=some Ordering.lt:=ho;have hv2:=Mt (g+1) n' hv';have hd2:decide (i<n')=true:=by simpa using hn'
  clear ho hv';go_enter func185,ntmps185;go_wp2_with (first | (go_at_call 207;refine(Tz _).mono ?_;rintro e w' ⟨rfl,rfl⟩) | (go_at_call 206;refine(HN.o _).mono ?_;rintro e w' ⟨rfl,rfl⟩));go_ret2;exact⟨rfl,rfl⟩
 have HN:=aa (fun w=>ala f0 s m p hr hm hp hs (by omega) w);have ho':FloatKind.f64.format.order f0 4890909195324358656=some Ordering.lt:=ho;have hv2:=Mt f0 n' hv';have hd2:decide (i<n')=true:=by simpa using hn'
 clear hr hm hp hs ho hv' Ez;go_enter func185,ntmps185;go_wp2_with (first | (go_at_call 207;refine(Tz _).mono ?_;rintro e w' ⟨rfl,rfl⟩) | (go_at_call 206;refine(HN.o _).mono ?_;rintro e w' ⟨rfl,rfl⟩));go_ret2;exact⟨rfl,rfl⟩
end
section
open Go.RowKit Go.Shelf
structure WG (w:World) (pb:Nat) (v:Value) (w':World) (v':Value):Prop where
 kept:Kept (fun k=>k=pb∨v.ownBlock=some k) w w'
 own:v'.ownBlock=v.ownBlock∨∃k,v'.ownBlock=some k∧w.heap.size≤k
theorem WG.refl(w:World)(pb:Nat)(v:Value):WG w pb v w v:=⟨eK _ _,.inl rfl⟩
theorem WG.trans{w w1 w2:World}{pb:Nat}{v v1 v2:Value}(h:WG w pb v w1 v1)(k:WG w1 pb v1 w2 v2):WG w pb v w2 v2:=by
 refine⟨⟨k.kept.os.trans h.kept.os,k.kept.tape.trans h.kept.tape,k.kept.output.trans h.kept.output,a_ h.kept.size k.kept.size,fun i hi hs=>?_⟩,?_⟩
 ·refine(k.kept.block i (cU hi h.kept.size) (fun q=>?_)).trans (h.kept.block i hi hs);rcases q with q | q
  ·exact hs (.inl q)
  rcases h.own with e | ⟨j,e,hj⟩
  ·exact hs (.inr (e ▸ q))
  rw[e] at q;injection q with q;omega
 rcases k.own with e | ⟨j,e,hj⟩
 ·rw[e];exact h.own
 exact .inr ⟨j,e,a_ h.kept.size hj⟩
theorem WG.qR{w w':World}(pb:Nat)(v:Value)(h:Grow w w'):WG w pb v w' v:=⟨jh h,.inl rfl⟩
theorem WG.alloc{w w1:World}{pb:Nat}{v v1:Value}(h:WG w pb v w1 v1)(o:Obj):WG w pb v (w1.alloc o) v1:=h.trans (WG.qR pb v1 ((ah w1).alloc o))
theorem WG.ne{w w':World}{pb g:Nat}{v v':Value}(h:WG w pb v w' v')(hg:g<w.heap.size)(hn:v.ownBlock≠some g):v'.ownBlock≠some g:=by
 intro e;rcases h.own with q | ⟨k,q,hk⟩
 ·exact hn (q ▸ e)
 rw[q] at e;injection e with e;omega
def Wr(w:World)(pb:Nat)(A:Option Addr)(c:Nat)(bs:List UInt8):Prop:=
 Blk w pb 150 #[.slice A bs.length c]∧Row w (pb+1) (.slice A bs.length c) bs.length bs
theorem Wr.own{w:World}{pb:Nat}{A:Option Addr}{c:Nat}{bs:List UInt8}(h:Wr w pb A c bs){k:Nat}(hk:Value.ownBlock (.slice A bs.length c)=some k):pb<k∧k<w.heap.size:=by
 have:=bO h.2 k hk;omega
theorem Wr.grow{w w':World}{pb:Nat}{A:Option Addr}{c:Nat}{bs:List UInt8}(h:Wr w pb A c bs)(hg:Grow w w'):Wr w' pb A c bs:=⟨h.1.grow hg,h.2.grow hg⟩
theorem WG.below{w w':World}{pb:Nat}{A:Option Addr}{c:Nat}{bs:List UInt8}{v':Value}(h:WG w pb (.slice A bs.length c) w' v')(hw:Wr w pb A c bs):Below pb w w':=
 h.kept.below (pk hw.1.lt) (fun q hq=>hq.elim (fun e=>by omega) (fun e=>by have:=hw.own e;omega))
theorem Kept.ald{S:Nat→Prop}{w w':World}{v v':Value}(h:uZ w v w' v')(hs:∀k,v.ownBlock=some k→S k):Kept S w w':=
 ⟨h.grow.os,h.grow.tape,h.grow.output,h.grow.size,fun k hk hn=>h.grow.block k hk (fun e=>hn (hs k e.symm))⟩
theorem Row.set{w:World}{base m:Nat}{v:Value}{xs:List UInt8}(h:Row w base v m xs){p:Addr}(hp:p.block<base)(u:Value):Row (w.setCell p u) base v m xs:=by
 rcases h.2 with h0 | ⟨g,cap,cur,rfl,hb,hg,hr⟩
 ·exact⟨h.1,.inl h0⟩
 exact⟨h.1,.inr ⟨g,cap,cur,rfl,hb,Blk.far (t:=5) (cs:=cur) hg (by omega) u,hr⟩⟩
def mj(w:World)(pb:Nat)(A:Option Addr)(n c:Nat)(bs':List UInt8)(e:Ending)(w':World):Prop:=
 ∃A' c',e=.returned (.tuple #[])∧Wr w' pb A' c' bs'∧WG w pb (.slice A n c) w' (.slice A' bs'.length c')
theorem ale(pb:Nat)(A:Option Addr)(c:Nat)(bs:List UInt8)(Y:Value)(ys:List UInt8)(w:World)(h:Wr w pb A c bs)(hs:Src prog 1 23 Y ys.length (bw ys) w)
 (hl:bs.length+ys.length≤140737488400000):Calls prog 184 #[.pointer (some ⟨pb,0,none⟩),Y] w (mj w pb A bs.length c (bs++ys)):=by
 have hc:=h.1.cell 0;have hlt:=h.1.lt;have hfz:=h.1.frozen;have HW:=aa h;have HS:=aa hs;clear h hs;go_enter func184,ntmps184;go_wp2_with (at_builtin;refine fK (ys:=ys) rfl (.tmp 8) (.tmp 9) _ rfl rfl HW.o.2 _ rfl HS.o (by omega) (by omega) ?_;intro A1 c1 w1 hr1 hg1;have np:=aa hr1;have aN:=aa hg1;have hb1:=HW.o.1.own hg1.grow (fun k hk=>by have:=HW.o.own hk;omega);have aQ:=aa hb1;have hc1:=hb1.cell 0;have amS:=hb1.frozen 0;have lD:=hb1.lt;clear hr1 hg1 hb1);go_end0;have hn:(bs++ys).length=bs.length+ys.length:=bD;have hb2:Blk (w1.setCell ⟨pb,0,none⟩ (.slice A1 (bs.length+ys.length) c1)) pb 150 #[.slice A1 (bs.length+ys.length) c1]:=aQ.o.bg 0 _;refine⟨A1,c1,rfl,⟨by rw[hn];exact hb2,by rw[hn];exact np.o.set (by simp) _⟩,?_⟩;rw[hn]
 refine⟨(Kept.ald (S:=fun k=>k=pb∨Value.ownBlock (.slice A bs.length c)=some k) aN.o (fun k hk=>.inr hk)).set (p:=⟨pb,0,none⟩) (.inl rfl) _,aN.o.lies⟩
theorem V4{w:World}{g n:Nat}(zs:List UInt8)(cs:Array Value)(hn:zs.length=n)(hb:Blk w g 5 cs)(he:cs=(bw zs).toArray):Src prog 1 23 (.slice (some ⟨g,0,none⟩) n n) zs.length (bw zs) w:=by
 subst hn he;refine Src.ofSlice w dP ⟨g,0,none⟩ zs.length zs.length (bw zs) (by rw[EZ];simp) (fun j u hu=>?_) (gM _);rw[add_lit,dg,hb.cell];simpa using hu
theorem VX(n size j:Nat)(h:j<size):(be size n).take (size-j)=(be size n).take (size-(j+1))++[UInt8.ofNat (n / 256 ^ j)]:=by
 have e:size-j=(size-(j+1))+1:=by omega
 rw[e,px _ _ (by rw[fS];omega)];congr 2;have:(be size n)[size-(j+1)]'(by rw[fS];omega)=(jQ size n)[j]'(by rw[jA];exact h):=by
  unfold be;rw[List.getElem_reverse];congr 1;rw[jA];omega
 rw[this];simp[jQ]
theorem lY(pb:Nat)(A:Option Addr)(c:Nat)(bs:List UInt8)(zs:List UInt8)(cs:Array Value)(n:Nat)(w:World)(h:Wr w pb A c bs)(hn:zs.length=n)(he:cs=(bw zs).toArray)
 (hl:bs.length+zs.length≤140737488400000):Calls prog 184 #[.pointer (some ⟨pb,0,none⟩),.slice (some ⟨w.heap.size,0,none⟩) n n] (w.alloc (.cells cs 5)) (mj w pb A bs.length c (bs++zs)):=by
 refine(ale pb A c bs _ zs _ (h.grow ((ah w).alloc _)) (V4 zs cs hn (aH w _ cs) he) hl).mono ?_;rintro e w' ⟨A',c',rfl,h1,h2⟩;exact⟨A',c',rfl,h1,(WG.qR pb _ ((ah w).alloc _)).trans h2⟩
theorem alf(pb:Nat)(A:Option Addr)(c:Nat)(bs:List UInt8)(n size:Nat)(w:World)(h:Wr w pb A c bs)(hs:size≤8)(hn:n<18446744073709551616)
 (hl:bs.length+8≤140737488355328):Calls prog 186 #[.pointer (some ⟨pb,0,none⟩),.int .u64 n,.int .i64 size] w (mj w pb A bs.length c (bs++be size n)):=by
 have HW:=aa h;clear h;go_enter func186,ntmps186;go_wp2_with fail;go_loopg [6] (size+1) (fun gk i wr=>∃(r:Nat) (z:Int) (A':Option Addr) (c':Nat),r≤size∧gk=r+1∧z+1=(r:Int)∧i=.int .i64 z∧Wr wr pb A' c' (bs++(be size n).take (size-r)) ∧
  WG w pb (.slice A bs.length c) wr (.slice A' (bs++(be size n).take (size-r)).length c'))
 exact⟨size,(size:Int)-1,A,c,av _,rfl,by omega,rfl,by rw[yj,ER,mD];exact HW.o,by rw[yj,ER,mD];exact WG.refl _ _ _⟩;obtain⟨r,z,A',c',hr,rfl,hz,rfl,hw,hg⟩:=hrel;have kD:=aa hw;have HG2:=aa hg;clear hw hg;by_cases h0:r=0
 ·subst h0;have hz0:z=-1:=by omega
  subst hz0;clear hz;go_wp2_with fail;go_end0;have e:(be size n).take (size-0)=be size n:=pV (by rw[fS];omega);rw[e] at kD HG2;exact⟨A',c',rfl,kD.o,HG2.o⟩
 obtain⟨j,rfl⟩:∃j,r=j+1:=⟨r-1,by omega⟩;obtain rfl:z=(j:Int):=by omega
 clear hz h0;have hB:(#[.int .u8 ((n:Int) / 2 ^ (8*j) % 256)]:Array Value)=(bw [UInt8.ofNat (n / 256 ^ j)]).toArray:=by
  show _=(#[.int .u8 ((UInt8.ofNat (n / 256 ^ j)).toNat:Int)]:Array Value);rw[Nf,← Nc];rfl
 have HB:=aa hB;clear hB;have hlen:(bs++(be size n).take (size-(j+1))).length≤bs.length+8:=by rw[bD,eD];omega
 have lM:=aa (lY pb A' c' _ [UInt8.ofNat (n / 256 ^ j)] _ 1 wr kD.o rfl HB.o (by simp only[aU,bn];omega));rw[mE,← VX n size j (by omega)] at lM;go_wp2_with fail;refine lM.o.mono ?_;rintro e w2 ⟨A2,c2,rfl,h1,h2⟩;have mC:=aa h1;have aJ:=aa (HG2.o.trans h2);clear h1 h2 lM hlen;go_wp2_with fail;go_roundg (j+1);exact⟨j,(j:Int)-1,A2,c2,by omega,rfl,by omega,rfl,mC.o,aJ.o⟩;omega
def TA(w:World)(pb:Nat)(A:Option Addr)(n c:Nat)(p:Addr)(u:Value):Prop:=w.cell? p=some u∧p.block<w.heap.size∧p.block≠pb∧Value.ownBlock (.slice A n c)≠some p.block
theorem WG.cell{w w':World}{pb n c:Nat}{A:Option Addr}{v':Value}(h:WG w pb (.slice A n c) w' v'){p:Addr}{u:Value}(hp:TA w pb A n c p u):w'.cell? p=some u:=
 (uQ (h.kept.block p.block hp.2.1 (fun q=>q.elim hp.2.2.1 hp.2.2.2))).trans hp.1
theorem TB(pb:Nat)(A:Option Addr)(c:Nat)(bs:List UInt8)(b:List UInt8)(B:Option Addr)(bc:Nat)(w:World)(h:Wr w pb A c bs)(hb:Reads (TA w pb A bs.length c) 1 B b.length (bw b))
 (hl:bs.length+2*b.length+2≤140737488355328):Calls prog 189 #[.pointer (some ⟨pb,0,none⟩),.slice B b.length bc] w (mj w pb A bs.length c (bs++cW b)):=by
 have HW:=aa h;have HB:=aa hb;have hbl:b.length≤140737488355328:=by omega
 clear h hb;go_enter func189,ntmps189;go_wp2_with fail;go_loopg [5,8] (b.length+1) (fun gk _ i wr=>∃(k:Nat) (A':Option Addr) (c':Nat),k≤b.length∧gk+k=b.length+1∧i=.int .i64 k∧Wr wr pb A' c' (bs++fU (b.take k)) ∧
  WG w pb (.slice A bs.length c) wr (.slice A' (bs++fU (b.take k)).length c'))
 exact⟨0,A,c,aS _,rfl,rfl,by rw[ER,fU,mD];exact HW.o,by rw[ER,fU,mD];exact WG.refl _ _ _⟩;obtain⟨k,A',c',hk,hg,rfl,hw,hgr⟩:=hrel;have kD:=aa hw;have HG2:=aa hgr;clear hw hgr;by_cases hlt:k<b.length
 ·obtain⟨gk',rfl⟩:=bP gk (by omega);obtain⟨bk,o,rfl,hcell⟩:=HB.o.2 (by omega);have hc:=HG2.o.cell (hcell k _ (uY b k hlt));have amT:=HG2.o.kept.size;have dC:=(hcell k _ (uY b k hlt)).2.1;have hstep:fU (b.take (k+1))=fU (b.take k)++(if b[k]=0 then [0,255] else [b[k]]):=by rw[px b k hlt,VY]
  have hel:(bs++fU (b.take k)).length≤bs.length+2*b.length:=by
   have:=(pJ (b.take k)).2;rw[eD] at this;rw[bD];omega
  clear hcell;by_cases hx:b[k]=0
  ·rw[ar hx] at hstep;rw[hx] at hc;have hc':wr.cell? ⟨bk,o+k,none⟩=some (.int .u8 0):=hc;have HST:=aa hstep;have iQ:=aa (lY pb A' c' _ [0] #[.int .u8 0] 1 wr kD.o rfl rfl (by simp only[aU,bn];omega));have Dz:(bs++fU (b.take k)++[0]).length≤bs.length+2*b.length+1:=by rw[bD];simp only[aU,bn];omega
   clear hx hstep hc;go_wp2_with fail;refine iQ.o.mono ?_;rintro e w2 ⟨A2,c2,rfl,h1,h2⟩;have o_:=aa (lY pb A2 c2 _ [255] #[.int .u8 255] 1 w2 h1 rfl rfl (by simp only[aU,bn];omega));have aJ:=aa (HG2.o.trans h2);clear h1 h2 iQ;go_wp2_with fail;refine o_.o.mono ?_;rintro e w3 ⟨A3,c3,rfl,h1,h2⟩;have e1:bs++fU (b.take k)++[0]++[255]=bs++fU (b.take (k+1)):=by rw[HST.o];simp
   rw[e1] at h1 h2;have lf:=aa h1;have bz:=aa (aJ.o.trans h2);clear h1 h2 o_ hel Dz hc' e1;go_wp2_with fail;go_roundg gk';exact⟨k+1,A3,c3,by omega,by omega,by go_num,lf.o,bz.o⟩;omega
  rw[ai hx] at hstep;have HST:=aa hstep;obtain⟨x,tR⟩:∃x,b[k]=x:=⟨_,rfl⟩;obtain⟨m,hm⟩:∃m,x.toNat=m:=⟨_,rfl⟩;have hne:((m:Int)==0)=false:=by
   have:m≠0:=by
    intro e;apply hx;rw[tR];apply sI.1;rw[hm,e];rfl
   simp;omega
  rw[tR] at HST;rw[tR,hm] at hc;have iQ:=aa (lY pb A' c' _ [x] #[.int .u8 (m:Int)] 1 wr kD.o rfl (by rw[← hm];rfl) (by simp only[aU,bn];omega));clear hx hstep tR hm;go_wp2_with fail;refine iQ.o.mono ?_;rintro e w2 ⟨A2,c2,rfl,h1,h2⟩;have e1:bs++fU (b.take k)++[x]=bs++fU (b.take (k+1)):=by rw[HST.o];simp
  rw[e1] at h1 h2;have lf:=aa h1;have bz:=aa (HG2.o.trans h2);clear h1 h2 iQ hel hc e1;go_wp2_with fail;go_roundg gk';exact⟨k+1,A2,c2,by omega,by omega,by go_num,lf.o,bz.o⟩;omega
 obtain rfl:k=b.length:=by omega
 rw[fC] at kD HG2;have hel:(bs++fU b).length≤bs.length+2*b.length:=by
  have:=(pJ b).2;rw[bD];omega
 have iQ:=aa (lY pb A' c' _ [0,0] #[.int .u8 0,.int .u8 0] 2 wr kD.o rfl rfl (by simp only[aU,bn];omega));rw[mE] at iQ;clear hg hel;go_wp2_with fail;refine iQ.o.mono ?_;rintro e w2 ⟨A2,c2,rfl,h1,h2⟩;have lf:=aa h1;have bz:=aa (HG2.o.trans h2);clear h1 h2 iQ;go_wp2_with fail;go_end0;exact⟨A2,c2,rfl,lf.o,bz.o⟩
end
section
open Go.RowKit Go.Shelf
theorem Gn:(2:Nat) ^ 63=9223372036854775808:=by decide
theorem Ph:(2:Nat) ^ 64=18446744073709551616:=by decide
theorem alg(n:Nat)(h:n<18446744073709551616):n &&& 9223372036854775808=if n<9223372036854775808 then 0 else 9223372036854775808:=by
 rw[← Gn];have hb:n.testBit 63=decide (2 ^ 63≤n):=by
  rw[Nat.testBit_eq_decide_div_mod_eq,Gn];by_cases h1:9223372036854775808≤n
  ·rw[bT h1,bT];omega
  rw[bY h1,bY];omega
 apply Jt;intro i;rw[Nat.testBit_and,Ju];by_cases hi:63=i
 ·subst hi;rw[hb];by_cases h1:n<2 ^ 63
  ·rw[ar h1,bY (by omega)];simp
  rw[ai h1,bT (by omega),Ju];simp
 rw[bY hi,Bool.and_false];split
 ·simp
 rw[Ju,bY hi]
theorem Pj(n:Nat)(h:n<9223372036854775808):n ^^^ 9223372036854775808=n+9223372036854775808:=by
 rw[← Gn] at h ⊢;apply Jt;intro i;rw[Nat.testBit_xor,Ju,ES];rcases ET i 63 with hi | rfl | hi
 ·rw[Nat.testBit_two_pow_add_gt hi,bY (by omega),Bool.xor_false]
 ·rw[Nat.testBit_two_pow_add_eq];simp
 have h2:n<2 ^ i:=cU h (lg (by omega) (by omega));have h3:2 ^ 63+n<2 ^ i:=cU (show 2 ^ 63+n<2 ^ 64 by rw[uO];omega) (lg (by omega) (by omega));rw[Jv h2,Jv h3,bY (by omega),Bool.xor_false]
theorem alh(n:Nat)(h1:9223372036854775808≤n)(h:n<18446744073709551616):n ^^^ 9223372036854775808=n-9223372036854775808:=by
 obtain⟨m,rfl⟩:∃m,n=m+9223372036854775808:=⟨n-9223372036854775808,by omega⟩;have hm:=Pj m (by omega);rw[wG,← hm,Nat.xor_assoc,Nat.xor_self,Nat.xor_zero]
theorem ali(n:Nat)(h:n<18446744073709551616):18446744073709551615 ^^^ n=18446744073709551615-n:=by
 apply Jt;intro i;have e1:(18446744073709551615:Nat)=2 ^ 64-1:=by decide
 have e2:18446744073709551615-n=2 ^ 64-(n+1):=by rw[e1];omega
 rw[Nat.testBit_xor,e2,Nat.testBit_two_pow_sub_succ (by rw[Ph];exact h),e1,Nat.testBit_two_pow_sub_one];by_cases hi:i<64
 ·simp[hi]
 have:n.testBit i=false:=Jv (cU h (by rw[← Ph];exact lg (by omega) (by omega)));simp[hi,this]
theorem alj(n:Nat)(h:n<18446744073709551616):bits .and .u64 (n:Int) 9223372036854775808=if n<9223372036854775808 then 0 else 9223372036854775808:=by
 have:=u64_and_nat n 9223372036854775808 h (by decide);rw[alg n h] at this;rw[show (9223372036854775808:Int)=((9223372036854775808:Nat):Int) from rfl,this];split<;>rfl
theorem VW(n:Nat)(h:n<18446744073709551616):bits .xor .u64 IntKind.u64.max (n:Int)=((18446744073709551615-n:Nat):Int):=by
 have:=u64_xor_nat 18446744073709551615 n (by decide) h;rw[ali n h] at this;exact this
theorem alk(n:Nat)(h:n<18446744073709551616):bits .xor .u64 (n:Int) 9223372036854775808=(if n<9223372036854775808 then ((n+9223372036854775808:Nat):Int) else ((n-9223372036854775808:Nat):Int)):=by
 have:=u64_xor_nat n 9223372036854775808 h (by decide);split
 ·rename_i h1;rw[Pj n h1] at this;exact this
 rename_i h1;rw[alh n (by omega) h] at this;exact this
theorem aa_(n:Nat)(w:World)(hn:n<18446744073709551616):Calls prog 187 #[.int .u64 n] w fun e w'=>e=.returned (.int .u64 (eT n:Nat))∧w=w':=by
 have h1:=alj n hn;have h2:=VW n hn;have h3:=alk n hn;by_cases hlt:n<9223372036854775808
 ·rw[ar hlt] at h1 h3;have ht:eT n=n+9223372036854775808:=by rw[eT,ar hlt]
  clear h2;go_enter func187,ntmps187;go_wp2;go_ret;exact⟨by first | rfl | (rw[ht];rfl),rfl⟩
 rw[ai hlt] at h1 h3;have ht:eT n=18446744073709551615-n:=by rw[eT,ai hlt]
 clear h3;go_enter func187,ntmps187;go_wp2;go_ret;exact⟨by first | rfl | (rw[ht];rfl),rfl⟩
theorem Wr.al{w:World}{pb:Nat}{A:Option Addr}{c:Nat}{bs:List UInt8}(h:Wr w pb A c bs)(o:Obj):Wr (w.alloc o) pb A c bs:=h.grow ((ah w).alloc o)
theorem acw(pb:Nat)(A:Option Addr)(c:Nat)(bs:List UInt8)(cv:Cv)(w:World)(h:Wr w pb A c bs)(hl:bs.length+1≤140737488355328) :
 Calls prog 144 #[.pointer (some ⟨pb,0,none⟩),cv.agg] w (mj w pb A bs.length c (bs++[16])):=by
 have hz:(w.alloc (.cells cv.cells 27)).heap.size=w.heap.size+1:=by simp
 have HC:=aa (lY pb A c bs [16] #[.int .u8 16] 1 _ (h.al (.cells cv.cells 27)) rfl rfl (by simp only[aU,bn];omega));rw[hz] at HC;clear h hz;go_enter func144,ntmps144;go_wp2_with fail;refine HC.o.mono ?_;rintro e w2 ⟨A2,c2,rfl,h1,h2⟩;have HW:=aa h1;have HG:=aa ((WG.qR pb _ ((ah w).alloc (.cells cv.cells 27))).trans h2);clear h1 h2 HC;go_wp2_with fail;go_end0;exact⟨A2,c2,rfl,HW.o,HG.o⟩
theorem acx(pb:Nat)(A:Option Addr)(c:Nat)(bs:List UInt8)(cv:Cv)(n:Nat)(hn:n≤1)(hcv:cv.n=(n:Int))(w:World)(h:Wr w pb A c bs)(hl:bs.length+2≤140737488355328) :
 Calls prog 145 #[.pointer (some ⟨pb,0,none⟩),cv.agg] w (mj w pb A bs.length c (bs++[32,UInt8.ofNat n])):=by
 obtain⟨c1,c2,c3,c4,c5,c6,c7,c8,c9,c10,c11⟩:=cv;dsimp only at hcv;subst hcv;have hz:(w.alloc (.cells (Cv.cells ⟨c1,n,c3,c4,c5,c6,c7,c8,c9,c10,c11⟩) 27)).heap.size=w.heap.size+1:=by simp
 have HC:=aa (lY pb A c bs [32,UInt8.ofNat n] #[.int .u8 32,.int .u8 (n:Int)] 2 _ (h.al (.cells (Cv.cells ⟨c1,n,c3,c4,c5,c6,c7,c8,c9,c10,c11⟩) 27)) rfl (by
  show (#[.int .u8 32,.int .u8 (n:Int)]:Array Value)=#[.int .u8 32,.int .u8 ((UInt8.ofNat n).toNat:Int)];rw[zm n (by omega)]) (by simp only[aU,bn];omega))
 rw[hz] at HC;have hw:IntKind.u8.wrap (n:Int)=(n:Int):=by rw[Jw];omega
 clear h hz;go_enter func145,ntmps145;go_wp2_with fail;refine HC.o.mono ?_;rintro e w2 ⟨A2,c2,rfl,h1,h2⟩;have HW:=aa h1;have HG:=aa ((WG.qR pb _ ((ah w).alloc (.cells (Cv.cells ⟨c1,n,c3,c4,c5,c6,c7,c8,c9,c10,c11⟩) 27))).trans h2);clear h1 h2 HC;go_wp2_with fail;go_end0;exact⟨A2,c2,rfl,HW.o,HG.o⟩
theorem I9{w0 w:World}{pb:Nat}{A0 A:Option Addr}{n0 c0 c:Nat}{bs:List UInt8}(zs:List UInt8)(cs:Array Value)(n:Nat)(h:Wr w pb A c bs)(hg:WG w0 pb (.slice A0 n0 c0) w (.slice A bs.length c))(hn:zs.length=n)(he:cs=(bw zs).toArray)
 (hl:bs.length+zs.length≤140737488400000):Calls prog 184 #[.pointer (some ⟨pb,0,none⟩),.slice (some ⟨w.heap.size,0,none⟩) n n] (w.alloc (.cells cs 5)) (mj w0 pb A0 n0 c0 (bs++zs)):=by
 refine(lY pb A c bs zs cs n w h hn he hl).mono ?_;rintro e w' ⟨A',c',rfl,h1,h2⟩;exact⟨A',c',rfl,h1,hg.trans h2⟩
theorem MI{w0 w:World}{pb:Nat}{A0 A:Option Addr}{n0 c0 c:Nat}{bs:List UInt8}(n size:Nat)(h:Wr w pb A c bs)(hg:WG w0 pb (.slice A0 n0 c0) w (.slice A bs.length c))(hs:size≤8)(hn:n<18446744073709551616)
 (hl:bs.length+8≤140737488355328):Calls prog 186 #[.pointer (some ⟨pb,0,none⟩),.int .u64 n,.int .i64 size] w (mj w0 pb A0 n0 c0 (bs++be size n)):=by
 refine(alf pb A c bs n size w h hs hn hl).mono ?_;rintro e w' ⟨A',c',rfl,h1,h2⟩;exact⟨A',c',rfl,h1,hg.trans h2⟩
theorem acy(pb:Nat)(A:Option Addr)(c:Nat)(bs:List UInt8)(n:Nat)(hn:n<18446744073709551616)(c3 c6 c9:Option Addr)(c4 c5 c7 c8 c10 c11:Nat)(w:World)(h:Wr w pb A c bs)(hl:bs.length+40≤140737488355328) :
 Calls prog 146 #[.pointer (some ⟨pb,0,none⟩),Cv.agg ⟨3,n,c3,c4,c5,c6,c7,c8,c9,c10,c11⟩] w (mj w pb A bs.length c (bs++48::mM n)):=by
 have hi:=Eg n hn;have hb:=Gq;have hcv:IntKind.i64.wrap (n:Int)=i64 n:=by unfold i64;rw[cZ];split<;>omega
 have hfc:=Du (i64 n) hi.1 hi.2;have l7:=alb (i64 n);obtain⟨g,hg⟩:∃g,(fl (i64 n)).1=g:=⟨_,rfl⟩;obtain⟨rest,hrest⟩:∃g,(fl (i64 n)).2=g:=⟨_,rfl⟩;have hkey:mM n=1::(be 8 (eT g)++(be 2 rest++[0])):=by unfold mM;rw[hg,hrest]
 rw[hg,hrest] at hfc l7;have j_:=aa (fun w=>l7 w hi.1 hi.2);have HT:=aa (fun w=>aa_ g w hfc.bits);have ht:=AK g hfc.bits;have hrs:=hfc.small;have HKEY:=aa hkey;clear hfc l7 hkey hg hrest;obtain⟨i,hin⟩:∃i,i64 n=i:=⟨_,rfl⟩;rw[hin] at hcv j_ hi;clear hin;obtain⟨tg,I_⟩:∃x,eT g=x:=⟨_,rfl⟩;rw[I_] at HT ht HKEY;clear I_;have hz:(w.alloc (.cells (Cv.cells ⟨3,n,c3,c4,c5,c6,c7,c8,c9,c10,c11⟩) 27)).heap.size=w.heap.size+1:=by simp
 have cm:=aa (WG.qR pb (.slice A bs.length c) ((ah w).alloc (.cells (Cv.cells ⟨3,n,c3,c4,c5,c6,c7,c8,c9,c10,c11⟩) 27)));have bf:=aa (aH w 27 (Cv.cells ⟨3,n,c3,c4,c5,c6,c7,c8,c9,c10,c11⟩));have hne:w.heap.size≠pb:=by have:=h.1.lt;omega
 have hno:Value.ownBlock (.slice A bs.length c)≠some w.heap.size:=fun e=>by have:=h.own e;omega
 have mR:=aa (fun q:w.heap.size=pb∨Value.ownBlock (.slice A bs.length c)=some w.heap.size=>q.elim hne hno);have HC:=aa (lY pb A c bs [48] #[.int .u8 48] 1 (w.alloc (.cells (Cv.cells ⟨3,n,c3,c4,c5,c6,c7,c8,c9,c10,c11⟩) 27)) (h.al _) rfl rfl (by simp only[aU,bn];omega));rw[hz] at HC;clear h hz hne hno;go_enter func146,ntmps146;go_wp2_with fail;refine HC.o.mono ?_;rintro e w2 ⟨A2,c2,rfl,h1,h2⟩;have dK:=h2.kept.blk bf.o mR.o;have hc0:=dK.cell 0;have hc1:=dK.cell 1;have dC:=dK.lt;have aG:=aa dK;have kD:=aa h1;have HG2:=aa h2;have rq:(bs++[48]).length=bs.length+1:=by simp
 have hl2:(bs++[48]).length+30≤140737488355328:=by omega
 clear h1 h2 HC dK rq;go_wp2_with fail;refine(j_.o _).mono ?_;rintro e w' ⟨rfl,rfl⟩;have HC:=aa (I9 [1] #[.int .u8 1] 1 kD.o HG2.o rfl rfl (by simp only[bD,aU,bn,fS] at *;omega));go_wp2_with fail;refine HC.o.mono ?_;rintro e w3 ⟨A3,sH,rfl,h1,h2⟩;have mC:=aa h1;have aJ:=aa h2;clear h1 h2 HC;go_wp2_with fail;refine(HT.o _).mono ?_;rintro e w' ⟨rfl,rfl⟩;have HC:=aa (MI tg 8 mC.o aJ.o (by omega) ht (by simp only[bD,aU,bn,fS] at *;omega));go_wp2_with fail;refine HC.o.mono ?_;rintro e w4 ⟨A4,Ja,rfl,h1,h2⟩;have lf:=aa h1;have bz:=aa h2;clear h1 h2 HC
 have HC:=aa (MI rest 2 lf.o bz.o (by omega) (by omega) (by simp only[bD,aU,bn,fS] at *;omega));go_wp2_with fail;refine HC.o.mono ?_;rintro e w5 ⟨A5,MJ,rfl,h1,h2⟩;have TC:=aa h1;have bC:=aa h2;clear h1 h2 HC;have HC:=aa (I9 [0] #[.int .u8 0] 1 TC.o bC.o rfl rfl (by simp only[bD,aU,bn,fS] at *;omega));go_wp2_with fail;refine HC.o.mono ?_;rintro e w6 ⟨A6,TD,rfl,h1,h2⟩;have TE:=aa h1;have bR:=aa h2;clear h1 h2 HC;go_wp2_with fail;go_end0;have e0:bs++[48]++[1]++be 8 tg++be 2 rest++[0]=bs++48::mM n:=by rw[HKEY.o];simp
 have HX:=TE.o;have HY:=bR.o;rw[e0] at HX HY;exact⟨A6,TD,rfl,HX,cm.o.trans HY⟩
theorem acz(pb:Nat)(A:Option Addr)(c:Nat)(bs:List UInt8)(n:Nat)(hn:n<18446744073709551616)(oC:dX n=true)(c3 c6 c9:Option Addr)(c4 c5 c7 c8 c10 c11:Nat)(w:World)(h:Wr w pb A c bs)(hl:bs.length+40≤140737488355328) :
 Calls prog 146 #[.pointer (some ⟨pb,0,none⟩),Cv.agg ⟨4,n,c3,c4,c5,c6,c7,c8,c9,c10,c11⟩] w (mj w pb A bs.length c (bs++48::ki n)):=by
 have hb:=wh
 have HKEY:=aa (show ki n=0::be 8 n by unfold ki;rw[ar oC]);have hz:(w.alloc (.cells (Cv.cells ⟨4,n,c3,c4,c5,c6,c7,c8,c9,c10,c11⟩) 27)).heap.size=w.heap.size+1:=by simp
 have cm:=aa (WG.qR pb (.slice A bs.length c) ((ah w).alloc (.cells (Cv.cells ⟨4,n,c3,c4,c5,c6,c7,c8,c9,c10,c11⟩) 27)));have bf:=aa (aH w 27 (Cv.cells ⟨4,n,c3,c4,c5,c6,c7,c8,c9,c10,c11⟩));have hne:w.heap.size≠pb:=by have:=h.1.lt;omega
 have hno:Value.ownBlock (.slice A bs.length c)≠some w.heap.size:=fun e=>by have:=h.own e;omega
 have mR:=aa (fun q:w.heap.size=pb∨Value.ownBlock (.slice A bs.length c)=some w.heap.size=>q.elim hne hno);have HC:=aa (lY pb A c bs [48] #[.int .u8 48] 1 (w.alloc (.cells (Cv.cells ⟨4,n,c3,c4,c5,c6,c7,c8,c9,c10,c11⟩) 27)) (h.al _) rfl rfl (by simp only[aU,bn];omega));rw[hz] at HC;clear h hz hne hno;go_enter func146,ntmps146;go_wp2_with fail;refine HC.o.mono ?_;rintro e w2 ⟨A2,c2,rfl,h1,h2⟩;have dK:=h2.kept.blk bf.o mR.o;have hc0:=dK.cell 0;have hc1:=dK.cell 1;have dC:=dK.lt;have aG:=aa dK;have kD:=aa h1;have HG2:=aa h2;have rq:(bs++[48]).length=bs.length+1:=by simp
 have hl2:(bs++[48]).length+30≤140737488355328:=by omega
 clear h1 h2 HC dK rq;go_wp2_with fail;refine(Ev n _).mono ?_;rintro e w' ⟨rfl,rfl⟩;have alm:=oC;have HC:=aa (I9 [0] #[.int .u8 0] 1 kD.o HG2.o rfl rfl (by simp only[bD,aU,bn,fS] at *;omega));go_wp2_with fail;refine HC.o.mono ?_;rintro e w3 ⟨A3,sH,rfl,h1,h2⟩;have mC:=aa h1;have aJ:=aa h2;clear h1 h2 HC;have fR:=aJ.o.kept.blk bf.o mR.o;have aln:=fR.cell 1;have alo:=fR.lt;clear fR;have HC:=aa (MI n 8 mC.o aJ.o (by omega) hn (by simp only[bD,aU,bn,fS] at *;omega));go_wp2_with fail;refine HC.o.mono ?_;rintro e w4 ⟨A4,Ja,rfl,h1,h2⟩;have lf:=aa h1;have bz:=aa h2;clear h1 h2 HC;go_wp2_with fail;go_end0
 have e0:bs++[48]++[0]++be 8 n=bs++48::ki n:=by rw[HKEY.o];simp
 have HX:=lf.o;have HY:=bz.o;rw[e0] at HX HY;exact⟨A4,Ja,rfl,HX,cm.o.trans HY⟩
theorem acA(pb:Nat)(A:Option Addr)(c:Nat)(bs:List UInt8)(n:Nat)(hn:n<18446744073709551616)(oC:dX n=false)(c3 c6 c9:Option Addr)(c4 c5 c7 c8 c10 c11:Nat)(w:World)(h:Wr w pb A c bs)(hl:bs.length+40≤140737488355328) :
 Calls prog 146 #[.pointer (some ⟨pb,0,none⟩),Cv.agg ⟨4,n,c3,c4,c5,c6,c7,c8,c9,c10,c11⟩] w (mj w pb A bs.length c (bs++48::ki n)):=by
 have hb:=wh
 have HKEY:=aa (show ki n=1::(be 8 (eT n)++[0,0,1]) by unfold ki;rw[ai (by rw[oC];decide)]);have HT:=aa (fun w=>aa_ n w hn);have ht:=AK n hn;obtain⟨tg,I_⟩:∃x,eT n=x:=⟨_,rfl⟩;rw[I_] at HT ht HKEY;clear I_;have hz:(w.alloc (.cells (Cv.cells ⟨4,n,c3,c4,c5,c6,c7,c8,c9,c10,c11⟩) 27)).heap.size=w.heap.size+1:=by simp
 have cm:=aa (WG.qR pb (.slice A bs.length c) ((ah w).alloc (.cells (Cv.cells ⟨4,n,c3,c4,c5,c6,c7,c8,c9,c10,c11⟩) 27)));have bf:=aa (aH w 27 (Cv.cells ⟨4,n,c3,c4,c5,c6,c7,c8,c9,c10,c11⟩));have hne:w.heap.size≠pb:=by have:=h.1.lt;omega
 have hno:Value.ownBlock (.slice A bs.length c)≠some w.heap.size:=fun e=>by have:=h.own e;omega
 have mR:=aa (fun q:w.heap.size=pb∨Value.ownBlock (.slice A bs.length c)=some w.heap.size=>q.elim hne hno);have HC:=aa (lY pb A c bs [48] #[.int .u8 48] 1 (w.alloc (.cells (Cv.cells ⟨4,n,c3,c4,c5,c6,c7,c8,c9,c10,c11⟩) 27)) (h.al _) rfl rfl (by simp only[aU,bn];omega));rw[hz] at HC;clear h hz hne hno;go_enter func146,ntmps146;go_wp2_with fail;refine HC.o.mono ?_;rintro e w2 ⟨A2,c2,rfl,h1,h2⟩;have dK:=h2.kept.blk bf.o mR.o;have hc0:=dK.cell 0;have hc1:=dK.cell 1;have dC:=dK.lt;have aG:=aa dK;have kD:=aa h1;have HG2:=aa h2;have rq:(bs++[48]).length=bs.length+1:=by simp
 have hl2:(bs++[48]).length+30≤140737488355328:=by omega
 clear h1 h2 HC dK rq;go_wp2_with fail;refine(Ev n _).mono ?_;rintro e w' ⟨rfl,rfl⟩;have alm:=oC;have HC:=aa (I9 [1] #[.int .u8 1] 1 kD.o HG2.o rfl rfl (by simp only[bD,aU,bn,fS] at *;omega));go_wp2_with fail;refine HC.o.mono ?_;rintro e w3 ⟨A3,sH,rfl,h1,h2⟩;have mC:=aa h1;have aJ:=aa h2;clear h1 h2 HC;have fR:=aJ.o.kept.blk bf.o mR.o;have aln:=fR.cell 1;have alo:=fR.lt;clear fR;go_wp2_with fail;refine(HT.o _).mono ?_;rintro e w' ⟨rfl,rfl⟩;have HC:=aa (MI tg 8 mC.o aJ.o (by omega) ht (by simp only[bD,aU,bn,fS] at *;omega));go_wp2_with fail;refine HC.o.mono ?_;rintro e w4 ⟨A4,Ja,rfl,h1,h2⟩;have lf:=aa h1;have bz:=aa h2;clear h1 h2 HC
 have HC:=aa (I9 [0,0,1] #[.int .u8 0,.int .u8 0,.int .u8 1] 3 lf.o bz.o rfl rfl (by simp only[bD,aU,bn,fS] at *;omega));go_wp2_with fail;refine HC.o.mono ?_;rintro e w5 ⟨A5,MJ,rfl,h1,h2⟩;have TC:=aa h1;have bC:=aa h2;clear h1 h2 HC;go_wp2_with fail;go_end0;have e0:bs++[48]++[1]++be 8 tg++[0,0,1]=bs++48::ki n:=by rw[HKEY.o];simp
 have HX:=TC.o;have HY:=bC.o;rw[e0] at HX HY;exact⟨A5,MJ,rfl,HX,cm.o.trans HY⟩
end
section
open Go.RowKit Go.Shelf
theorem acB(pb:Nat)(A:Option Addr)(c:Nat)(bs:List UInt8)(b:List UInt8)(aB aL aF:Option Addr)(cB nL cL nF cF:Nat)(w:World)(h:Wr w pb A c bs)(hb:Reads (bE w 0 pb) 1 aB b.length (bw b))(hl:bs.length+2*b.length+3≤140737488355328) :
 Calls prog 147 #[.pointer (some ⟨pb,0,none⟩),Cv.agg ⟨5,(0:Nat),aB,b.length,cB,aL,nL,cL,aF,nF,cF⟩] w (mj w pb A bs.length c (bs++64::cW b)):=by
 have hz:(w.alloc (.cells (Cv.cells ⟨5,(0:Nat),aB,b.length,cB,aL,nL,cL,aF,nF,cF⟩) 27)).heap.size=w.heap.size+1:=by simp
 have cm:=aa (WG.qR pb (.slice A bs.length c) ((ah w).alloc (.cells (Cv.cells ⟨5,(0:Nat),aB,b.length,cB,aL,nL,cL,aF,nF,cF⟩) 27)));have bf:=aa (aH w 27 (Cv.cells ⟨5,(0:Nat),aB,b.length,cB,aL,nL,cL,aF,nF,cF⟩));have hne:w.heap.size≠pb:=by have:=h.1.lt;omega
 have hno:Value.ownBlock (.slice A bs.length c)≠some w.heap.size:=fun e=>by have:=h.own e;omega
 have mR:=aa (fun q:w.heap.size=pb∨Value.ownBlock (.slice A bs.length c)=some w.heap.size=>q.elim hne hno);have mL:=aa (h.al (.cells (Cv.cells ⟨5,(0:Nat),aB,b.length,cB,aL,nL,cL,aF,nF,cF⟩) 27));have TF:=aa (dW (eO (nT (j3 pb w) (pk h.1.lt) (.cells (Cv.cells ⟨5,(0:Nat),aB,b.length,cB,aL,nL,cL,aF,nF,cF⟩) 27)) (av _) (av _) (av _)) hb);have HC:=aa (lY pb A c bs [64] #[.int .u8 64] 1 (w.alloc (.cells (Cv.cells ⟨5,(0:Nat),aB,b.length,cB,aL,nL,cL,aF,nF,cF⟩) 27)) mL.o rfl rfl (by simp only[aU,bn];omega));rw[hz] at HC;clear h hz hne hno hb;go_enter func147,ntmps147;go_wp2_with fail;refine HC.o.mono ?_;rintro e w2 ⟨A2,c2,rfl,h1,h2⟩;have dK:=h2.kept.blk bf.o mR.o;have hc2:=dK.cell 2
 have dC:=dK.lt;have HG2:=aa h2;have rq:(bs++[(64:UInt8)]).length=bs.length+1:=by simp
 have o_:=aa (TB pb A2 c2 _ b aB cB w2 h1 (dW (fun p u (hp:bE _ 0 pb p u)=>⟨(eO (h2.below mL.o) (av _) (av _) (av _) p u hp).1,by have:=h1.1.lt;have:=hp.2.2;omega,by have:=hp.2.2;omega,fun e=>by have:=(h1.own e).1;have:=hp.2.2;omega⟩) TF.o) (by omega));clear h1 h2 HC dK rq;go_wp2_with fail;refine o_.o.mono ?_;rintro e w3 ⟨A3,c3,rfl,h1,h2⟩;have e0:bs++[(64:UInt8)]++cW b=bs++64::cW b:=by simp
 rw[e0] at h1 h2;have mC:=aa h1;have aJ:=aa (HG2.o.trans h2);clear h1 h2 o_ e0;go_wp2_with fail;go_end0;exact⟨A3,c3,rfl,mC.o,cm.o.trans aJ.o⟩
theorem acC(pb:Nat)(A:Option Addr)(c:Nat)(bs:List UInt8)(b:List UInt8)(aB aL aF:Option Addr)(cB nL cL nF cF:Nat)(w:World)(h:Wr w pb A c bs)(hb:Reads (bE w 0 pb) 1 aB b.length (bw b))(hl:bs.length+2*b.length+3≤140737488355328) :
 Calls prog 148 #[.pointer (some ⟨pb,0,none⟩),Cv.agg ⟨6,(0:Nat),aB,b.length,cB,aL,nL,cL,aF,nF,cF⟩] w (mj w pb A bs.length c (bs++80::cW b)):=by
 have hz:(w.alloc (.cells (Cv.cells ⟨6,(0:Nat),aB,b.length,cB,aL,nL,cL,aF,nF,cF⟩) 27)).heap.size=w.heap.size+1:=by simp
 have cm:=aa (WG.qR pb (.slice A bs.length c) ((ah w).alloc (.cells (Cv.cells ⟨6,(0:Nat),aB,b.length,cB,aL,nL,cL,aF,nF,cF⟩) 27)));have bf:=aa (aH w 27 (Cv.cells ⟨6,(0:Nat),aB,b.length,cB,aL,nL,cL,aF,nF,cF⟩));have hne:w.heap.size≠pb:=by have:=h.1.lt;omega
 have hno:Value.ownBlock (.slice A bs.length c)≠some w.heap.size:=fun e=>by have:=h.own e;omega
 have mR:=aa (fun q:w.heap.size=pb∨Value.ownBlock (.slice A bs.length c)=some w.heap.size=>q.elim hne hno);have mL:=aa (h.al (.cells (Cv.cells ⟨6,(0:Nat),aB,b.length,cB,aL,nL,cL,aF,nF,cF⟩) 27));have TF:=aa (dW (eO (nT (j3 pb w) (pk h.1.lt) (.cells (Cv.cells ⟨6,(0:Nat),aB,b.length,cB,aL,nL,cL,aF,nF,cF⟩) 27)) (av _) (av _) (av _)) hb);have HC:=aa (lY pb A c bs [80] #[.int .u8 80] 1 (w.alloc (.cells (Cv.cells ⟨6,(0:Nat),aB,b.length,cB,aL,nL,cL,aF,nF,cF⟩) 27)) mL.o rfl rfl (by simp only[aU,bn];omega));rw[hz] at HC;clear h hz hne hno hb;go_enter func148,ntmps148;go_wp2_with fail;refine HC.o.mono ?_;rintro e w2 ⟨A2,c2,rfl,h1,h2⟩;have dK:=h2.kept.blk bf.o mR.o;have hc2:=dK.cell 2
 have dC:=dK.lt;have HG2:=aa h2;have rq:(bs++[(80:UInt8)]).length=bs.length+1:=by simp
 have o_:=aa (TB pb A2 c2 _ b aB cB w2 h1 (dW (fun p u (hp:bE _ 0 pb p u)=>⟨(eO (h2.below mL.o) (av _) (av _) (av _) p u hp).1,by have:=h1.1.lt;have:=hp.2.2;omega,by have:=hp.2.2;omega,fun e=>by have:=(h1.own e).1;have:=hp.2.2;omega⟩) TF.o) (by omega));clear h1 h2 HC dK rq;go_wp2_with fail;refine o_.o.mono ?_;rintro e w3 ⟨A3,c3,rfl,h1,h2⟩;have e0:bs++[(80:UInt8)]++cW b=bs++80::cW b:=by simp
 rw[e0] at h1 h2;have mC:=aa h1;have aJ:=aa (HG2.o.trans h2);clear h1 h2 o_ e0;go_wp2_with fail;go_end0;exact⟨A3,c3,rfl,mC.o,cm.o.trans aJ.o⟩
def Oi(x:V):Prop:=∀(pb:Nat) (A:Option Addr) (c:Nat) (bs:List UInt8) (cv:Cv) (w:World),Wr w pb A c bs→eG w pb x cv→bs.length+2*x.key.length≤140737488350000 →
 Calls prog 98 #[.pointer (some ⟨pb,0,none⟩),cv.agg] w (mj w pb A bs.length c (bs++x.key))
theorem eG.wg{w w':World}{pb:Nat}{A:Option Addr}{c:Nat}{bs:List UInt8}{v':Value}{x:V}{cv:Cv}(h:eG w pb x cv)(hg:WG w pb (.slice A bs.length c) w' v')(hw:Wr w pb A c bs):eG w' pb x cv:=
 h.below (hg.below hw) (av _) (av _)
theorem acD(pb:Nat)(A:Option Addr)(c:Nat)(bs:List UInt8)(l:List V)(aB aL aF:Option Addr)(nB cB cL nF cF:Nat)(w:World)(h:Wr w pb A c bs)(hk:∀x∈l,Oi x)
 (hv:eG w pb (V.mk 7 0 [] l []) ⟨7,(0:Nat),aB,nB,cB,aL,l.length,cL,aF,nF,cF⟩) (hl:bs.length+2*(l.map V.dY).flatten.length+2≤140737488350000) :
 Calls prog 149 #[.pointer (some ⟨pb,0,none⟩),Cv.agg ⟨7,(0:Nat),aB,nB,cB,aL,l.length,cL,aF,nF,cF⟩] w (mj w pb A bs.length c (bs++96::((l.map V.dY).flatten++[0]))):=by
 have HK:=aa hk;have hll:=ahC l;have hz:(w.alloc (.cells (Cv.cells ⟨7,(0:Nat),aB,nB,cB,aL,l.length,cL,aF,nF,cF⟩) 27)).heap.size=w.heap.size+1:=by simp
 have cm:=aa (WG.qR pb (.slice A bs.length c) ((ah w).alloc (.cells (Cv.cells ⟨7,(0:Nat),aB,nB,cB,aL,l.length,cL,aF,nF,cF⟩) 27)));have bf:=aa (aH w 27 (Cv.cells ⟨7,(0:Nat),aB,nB,cB,aL,l.length,cL,aF,nF,cF⟩));have hne:w.heap.size≠pb:=by have:=h.1.lt;omega
 have hno:Value.ownBlock (.slice A bs.length c)≠some w.heap.size:=fun e=>by have:=h.own e;omega
 have mR:=aa (fun q:w.heap.size=pb∨Value.ownBlock (.slice A bs.length c)=some w.heap.size=>q.elim hne hno);have mL:=aa (h.al (.cells (Cv.cells ⟨7,(0:Nat),aB,nB,cB,aL,l.length,cL,aF,nF,cF⟩) 27));have HV:=aa (hv.below (nT (j3 pb w) (pk h.1.lt) (.cells (Cv.cells ⟨7,(0:Nat),aB,nB,cB,aL,l.length,cL,aF,nF,cF⟩) 27)) (av _) (av _));have HC:=aa (lY pb A c bs [96] #[.int .u8 96] 1 (w.alloc (.cells (Cv.cells ⟨7,(0:Nat),aB,nB,cB,aL,l.length,cL,aF,nF,cF⟩) 27)) mL.o rfl rfl (by simp only[aU,bn];omega));rw[hz] at HC;clear h hz hne hno hv hk;go_enter func149,ntmps149;go_wp2_with fail;refine HC.o.mono ?_;rintro e w2 ⟨A2,c2,rfl,h1,h2⟩;have dK:=h2.kept.blk bf.o mR.o;have hc3:=dK.cell 3;have dC:=dK.lt;have kD:=aa h1
 have HG2:=aa h2;clear h1 h2 HC dK;go_wp2_with fail;go_loopg [5,12] (l.length+1) (fun gk _ i wr=>∃(j:Nat) (A':Option Addr) (c':Nat),j≤l.length∧gk+j=l.length+1∧i=.int .i64 j∧Wr wr pb A' c' (bs++96::((l.take j).map V.dY).flatten) ∧
  WG (w.alloc (.cells (Cv.cells ⟨7,(0:Nat),aB,nB,cB,aL,l.length,cL,aF,nF,cF⟩) 27)) pb (.slice A bs.length c) wr (.slice A' (bs++96::((l.take j).map V.dY).flatten).length c'))
 exact⟨0,A2,c2,aS _,rfl,rfl,kD.o,HG2.o⟩;obtain⟨j,A',c',hj,hg,rfl,hw,hgr⟩:=hrel;obtain⟨gk',rfl⟩:=bP gk (by omega);have mY:=aa hw;have yc:=aa hgr;have fM:=HV.o.wg hgr mL.o;clear hw hgr;by_cases hlt:j<l.length
 ·obtain⟨bk,o,x,ha,hbk,e0,e1,e2,e3,e4,hx⟩:=fM.fJ j hlt;dsimp only at ha;subst ha;have C0:=EI hbk mY.o.1.lt;have bG:=yr V.dY l j hlt;have hm2:=cT List.length bG;rw[bD] at hm2;have hle:=yt V.dY l (j+1);rw[hm2] at hle;have hkl:(V.dY l[j]).length=1+l[j].key.length:=by simp[V.dY];omega
  have hbl:(bs++96::((l.take j).map V.dY).flatten).length=bs.length+1+((l.take j).map V.dY).flatten.length:=by simp;omega
  have HX:=aa hx;have iC:=aa bG;obtain⟨X,hX⟩:∃X,X=bs++96::((l.take j).map V.dY).flatten:=⟨_,rfl⟩;rw[← hX] at mY yc hbl;have TG:=aa hX;have fq:=x.cells;have hzz:(wr.alloc (.cells x.cells 27)).heap.size=wr.heap.size+1:=by simp
  have TI:=aa (aH wr 27 x.cells);have Jb:¬ (wr.heap.size=pb∨Value.ownBlock (.slice A' X.length c')=some wr.heap.size):=fun q=>q.elim (fun e=>by have:=mY.o.1.lt;omega) (fun e=>by have:=mY.o.own e;omega)
  have se:=aa Jb;have Jc:=aa (mY.o.al (.cells x.cells 27));have TJ:=aa (yc.o.alloc (.cells x.cells 27));have iQ:=aa (lY pb A' c' X [1] #[.int .u8 1] 1 (wr.alloc (.cells x.cells 27)) Jc.o rfl rfl (by simp only[aU,bn];omega));rw[hzz] at iQ;clear hx fM bG hm2 hX fq hzz Jb;go_wp2_with fail;refine iQ.o.mono ?_;rintro e w3 ⟨A3,sH,rfl,h1,h2⟩;have fR:=h2.kept.blk TI.o se.o;have pI:=fR.cell;have UI:=fR.lt;have aJ:=aa (TJ.o.trans h2);have TK:(X++[(1:UInt8)]).length=X.length+1:=by simp
  have o_:=aa (HK.o _ (aY hlt) pb A3 sH _ x w3 h1 ((HX.o.below (nT (j3 pb wr) (pk mY.o.1.lt) (.cells x.cells 27)) (av _) (av _)).wg h2 Jc.o) (by omega));clear h1 h2 iQ fR TK;go_wp2_with fail;refine o_.o.mono ?_;rintro e w4 ⟨A4,Ja,rfl,h1,h2⟩;have e0:X++[(1:UInt8)]++l[j].key=bs++96::((l.take (j+1)).map V.dY).flatten:=by rw[TG.o,iC.o];simp[V.dY]
  rw[e0] at h1 h2;have lf:=aa h1;have bz:=aa (aJ.o.trans h2);clear h1 h2 o_ e0 pI e1 e2 e3 e4 hkl hbl;go_wp2_with fail;go_roundg gk';exact⟨j+1,A4,Ja,by omega,by omega,by go_num,lf.o,bz.o⟩;omega
 obtain rfl:j=l.length:=by omega
 rw[fC] at mY yc;have hbl:(bs++96::(l.map V.dY).flatten).length=bs.length+1+(l.map V.dY).flatten.length:=by simp;omega
 have iQ:=aa (lY pb A' c' _ [0] #[.int .u8 0] 1 wr mY.o rfl rfl (by simp only[aU,bn];omega));clear hg hbl fM;go_wp2_with fail;refine iQ.o.mono ?_;rintro e w3 ⟨A3,sH,rfl,h1,h2⟩;have e0:bs++96::(l.map V.dY).flatten++[0]=bs++96::((l.map V.dY).flatten++[0]):=by simp
 rw[e0] at h1 h2;have lf:=aa h1;have bz:=aa (yc.o.trans h2);clear h1 h2 iQ e0;go_wp2_with fail;go_end0;exact⟨A3,sH,rfl,lf.o,cm.o.trans bz.o⟩
theorem acE(pb:Nat)(A:Option Addr)(c:Nat)(bs:List UInt8)(f:List (ByteArray×V))(aB aL aF:Option Addr)(nB cB cL nL cF:Nat)(w:World)(h:Wr w pb A c bs)(hk:∀x∈f,Oi x.2)
 (hv:eG w pb (V.mk 8 0 [] [] f) ⟨8,(0:Nat),aB,nB,cB,aL,nL,cL,aF,f.length,cF⟩) (hl:bs.length+2*(f.map V.dZ).flatten.length+2≤140737488350000) (hs:∀x∈f,x.1.size≤32) :
 Calls prog 150 #[.pointer (some ⟨pb,0,none⟩),Cv.agg ⟨8,(0:Nat),aB,nB,cB,aL,nL,cL,aF,f.length,cF⟩] w (mj w pb A bs.length c (bs++112::((f.map V.dZ).flatten++[0]))):=by
 have HK:=aa hk;have HS:=aa hs;have hll:=ahD f;have hz:(w.alloc (.cells (Cv.cells ⟨8,(0:Nat),aB,nB,cB,aL,nL,cL,aF,f.length,cF⟩) 27)).heap.size=w.heap.size+1:=by simp
 have cm:=aa (WG.qR pb (.slice A bs.length c) ((ah w).alloc (.cells (Cv.cells ⟨8,(0:Nat),aB,nB,cB,aL,nL,cL,aF,f.length,cF⟩) 27)));have bf:=aa (aH w 27 (Cv.cells ⟨8,(0:Nat),aB,nB,cB,aL,nL,cL,aF,f.length,cF⟩));have hne:w.heap.size≠pb:=by have:=h.1.lt;omega
 have hno:Value.ownBlock (.slice A bs.length c)≠some w.heap.size:=fun e=>by have:=h.own e;omega
 have mR:=aa (fun q:w.heap.size=pb∨Value.ownBlock (.slice A bs.length c)=some w.heap.size=>q.elim hne hno);have mL:=aa (h.al (.cells (Cv.cells ⟨8,(0:Nat),aB,nB,cB,aL,nL,cL,aF,f.length,cF⟩) 27));have HV:=aa (hv.below (nT (j3 pb w) (pk h.1.lt) (.cells (Cv.cells ⟨8,(0:Nat),aB,nB,cB,aL,nL,cL,aF,f.length,cF⟩) 27)) (av _) (av _));have HC:=aa (lY pb A c bs [112] #[.int .u8 112] 1 (w.alloc (.cells (Cv.cells ⟨8,(0:Nat),aB,nB,cB,aL,nL,cL,aF,f.length,cF⟩) 27)) mL.o rfl rfl (by simp only[aU,bn];omega));rw[hz] at HC;clear h hz hne hno hv hk hs;go_enter func150,ntmps150;go_wp2_with fail;refine HC.o.mono ?_;rintro e w2 ⟨A2,c2,rfl,h1,h2⟩;have dK:=h2.kept.blk bf.o mR.o;have gf:=dK.cell 4;have dC:=dK.lt;have kD:=aa h1
 have HG2:=aa h2;clear h1 h2 HC dK;go_wp2_with fail;go_loopg [5,12] (f.length+1) (fun gk _ i wr=>∃(j:Nat) (A':Option Addr) (c':Nat),j≤f.length∧gk+j=f.length+1∧i=.int .i64 j∧Wr wr pb A' c' (bs++112::((f.take j).map V.dZ).flatten) ∧
  WG (w.alloc (.cells (Cv.cells ⟨8,(0:Nat),aB,nB,cB,aL,nL,cL,aF,f.length,cF⟩) 27)) pb (.slice A bs.length c) wr (.slice A' (bs++112::((f.take j).map V.dZ).flatten).length c'))
 exact⟨0,A2,c2,aS _,rfl,rfl,kD.o,HG2.o⟩;obtain⟨j,A',c',hj,hg,rfl,hw,hgr⟩:=hrel;obtain⟨gk',rfl⟩:=bP gk (by omega);have mY:=aa hw;have yc:=aa hgr;have fM:=HV.o.wg hgr mL.o;clear hw hgr;by_cases hlt:j<f.length
 ·obtain⟨bk,o,x,ha,hbk,es,hsz,e0_,e1,e2,e3,e4,hx⟩:=fM.iR j hlt;dsimp only at ha;subst ha;have C0:=EI hbk mY.o.1.lt;have bG:=yr V.dZ f j hlt;have hm2:=cT List.length bG;rw[bD] at hm2;have hle:=yt V.dZ f (j+1);rw[hm2] at hle;have hkl:(V.dZ f[j]).length=1+((cW f[j].1.data.toList).length+f[j].2.key.length):=by simp[V.dZ];omega
  have hbl:(bs++112::((f.take j).map V.dZ).flatten).length=bs.length+1+((f.take j).map V.dZ).flatten.length:=by simp;omega
  have alp:=HS.o _ (aY hlt);have HX:=aa hx;have iC:=aa bG;have Ha:=aa (HK.o _ (aY hlt));have TL:=aa (show V.dZ f[j]=1::(cW f[j].1.data.toList++f[j].2.key) from rfl);obtain⟨X,hX⟩:∃X,X=bs++112::((f.take j).map V.dZ).flatten:=⟨_,rfl⟩;rw[← hX] at mY yc hbl;have TG:=aa hX;obtain⟨s,hsn⟩:∃s,f[j].1=s:=⟨_,rfl⟩;obtain⟨y,hy⟩:∃y,f[j].2=y:=⟨_,rfl⟩;rw[hsn] at es alp hkl TL hsz;rw[hy] at HX Ha TL hkl;have hsl:s.data.toList.length=s.size:=by simp
  have hel:(cW s.data.toList).length≤2*s.size+2:=by have:=(pJ s.data.toList).2;unfold cW;rw[bD,← hsl];simpa using this
  have hzz:(wr.alloc (.cells (x.lJ s) 82)).heap.size=wr.heap.size+1:=by simp
  have TI:=aa (aH wr 82 (x.lJ s));have Jb:¬ (wr.heap.size=pb∨Value.ownBlock (.slice A' X.length c')=some wr.heap.size):=fun q=>q.elim (fun e=>by have:=mY.o.1.lt;omega) (fun e=>by have:=mY.o.own e;omega)
  have se:=aa Jb;have Jc:=aa (mY.o.al (.cells (x.lJ s) 82));have TJ:=aa (yc.o.alloc (.cells (x.lJ s) 82));have iQ:=aa (lY pb A' c' X [1] #[.int .u8 1] 1 (wr.alloc (.cells (x.lJ s) 82)) Jc.o rfl rfl (by simp only[aU,bn];omega));rw[hzz] at iQ;clear hx fM bG hm2 hX hzz Jb hsn hy;go_wp2_with fail;refine iQ.o.mono ?_;rintro e w3 ⟨A3,sH,rfl,h1,h2⟩;have fR:=h2.kept.blk TI.o se.o;have alq:=fR.cell 0;have UI:=fR.lt;have aX:=aa fR;have mC:=aa h1;have aJ:=aa (TJ.o.trans h2);have HV3:=aa ((HX.o.below (nT (j3 pb wr) (pk mY.o.1.lt) (.cells (x.lJ s) 82)) (av _) (av _)).wg h2 Jc.o)
  have aba:¬ (wr.heap.size=pb∨Value.ownBlock (.slice A3 (X++[(1:UInt8)]).length sH)=some wr.heap.size):=fun q=>q.elim (fun e=>se.o (.inl e)) (h2.ne (by simp) (fun e=>se.o (.inr e)))
  have HN3:=aa aba;have TK:(X++[(1:UInt8)]).length=X.length+1:=by simp
  obtain⟨cw,W4,hrun,hcw,i7,hin⟩:=Al w3 s;have abb:=aa i7;have lf:=aa (h1.grow i7);have au:=aa (fR.grow i7);have hap:Reads (TA W4 pb A3 (X++[(1:UInt8)]).length sH) 1 (some ⟨w3.heap.size,0,none⟩) s.data.toList.length (bw s.data.toList):=by
   refine⟨hin.1,fun hn=>?_⟩;obtain⟨bq,oq,eq,hcl⟩:=hin.2 hn;refine⟨bq,oq,eq,fun j u hu=>?_⟩;injection eq with eq;injection eq with Sm eq2;have:=hcl j u hu;exact⟨this.1,this.2.2,by have:=h1.1.lt;dsimp only;omega,fun e=>by have:=h1.own e;dsimp only at this;omega⟩
  have o_:=aa (TB pb A3 sH _ s.data.toList (some ⟨w3.heap.size,0,none⟩) cw W4 lf.o hap (by rw[hsl];omega));rw[hsl] at o_;clear h1 h2 iQ fR i7 hin hap aba;go_wp2_with fail;refine o_.o.mono ?_;rintro e w5 ⟨A5,MJ,rfl,h1,h2⟩;have vk:=h2.kept.blk au.o HN3.o;have pI:=vk.cell;have amU:=vk.lt;have bC:=aa ((aJ.o.trans (WG.qR pb _ abb.o)).trans h2);have alr:(X++[(1:UInt8)]++cW s.data.toList).length=X.length+1+(cW s.data.toList).length:=by simp;omega
  have HC3:=aa (Ha.o pb A5 MJ _ x w5 h1 ((HV3.o.below (ez abb.o.below (pk mC.o.1.lt)) (av _) (av _)).wg h2 lf.o) (by omega));clear h1 h2 o_ vk alr;go_wp2_with fail;refine HC3.o.mono ?_;rintro e w6 ⟨A6,TD,rfl,h1,h2⟩;have e0:X++[(1:UInt8)]++cW s.data.toList++y.key=bs++112::((f.take (j+1)).map V.dZ).flatten:=by rw[TG.o,iC.o,TL.o];simp
  rw[e0] at h1 h2;have TE:=aa h1;have bR:=aa (bC.o.trans h2);clear h1 h2 HC3 e0 pI alq es e0_ e1 e2 e3 e4 hkl hbl hel TK hrun;go_wp2_with fail;go_roundg gk';exact⟨j+1,A6,TD,by omega,by omega,by go_num,TE.o,bR.o⟩;omega
 obtain rfl:j=f.length:=by omega
 rw[fC] at mY yc;have hbl:(bs++112::(f.map V.dZ).flatten).length=bs.length+1+(f.map V.dZ).flatten.length:=by simp;omega
 have iQ:=aa (lY pb A' c' _ [0] #[.int .u8 0] 1 wr mY.o rfl rfl (by simp only[aU,bn];omega));clear hg hbl fM;go_wp2_with fail;refine iQ.o.mono ?_;rintro e w3 ⟨A3,sH,rfl,h1,h2⟩;have e0:bs++112::(f.map V.dZ).flatten++[0]=bs++112::((f.map V.dZ).flatten++[0]):=by simp
 rw[e0] at h1 h2;have lf:=aa h1;have bz:=aa (yc.o.trans h2);clear h1 h2 iQ e0;go_wp2_with fail;go_end0;exact⟨A3,sH,rfl,lf.o,cm.o.trans bz.o⟩
end
abbrev acu:=@WG.qR
end Go.Proofs.YtndjopkdbdcmdaaGreatDoor
