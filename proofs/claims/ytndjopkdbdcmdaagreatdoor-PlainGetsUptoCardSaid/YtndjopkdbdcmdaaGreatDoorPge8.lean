/- Part 8 of the proof of pgets_card. -/
import Derived.Test.YtndjopkdbdcmdaaGreatDoorPge7
set_option linter.unusedVariables false
set_option linter.unusedSimpArgs false
set_option maxRecDepth 100000
set_option maxHeartbeats 12800000
open Go.Proofs.Tryz
namespace Go.Proofs.YtndjopkdbdcmdaaGreatDoor
variable {A A0:Option Addr}{S:Nat→Prop}{base c g m pb:Nat}{bs:List UInt8}{u v v':Value}{w w' w0 w1:World}
section
open Go.RowKit Go.Shelf
theorem GV(w:World)(b:Nat):(callFunc 188 #[.float .f64 b]).run prog w=.ok (.value (.int .u64 b)) w:=by kernel_rfl
theorem abY(w:World):Calls prog 207 #[.int .i64 (-1)] w fun e w'=>e=.returned (.float .f64 18442240474082181120)∧w=w':=by
 have hb:=x_
 go_enter func207,ntmps207;go_wp2;go_ret;exact⟨rfl,rfl⟩
theorem abZ{f:Nat}{s:Bool}{p:Int}(h:Ieee.double.read f=.number s m p):gZ f=false:=by
 unfold gZ;rw[SI h];rfl
theorem ab0:gZ 18442240474082181120=false:=by decide
theorem amg(f:Nat)(s:Bool)(m:Nat)(p:Int)(hr:Ieee.double.read f=.number s m p)(hm:m≠0)(hp:-1074≤p)(hs:s=false)(hf:1≤f)(hf2:f≤18446744073709551616)(w:World) :
 Calls prog 206 #[.float .f64 f,.float .f64 18442240474082181120] w fun e w'=>e=.returned (.float .f64 (f-1))∧w=w':=by
 have hb:=x_
 have hb2:=GV;have h1:=SI hr;have h2:(FloatKind.f64.format.order f 18442240474082181120==some Ordering.eq)=false:=by
  show (Ieee.double.order f 18442240474082181120==some Ordering.eq)=false;rw[(MC hr).1];rfl
 have h3:(FloatKind.f64.format.order 18442240474082181120 f==some Ordering.gt)=false:=by
  show (Ieee.double.order 18442240474082181120 f==some Ordering.gt)=false;rw[(MC hr).2];rfl
 have h4:(FloatKind.f64.format.order f 0==some Ordering.eq)=false:=by
  show (Ieee.double.order f 0==some Ordering.eq)=false;rw[MD hr hm hp,hs];rfl
 have h4':(FloatKind.f64.format.order f 0==some Ordering.gt)=true:=by
  show (Ieee.double.order f 0==some Ordering.gt)=true;rw[MD hr hm hp,hs];rfl
 have h5:=abZ hr;have h6:=ab0;have hw:IntKind.u64.wrap ((f:Int)-1)=(f:Int)-1:=by rw[IntKind.wrap_u64];omega
 have e1:((f:Int)-1).toNat=f-1:=by omega
 clear hr hs hm hp h1;go_enter func206,ntmps206;go_wp2_with (first
  | (go_at_call 140;refine(zu f _).mono ?_;rintro e w' ⟨rfl,rfl⟩)
  | (go_at_call 140;refine(zu 18442240474082181120 _).mono ?_;rintro e w' ⟨rfl,rfl⟩))
 go_ret;exact⟨by first | rfl | (congr 2;omega),rfl⟩
theorem amh(f:Nat)(s:Bool)(m:Nat)(p:Int)(hr:Ieee.double.read f=.number s m p)(hm:m≠0)(hp:-1074≤p)(hs:s=true)(hf2:f+1<18446744073709551616)(w:World) :
 Calls prog 206 #[.float .f64 f,.float .f64 18442240474082181120] w fun e w'=>e=.returned (.float .f64 (f+1))∧w=w':=by
 have hb:=x_
 have hb2:=GV;have h1:=SI hr;have h2:(FloatKind.f64.format.order f 18442240474082181120==some Ordering.eq)=false:=by
  show (Ieee.double.order f 18442240474082181120==some Ordering.eq)=false;rw[(MC hr).1];rfl
 have h3:(FloatKind.f64.format.order 18442240474082181120 f==some Ordering.gt)=false:=by
  show (Ieee.double.order 18442240474082181120 f==some Ordering.gt)=false;rw[(MC hr).2];rfl
 have h4:(FloatKind.f64.format.order f 0==some Ordering.eq)=false:=by
  show (Ieee.double.order f 0==some Ordering.eq)=false;rw[MD hr hm hp,hs];rfl
 have h4':(FloatKind.f64.format.order f 0==some Ordering.gt)=false:=by
  show (Ieee.double.order f 0==some Ordering.gt)=false;rw[MD hr hm hp,hs];rfl
 have h5:=abZ hr;have h6:=ab0;have hw:IntKind.u64.wrap ((f:Int)+1)=(f:Int)+1:=by rw[IntKind.wrap_u64];omega
 have e1:((f:Int)+1).toNat=f+1:=by omega
 clear hr hs hm hp h1;go_enter func206,ntmps206;go_wp2_with (first
  | (go_at_call 140;refine(zu f _).mono ?_;rintro e w' ⟨rfl,rfl⟩)
  | (go_at_call 140;refine(zu 18442240474082181120 _).mono ?_;rintro e w' ⟨rfl,rfl⟩))
 go_ret;exact⟨by first | rfl | (congr 2;omega),rfl⟩
theorem ami(i:Int)(w:World)(h1:-9223372036854775808≤i)(h2:i≤9223372036854775807) :
 Calls prog 185 #[.int .i64 i] w fun e w'=>e=.returned (.tuple #[.float .f64 (fl i).1,.int .u64 ((fl i).2:Nat)])∧w=w':=by
 have hc:=Ru i h1 h2;obtain⟨g,hg⟩:∃g,(fl i).1=g:=⟨_,rfl⟩;obtain⟨rest,hrest⟩:∃g,(fl i).2=g:=⟨_,rfl⟩;obtain⟨f0,um⟩:∃f0,FloatKind.f64.nearest i=f0:=⟨_,rfl⟩;obtain⟨n,hn⟩:∃n,i-(rest:Int)=n:=⟨_,rfl⟩;rw[hg,hrest,um,hn] at hc;rw[hg,hrest];clear hg hrest;have hv:=JC g n hc.val;have hsm:=hc.small;have hlo:=hc.lo;have hhi:=hc.hi;have hsub:IntKind.u64.wrap (IntKind.u64.wrap i-IntKind.u64.wrap n)=(rest:Int):=by
  have e:=hc.eq;rw[IntKind.wrap_u64,IntKind.wrap_u64,IntKind.wrap_u64];omega
 have Fx:0<i→IntKind.u64.wrap (i-IntKind.u64.wrap n)=(rest:Int):=by
  have e:=hc.eq;intro hi;rw[IntKind.wrap_u64,IntKind.wrap_u64];omega
 have hlt:FloatKind.f64.format.order g 4890909195324358656=some Ordering.lt:=hc.lt;have hfi:floatOfInt FloatKind.f64 i=f0:=um;have hd:decide (i<n)=false:=by simpa using hhi
 have hgb:=hc.bits;have hst:=hc.step;clear hc;clear hn um;have hbb:=x_
 rcases hst with rfl | ⟨hpos,rfl,ho,s,m,p,hr,hm,hp,hs⟩ | ⟨hneg,rfl,⟨ho,n',hv',hn'⟩,s,m,p,hr,hm,hp,hs⟩
 ·by_cases hpos:0<i
  ·have amj:=Fx hpos;clear Fx;go_enter func185,ntmps185;go_wp2;go_ret2;exact⟨rfl,rfl⟩
  clear Fx;go_enter func185,ntmps185;go_wp2;go_ret2;exact⟨rfl,rfl⟩
 ·have HN:=aa (fun w=>amg (g+1) s m p hr hm hp hs (by omega) (by omega) w);rw[Bd] at HN;have amj:=Fx hpos;clear hr hm hp hs Fx;rcases ho with ho | ⟨ho,n',hv',hn'⟩
  focus
   have ho':FloatKind.f64.format.order (g+1) 4890909195324358656=some Ordering.eq:=ho
   clear ho
  rotate_left
  focus
   have ho':FloatKind.f64.format.order (g+1) 4890909195324358656=some Ordering.lt:=ho
   have hv2:=JC (g+1) n' hv'
   have hd2:decide (i<n')=true:=by simpa using hn'
   clear ho hv'
  all_goals
   go_enter func185,ntmps185
   go_wp2_with (first | (go_at_call 207;refine(abY _).mono ?_;rintro e w' ⟨rfl,rfl⟩) | (go_at_call 206;refine(HN.o _).mono ?_;rintro e w' ⟨rfl,rfl⟩))
   go_ret2
   exact⟨rfl,rfl⟩
 have HN:=aa (fun w=>amh f0 s m p hr hm hp hs (by omega) w);have ho':FloatKind.f64.format.order f0 4890909195324358656=some Ordering.lt:=ho;have hv2:=JC f0 n' hv';have hd2:decide (i<n')=true:=by simpa using hn'
 clear hr hm hp hs ho hv' Fx;go_enter func185,ntmps185;go_wp2_with (first | (go_at_call 207;refine(abY _).mono ?_;rintro e w' ⟨rfl,rfl⟩) | (go_at_call 206;refine(HN.o _).mono ?_;rintro e w' ⟨rfl,rfl⟩));go_ret2;exact⟨rfl,rfl⟩
end
section
open Go.RowKit Go.Shelf
structure WG (w:World) (pb:Nat) (v:Value) (w':World) (v':Value):Prop where
 kept:Kept (fun k=>k=pb∨v.ownBlock=some k) w w'
 own:v'.ownBlock=v.ownBlock∨∃k,v'.ownBlock=some k∧w.heap.size≤k
theorem WG.refl(w:World)(pb:Nat)(v:Value):WG w pb v w v:=⟨cZ _ _,.inl rfl⟩
theorem WG.trans{w2:World}{v1 v2:Value}(h:WG w pb v w1 v1)(k:WG w1 pb v1 w2 v2):WG w pb v w2 v2:=by
 refine⟨⟨k.kept.os.trans h.kept.os,k.kept.tape.trans h.kept.tape,k.kept.output.trans h.kept.output,aV h.kept.size k.kept.size,fun i hi hs=>?_⟩,?_⟩
 ·refine(k.kept.block i (bG hi h.kept.size) (fun q=>?_)).trans (h.kept.block i hi hs);rcases q with q | q
  ·exact hs (.inl q)
  rcases h.own with e | ⟨j,e,hj⟩
  ·exact hs (.inr (e ▸ q))
  rw[e] at q;injection q with q;omega
 rcases k.own with e | ⟨j,e,hj⟩
 ·rw[e];exact h.own
 exact .inr ⟨j,e,aV h.kept.size hj⟩
theorem WG.sK(pb:Nat)(v:Value)(h:Grow w w'):WG w pb v w' v:=⟨gN h,.inl rfl⟩
theorem WG.alloc{v1:Value}(h:WG w pb v w1 v1)(o:Obj):WG w pb v (w1.alloc o) v1:=h.trans (WG.sK pb v1 ((ah w1).alloc o))
theorem WG.ne(h:WG w pb v w' v')(hg:g<w.heap.size)(hn:v.ownBlock≠some g):v'.ownBlock≠some g:=by
 intro e;rcases h.own with q | ⟨k,q,hk⟩
 ·exact hn (q ▸ e)
 rw[q] at e;injection e with e;omega
def Wr(w:World)(pb:Nat)(A:Option Addr)(c:Nat)(bs:List UInt8):Prop:=
 Blk w pb 150 #[.slice A bs.length c]∧Row w (pb+1) (.slice A bs.length c) bs.length bs
theorem Wr.own(h:Wr w pb A c bs){k:Nat}(hk:Value.ownBlock (.slice A bs.length c)=some k):pb<k∧k<w.heap.size:=by
 have:=bJ h.2 k hk;omega
theorem Wr.grow(h:Wr w pb A c bs)(hg:Grow w w'):Wr w' pb A c bs:=⟨h.1.grow hg,h.2.grow hg⟩
theorem WG.below(h:WG w pb (.slice A bs.length c) w' v')(hw:Wr w pb A c bs):Below pb w w':=
 h.kept.below (qp hw.1.lt) (fun q hq=>hq.elim (fun e=>by omega) (fun e=>by have:=hw.own e;omega))
theorem Kept.amk(h:wF w v w' v')(hs:∀k,v.ownBlock=some k→S k):Kept S w w':=
 ⟨h.grow.os,h.grow.tape,h.grow.output,h.grow.size,fun k hk hn=>h.grow.block k hk (fun e=>hn (hs k e.symm))⟩
theorem Row.set{xs:List UInt8}(h:Row w base v m xs){p:Addr}(hp:p.block<base)(u:Value):Row (w.setCell p u) base v m xs:=by
 rcases h.2 with h0 | ⟨g,cap,cur,rfl,hb,hg,hr⟩
 ·exact⟨h.1,.inl h0⟩
 exact⟨h.1,.inr ⟨g,cap,cur,rfl,hb,Blk.far (t:=5) (cs:=cur) hg (by omega) u,hr⟩⟩
def mR(w:World)(pb:Nat)(A:Option Addr)(n c:Nat)(bs':List UInt8)(e:Ending)(w':World):Prop:=
 ∃A' c',e=.returned (.tuple #[])∧Wr w' pb A' c' bs'∧WG w pb (.slice A n c) w' (.slice A' bs'.length c')
theorem aml(pb:Nat)(A:Option Addr)(c:Nat)(bs:List UInt8)(Y:Value)(ys:List UInt8)(w:World)(h:Wr w pb A c bs)(hs:Src prog 1 23 Y ys.length (b_ ys) w)
 (hl:bs.length+ys.length≤140737488400000):Calls prog 184 #[.pointer (some ⟨pb,0,none⟩),Y] w (mR w pb A bs.length c (bs++ys)):=by
 have hc:=h.1.cell 0;have hlt:=h.1.lt;have hfz:=h.1.frozen;have HW:=aa h;have HS:=aa hs;clear h hs;go_enter func184,ntmps184;go_wp2_with (at_builtin;refine gA (ys:=ys) rfl (.tmp 8) (.tmp 9) _ rfl rfl HW.o.2 _ rfl HS.o (by omega) (by omega) ?_;intro A1 c1 w1 hr1 hg1;have fO:=aa hr1;have aO:=aa hg1;have hb1:=HW.o.1.own hg1.grow (fun k hk=>by have:=HW.o.own hk;omega);have cP:=aa hb1;have hc1:=hb1.cell 0;have aoy:=hb1.frozen 0;have ku:=hb1.lt;clear hr1 hg1 hb1);go_end0;have hn:(bs++ys).length=bs.length+ys.length:=bp;have hb2:Blk (w1.setCell ⟨pb,0,none⟩ (.slice A1 (bs.length+ys.length) c1)) pb 150 #[.slice A1 (bs.length+ys.length) c1]:=cP.o.aY 0 _;refine⟨A1,c1,rfl,⟨by rw[hn];exact hb2,by rw[hn];exact fO.o.set (by simp) _⟩,?_⟩;rw[hn]
 refine⟨(Kept.amk (S:=fun k=>k=pb∨Value.ownBlock (.slice A bs.length c)=some k) aO.o (fun k hk=>.inr hk)).set (p:=⟨pb,0,none⟩) (.inl rfl) _,aO.o.lies⟩
theorem Xf{n:Nat}(zs:List UInt8)(cs:Array Value)(hn:zs.length=n)(hb:Blk w g 5 cs)(he:cs=(b_ zs).toArray):Src prog 1 23 (.slice (some ⟨g,0,none⟩) n n) zs.length (b_ zs) w:=by
 subst hn he;refine Src.ofSlice w fk ⟨g,0,none⟩ zs.length zs.length (b_ zs) (by rw[Ds];simp) (fun j u hu=>?_) (iI _);rw[add_lit,eo,hb.cell];simpa using hu
theorem Xc(n size j:Nat)(h:j<size):(be size n).take (size-j)=(be size n).take (size-(j+1))++[UInt8.ofNat (n / 256 ^ j)]:=by
 have e:size-j=(size-(j+1))+1:=by omega
 rw[e,py _ _ (by rw[g_];omega)];congr 2;have:(be size n)[size-(j+1)]'(by rw[g_];omega)=(kW size n)[j]'(by rw[jJ];exact h):=by
  unfold be;rw[List.getElem_reverse];congr 1;rw[jJ];omega
 rw[this];simp[kW]
theorem mH(pb:Nat)(A:Option Addr)(c:Nat)(bs:List UInt8)(zs:List UInt8)(cs:Array Value)(n:Nat)(w:World)(h:Wr w pb A c bs)(hn:zs.length=n)(he:cs=(b_ zs).toArray)
 (hl:bs.length+zs.length≤140737488400000):Calls prog 184 #[.pointer (some ⟨pb,0,none⟩),.slice (some ⟨w.heap.size,0,none⟩) n n] (w.alloc (.cells cs 5)) (mR w pb A bs.length c (bs++zs)):=by
 refine(aml pb A c bs _ zs _ (h.grow ((ah w).alloc _)) (Xf zs cs hn (az w _ cs) he) hl).mono ?_;rintro e w' ⟨A',c',rfl,h1,h2⟩;exact⟨A',c',rfl,h1,(WG.sK pb _ ((ah w).alloc _)).trans h2⟩
theorem amm(pb:Nat)(A:Option Addr)(c:Nat)(bs:List UInt8)(n size:Nat)(w:World)(h:Wr w pb A c bs)(hs:size≤8)(hn:n<18446744073709551616)
 (hl:bs.length+8≤140737488355328):Calls prog 186 #[.pointer (some ⟨pb,0,none⟩),.int .u64 n,.int .i64 size] w (mR w pb A bs.length c (bs++be size n)):=by
 have HW:=aa h;clear h;go_enter func186,ntmps186;go_wp2_with fail;go_loopg [6] (size+1) (fun gk i wr=>∃(r:Nat) (z:Int) (A':Option Addr) (c':Nat),r≤size∧gk=r+1∧z+1=(r:Int)∧i=.int .i64 z∧Wr wr pb A' c' (bs++(be size n).take (size-r)) ∧
  WG w pb (.slice A bs.length c) wr (.slice A' (bs++(be size n).take (size-r)).length c'))
 exact⟨size,(size:Int)-1,A,c,au _,rfl,by omega,rfl,by rw[y_,FT,oZ];exact HW.o,by rw[y_,FT,oZ];exact WG.refl _ _ _⟩;obtain⟨r,z,A',c',hr,rfl,hz,rfl,hw,hg⟩:=hrel;have lq:=aa hw;have HG2:=aa hg;clear hw hg;by_cases h0:r=0
 ·subst h0;have hz0:z=-1:=by omega
  subst hz0;clear hz;go_wp2_with fail;go_end0;have e:(be size n).take (size-0)=be size n:=rB (by rw[g_];omega);rw[e] at lq HG2;exact⟨A',c',rfl,lq.o,HG2.o⟩
 obtain⟨j,rfl⟩:∃j,r=j+1:=⟨r-1,by omega⟩;obtain rfl:z=(j:Int):=by omega
 clear hz h0;have hB:(#[.int .u8 ((n:Int) / 2 ^ (8*j) % 256)]:Array Value)=(b_ [UInt8.ofNat (n / 256 ^ j)]).toArray:=by
  show _=(#[.int .u8 ((UInt8.ofNat (n / 256 ^ j)).toNat:Int)]:Array Value);rw[Oj,← Oi];rfl
 have HB:=aa hB;clear hB;have hlen:(bs++(be size n).take (size-(j+1))).length≤bs.length+8:=by rw[bp,dU];omega
 have mz:=aa (mH pb A' c' _ [UInt8.ofNat (n / 256 ^ j)] _ 1 wr lq.o rfl HB.o (by simp only[aU,bT];omega));rw[nv,← Xc n size j (by omega)] at mz;go_wp2_with fail;refine mz.o.mono ?_;rintro e w2 ⟨A2,c2,rfl,h1,h2⟩;have nr:=aa h1;have aG:=aa (HG2.o.trans h2);clear h1 h2 mz hlen;go_wp2_with fail;go_roundg (j+1);exact⟨j,(j:Int)-1,A2,c2,by omega,rfl,by omega,rfl,nr.o,aG.o⟩;omega
def U5(w:World)(pb:Nat)(A:Option Addr)(n c:Nat)(p:Addr)(u:Value):Prop:=w.cell? p=some u∧p.block<w.heap.size∧p.block≠pb∧Value.ownBlock (.slice A n c)≠some p.block
theorem WG.cell{n:Nat}(h:WG w pb (.slice A n c) w' v'){p:Addr}(hp:U5 w pb A n c p u):w'.cell? p=some u:=
 (uy (h.kept.block p.block hp.2.1 (fun q=>q.elim hp.2.2.1 hp.2.2.2))).trans hp.1
theorem U6(pb:Nat)(A:Option Addr)(c:Nat)(bs:List UInt8)(b:List UInt8)(B:Option Addr)(bc:Nat)(w:World)(h:Wr w pb A c bs)(hb:Reads (U5 w pb A bs.length c) 1 B b.length (b_ b))
 (hl:bs.length+2*b.length+2≤140737488355328):Calls prog 189 #[.pointer (some ⟨pb,0,none⟩),.slice B b.length bc] w (mR w pb A bs.length c (bs++eH b)):=by
 have HW:=aa h;have HB:=aa hb;have hbl:b.length≤140737488355328:=by omega
 clear h hb;go_enter func189,ntmps189;go_wp2_with fail;go_loopg [5,8] (b.length+1) (fun gk _ i wr=>∃(k:Nat) (A':Option Addr) (c':Nat),k≤b.length∧gk+k=b.length+1∧i=.int .i64 k∧Wr wr pb A' c' (bs++iX (b.take k)) ∧
  WG w pb (.slice A bs.length c) wr (.slice A' (bs++iX (b.take k)).length c'))
 exact⟨0,A,c,aR _,rfl,rfl,by rw[FT,iX,oZ];exact HW.o,by rw[FT,iX,oZ];exact WG.refl _ _ _⟩;obtain⟨k,A',c',hk,hg,rfl,hw,hgr⟩:=hrel;have lq:=aa hw;have HG2:=aa hgr;clear hw hgr;by_cases hlt:k<b.length
 ·obtain⟨gk',rfl⟩:=bz gk (by omega);obtain⟨bk,o,rfl,hcell⟩:=HB.o.2 (by omega);have hc:=HG2.o.cell (hcell k _ (wE b k hlt));have aoz:=HG2.o.kept.size;have dO:=(hcell k _ (wE b k hlt)).2.1;have hstep:iX (b.take (k+1))=iX (b.take k)++(if b[k]=0 then [0,255] else [b[k]]):=by rw[py b k hlt,Xd]
  have hel:(bs++iX (b.take k)).length≤bs.length+2*b.length:=by
   have:=(qF (b.take k)).2;rw[dU] at this;rw[bp];omega
  clear hcell;by_cases hx:b[k]=0
  ·rw[aD hx] at hstep;rw[hx] at hc;have hc':wr.cell? ⟨bk,o+k,none⟩=some (.int .u8 0):=hc;have HST:=aa hstep;have iB:=aa (mH pb A' c' _ [0] #[.int .u8 0] 1 wr lq.o rfl rfl (by simp only[aU,bT];omega));have Ev:(bs++iX (b.take k)++[0]).length≤bs.length+2*b.length+1:=by rw[bp];simp only[aU,bT];omega
   clear hx hstep hc;go_wp2_with fail;refine iB.o.mono ?_;rintro e w2 ⟨A2,c2,rfl,h1,h2⟩;have mO:=aa (mH pb A2 c2 _ [255] #[.int .u8 255] 1 w2 h1 rfl rfl (by simp only[aU,bT];omega));have aG:=aa (HG2.o.trans h2);clear h1 h2 iB;go_wp2_with fail;refine mO.o.mono ?_;rintro e w3 ⟨A3,c3,rfl,h1,h2⟩;have e1:bs++iX (b.take k)++[0]++[255]=bs++iX (b.take (k+1)):=by rw[HST.o];simp
   rw[e1] at h1 h2;have lZ:=aa h1;have bP:=aa (aG.o.trans h2);clear h1 h2 mO hel Ev hc' e1;go_wp2_with fail;go_roundg gk';exact⟨k+1,A3,c3,by omega,by omega,by go_num,lZ.o,bP.o⟩;omega
  rw[ak hx] at hstep;have HST:=aa hstep;obtain⟨x,vh⟩:∃x,b[k]=x:=⟨_,rfl⟩;obtain⟨m,hm⟩:∃m,x.toNat=m:=⟨_,rfl⟩;have hne:((m:Int)==0)=false:=by
   have:m≠0:=by
    intro e;apply hx;rw[vh];apply yZ.1;rw[hm,e];rfl
   simp;omega
  rw[vh] at HST;rw[vh,hm] at hc;have iB:=aa (mH pb A' c' _ [x] #[.int .u8 (m:Int)] 1 wr lq.o rfl (by rw[← hm];rfl) (by simp only[aU,bT];omega));clear hx hstep vh hm;go_wp2_with fail;refine iB.o.mono ?_;rintro e w2 ⟨A2,c2,rfl,h1,h2⟩;have e1:bs++iX (b.take k)++[x]=bs++iX (b.take (k+1)):=by rw[HST.o];simp
  rw[e1] at h1 h2;have lZ:=aa h1;have bP:=aa (HG2.o.trans h2);clear h1 h2 iB hel hc e1;go_wp2_with fail;go_roundg gk';exact⟨k+1,A2,c2,by omega,by omega,by go_num,lZ.o,bP.o⟩;omega
 obtain rfl:k=b.length:=by omega
 rw[fT] at lq HG2;have hel:(bs++iX b).length≤bs.length+2*b.length:=by
  have:=(qF b).2;rw[bp];omega
 have iB:=aa (mH pb A' c' _ [0,0] #[.int .u8 0,.int .u8 0] 2 wr lq.o rfl rfl (by simp only[aU,bT];omega));rw[nv] at iB;clear hg hel;go_wp2_with fail;refine iB.o.mono ?_;rintro e w2 ⟨A2,c2,rfl,h1,h2⟩;have lZ:=aa h1;have bP:=aa (HG2.o.trans h2);clear h1 h2 iB;go_wp2_with fail;go_end0;exact⟨A2,c2,rfl,lZ.o,bP.o⟩
end
section
open Go.RowKit Go.Shelf
theorem GS:(2:Nat) ^ 63=9223372036854775808:=by decide
theorem Qb:(2:Nat) ^ 64=18446744073709551616:=by decide
theorem amn(n:Nat)(h:n<18446744073709551616):n &&& 9223372036854775808=if n<9223372036854775808 then 0 else 9223372036854775808:=by
 rw[← GS];have hb:n.testBit 63=decide (2 ^ 63≤n):=by
  rw[Nat.testBit_eq_decide_div_mod_eq,GS];by_cases h1:9223372036854775808≤n
  ·rw[cj h1,cj];omega
  rw[cm h1,cm];omega
 apply Kg;intro i;rw[Nat.testBit_and,Kh];by_cases hi:63=i
 ·subst hi;rw[hb];by_cases h1:n<2 ^ 63
  ·rw[aD h1,cm (by omega)];simp
  rw[ak h1,cj (by omega),Kh];simp
 rw[cm hi,Bool.and_false];split
 ·simp
 rw[Kh,cm hi]
theorem Qc(n:Nat)(h:n<9223372036854775808):n ^^^ 9223372036854775808=n+9223372036854775808:=by
 rw[← GS] at h ⊢;apply Kg;intro i;rw[Nat.testBit_xor,Kh,FU];rcases Ki i 63 with hi | rfl | hi
 ·rw[Nat.testBit_two_pow_add_gt hi,cm (by omega),Bool.xor_false]
 ·rw[Nat.testBit_two_pow_add_eq];simp
 have h2:n<2 ^ i:=bG h (ny (by omega) (by omega));have h3:2 ^ 63+n<2 ^ i:=bG (show 2 ^ 63+n<2 ^ 64 by rw[AX];omega) (ny (by omega) (by omega));rw[Kj h2,Kj h3,cm (by omega),Bool.xor_false]
theorem amo(n:Nat)(h1:9223372036854775808≤n)(h:n<18446744073709551616):n ^^^ 9223372036854775808=n-9223372036854775808:=by
 obtain⟨m,rfl⟩:∃m,n=m+9223372036854775808:=⟨n-9223372036854775808,by omega⟩;have hm:=Qc m (by omega);rw[Bd,← hm,Nat.xor_assoc,Nat.xor_self,Nat.xor_zero]
theorem amq(n:Nat)(h:n<18446744073709551616):18446744073709551615 ^^^ n=18446744073709551615-n:=by
 apply Kg;intro i;have e1:(18446744073709551615:Nat)=2 ^ 64-1:=by decide
 have e2:18446744073709551615-n=2 ^ 64-(n+1):=by rw[e1];omega
 rw[Nat.testBit_xor,e2,Nat.testBit_two_pow_sub_succ (by rw[Qb];exact h),e1,Nat.testBit_two_pow_sub_one];by_cases hi:i<64
 ·simp[hi]
 have:n.testBit i=false:=Kj (bG h (by rw[← Qb];exact ny (by omega) (by omega)));simp[hi,this]
theorem amr(n:Nat)(h:n<18446744073709551616):bits .and .u64 (n:Int) 9223372036854775808=if n<9223372036854775808 then 0 else 9223372036854775808:=by
 have:=u64_and_nat n 9223372036854775808 h (by decide);rw[amn n h] at this;rw[show (9223372036854775808:Int)=((9223372036854775808:Nat):Int) from rfl,this];split<;>rfl
theorem Xb(n:Nat)(h:n<18446744073709551616):bits .xor .u64 IntKind.u64.max (n:Int)=((18446744073709551615-n:Nat):Int):=by
 have:=u64_xor_nat 18446744073709551615 n (by decide) h;rw[amq n h] at this;exact this
theorem ams(n:Nat)(h:n<18446744073709551616):bits .xor .u64 (n:Int) 9223372036854775808=(if n<9223372036854775808 then ((n+9223372036854775808:Nat):Int) else ((n-9223372036854775808:Nat):Int)):=by
 have:=u64_xor_nat n 9223372036854775808 h (by decide);split
 ·rename_i h1;rw[Qc n h1] at this;exact this
 rename_i h1;rw[amo n (by omega) h] at this;exact this
theorem ab1(n:Nat)(w:World)(hn:n<18446744073709551616):Calls prog 187 #[.int .u64 n] w fun e w'=>e=.returned (.int .u64 (jT n:Nat))∧w=w':=by
 have h1:=amr n hn;have h2:=Xb n hn;have h3:=ams n hn;by_cases hlt:n<9223372036854775808
 ·rw[aD hlt] at h1 h3;have ht:jT n=n+9223372036854775808:=by rw[jT,aD hlt]
  clear h2;go_enter func187,ntmps187;go_wp2;go_ret;exact⟨by first | rfl | (rw[ht];rfl),rfl⟩
 rw[ak hlt] at h1 h3;have ht:jT n=18446744073709551615-n:=by rw[jT,ak hlt]
 clear h3;go_enter func187,ntmps187;go_wp2;go_ret;exact⟨by first | rfl | (rw[ht];rfl),rfl⟩
theorem Wr.al(h:Wr w pb A c bs)(o:Obj):Wr (w.alloc o) pb A c bs:=h.grow ((ah w).alloc o)
theorem adA(pb:Nat)(A:Option Addr)(c:Nat)(bs:List UInt8)(cv:Cv)(w:World)(h:Wr w pb A c bs)(hl:bs.length+1≤140737488355328) :
 Calls prog 144 #[.pointer (some ⟨pb,0,none⟩),cv.agg] w (mR w pb A bs.length c (bs++[16])):=by
 have hz:(w.alloc (.cells cv.cells 27)).heap.size=w.heap.size+1:=by simp
 have HC:=aa (mH pb A c bs [16] #[.int .u8 16] 1 _ (h.al (.cells cv.cells 27)) rfl rfl (by simp only[aU,bT];omega));rw[hz] at HC;clear h hz;go_enter func144,ntmps144;go_wp2_with fail;refine HC.o.mono ?_;rintro e w2 ⟨A2,c2,rfl,h1,h2⟩;have HW:=aa h1;have HG:=aa ((WG.sK pb _ ((ah w).alloc (.cells cv.cells 27))).trans h2);clear h1 h2 HC;go_wp2_with fail;go_end0;exact⟨A2,c2,rfl,HW.o,HG.o⟩
theorem adB(pb:Nat)(A:Option Addr)(c:Nat)(bs:List UInt8)(cv:Cv)(n:Nat)(hn:n≤1)(hcv:cv.n=(n:Int))(w:World)(h:Wr w pb A c bs)(hl:bs.length+2≤140737488355328) :
 Calls prog 145 #[.pointer (some ⟨pb,0,none⟩),cv.agg] w (mR w pb A bs.length c (bs++[32,UInt8.ofNat n])):=by
 obtain⟨c1,c2,c3,c4,c5,c6,c7,c8,c9,c10,c11⟩:=cv;dsimp only at hcv;subst hcv;have hz:(w.alloc (.cells (Cv.cells ⟨c1,n,c3,c4,c5,c6,c7,c8,c9,c10,c11⟩) 27)).heap.size=w.heap.size+1:=by simp
 have HC:=aa (mH pb A c bs [32,UInt8.ofNat n] #[.int .u8 32,.int .u8 (n:Int)] 2 _ (h.al (.cells (Cv.cells ⟨c1,n,c3,c4,c5,c6,c7,c8,c9,c10,c11⟩) 27)) rfl (by
  show (#[.int .u8 32,.int .u8 (n:Int)]:Array Value)=#[.int .u8 32,.int .u8 ((UInt8.ofNat n).toNat:Int)];rw[aku n (by omega)]) (by simp only[aU,bT];omega))
 rw[hz] at HC;have hw:IntKind.u8.wrap (n:Int)=(n:Int):=by rw[Kk];omega
 clear h hz;go_enter func145,ntmps145;go_wp2_with fail;refine HC.o.mono ?_;rintro e w2 ⟨A2,c2,rfl,h1,h2⟩;have HW:=aa h1;have HG:=aa ((WG.sK pb _ ((ah w).alloc (.cells (Cv.cells ⟨c1,n,c3,c4,c5,c6,c7,c8,c9,c10,c11⟩) 27))).trans h2);clear h1 h2 HC;go_wp2_with fail;go_end0;exact⟨A2,c2,rfl,HW.o,HG.o⟩
theorem JJ{n0 c0:Nat}(zs:List UInt8)(cs:Array Value)(n:Nat)(h:Wr w pb A c bs)(hg:WG w0 pb (.slice A0 n0 c0) w (.slice A bs.length c))(hn:zs.length=n)(he:cs=(b_ zs).toArray)
 (hl:bs.length+zs.length≤140737488400000):Calls prog 184 #[.pointer (some ⟨pb,0,none⟩),.slice (some ⟨w.heap.size,0,none⟩) n n] (w.alloc (.cells cs 5)) (mR w0 pb A0 n0 c0 (bs++zs)):=by
 refine(mH pb A c bs zs cs n w h hn he hl).mono ?_;rintro e w' ⟨A',c',rfl,h1,h2⟩;exact⟨A',c',rfl,h1,hg.trans h2⟩
theorem NF{n0 c0:Nat}(n size:Nat)(h:Wr w pb A c bs)(hg:WG w0 pb (.slice A0 n0 c0) w (.slice A bs.length c))(hs:size≤8)(hn:n<18446744073709551616)
 (hl:bs.length+8≤140737488355328):Calls prog 186 #[.pointer (some ⟨pb,0,none⟩),.int .u64 n,.int .i64 size] w (mR w0 pb A0 n0 c0 (bs++be size n)):=by
 refine(amm pb A c bs n size w h hs hn hl).mono ?_;rintro e w' ⟨A',c',rfl,h1,h2⟩;exact⟨A',c',rfl,h1,hg.trans h2⟩
theorem adC(pb:Nat)(A:Option Addr)(c:Nat)(bs:List UInt8)(n:Nat)(hn:n<18446744073709551616)(c3 c6 c9:Option Addr)(c4 c5 c7 c8 c10 c11:Nat)(w:World)(h:Wr w pb A c bs)(hl:bs.length+40≤140737488355328) :
 Calls prog 146 #[.pointer (some ⟨pb,0,none⟩),Cv.agg ⟨3,n,c3,c4,c5,c6,c7,c8,c9,c10,c11⟩] w (mR w pb A bs.length c (bs++48::uV n)):=by
 have hi:=KP n hn;have hb:=GV;have hcv:IntKind.i64.wrap (n:Int)=i64 n:=by unfold i64;rw[df];split<;>omega
 have hfc:=Ru (i64 n) hi.1 hi.2;have lF:=ami (i64 n);obtain⟨g,hg⟩:∃g,(fl (i64 n)).1=g:=⟨_,rfl⟩;obtain⟨rest,hrest⟩:∃g,(fl (i64 n)).2=g:=⟨_,rfl⟩;have hkey:uV n=1::(be 8 (jT g)++(be 2 rest++[0])):=by unfold uV;rw[hg,hrest]
 rw[hg,hrest] at hfc lF;have jg:=aa (fun w=>lF w hi.1 hi.2);have HT:=aa (fun w=>ab1 g w hfc.bits);have ht:=Hz g hfc.bits;have hrs:=hfc.small;have HKEY:=aa hkey;clear hfc lF hkey hg hrest;obtain⟨i,hin⟩:∃i,i64 n=i:=⟨_,rfl⟩;rw[hin] at hcv jg hi;clear hin;obtain⟨tg,JK⟩:∃x,jT g=x:=⟨_,rfl⟩;rw[JK] at HT ht HKEY;clear JK;have hz:(w.alloc (.cells (Cv.cells ⟨3,n,c3,c4,c5,c6,c7,c8,c9,c10,c11⟩) 27)).heap.size=w.heap.size+1:=by simp
 have bI:=aa (WG.sK pb (.slice A bs.length c) ((ah w).alloc (.cells (Cv.cells ⟨3,n,c3,c4,c5,c6,c7,c8,c9,c10,c11⟩) 27)));have bO:=aa (az w 27 (Cv.cells ⟨3,n,c3,c4,c5,c6,c7,c8,c9,c10,c11⟩));have hne:w.heap.size≠pb:=by have:=h.1.lt;omega
 have hno:Value.ownBlock (.slice A bs.length c)≠some w.heap.size:=fun e=>by have:=h.own e;omega
 have nI:=aa (fun q:w.heap.size=pb∨Value.ownBlock (.slice A bs.length c)=some w.heap.size=>q.elim hne hno);have HC:=aa (mH pb A c bs [48] #[.int .u8 48] 1 (w.alloc (.cells (Cv.cells ⟨3,n,c3,c4,c5,c6,c7,c8,c9,c10,c11⟩) 27)) (h.al _) rfl rfl (by simp only[aU,bT];omega));rw[hz] at HC;clear h hz hne hno;go_enter func146,ntmps146;go_wp2_with fail;refine HC.o.mono ?_;rintro e w2 ⟨A2,c2,rfl,h1,h2⟩;have dH:=h2.kept.blk bO.o nI.o;have hc0:=dH.cell 0;have hc1:=dH.cell 1;have dO:=dH.lt;have bf:=aa dH;have lq:=aa h1;have HG2:=aa h2;have qy:(bs++[48]).length=bs.length+1:=by simp
 have hl2:(bs++[48]).length+30≤140737488355328:=by omega
 clear h1 h2 HC dH qy;go_wp2_with fail;refine(jg.o _).mono ?_;rintro e w' ⟨rfl,rfl⟩;have HC:=aa (JJ [1] #[.int .u8 1] 1 lq.o HG2.o rfl rfl (by simp only[bp,aU,bT,g_] at *;omega));go_wp2_with fail;refine HC.o.mono ?_;rintro e w3 ⟨A3,uw,rfl,h1,h2⟩;have nr:=aa h1;have aG:=aa h2;clear h1 h2 HC;go_wp2_with fail;refine(HT.o _).mono ?_;rintro e w' ⟨rfl,rfl⟩;have HC:=aa (NF tg 8 nr.o aG.o (by omega) ht (by simp only[bp,aU,bT,g_] at *;omega));go_wp2_with fail;refine HC.o.mono ?_;rintro e w4 ⟨A4,JL,rfl,h1,h2⟩;have lZ:=aa h1;have bP:=aa h2;clear h1 h2 HC
 have HC:=aa (NF rest 2 lZ.o bP.o (by omega) (by omega) (by simp only[bp,aU,bT,g_] at *;omega));go_wp2_with fail;refine HC.o.mono ?_;rintro e w5 ⟨A5,NG,rfl,h1,h2⟩;have U7:=aa h1;have a_:=aa h2;clear h1 h2 HC;have HC:=aa (JJ [0] #[.int .u8 0] 1 U7.o a_.o rfl rfl (by simp only[bp,aU,bT,g_] at *;omega));go_wp2_with fail;refine HC.o.mono ?_;rintro e w6 ⟨A6,U8,rfl,h1,h2⟩;have U9:=aa h1;have aW:=aa h2;clear h1 h2 HC;go_wp2_with fail;go_end0;have e0:bs++[48]++[1]++be 8 tg++be 2 rest++[0]=bs++48::uV n:=by rw[HKEY.o];simp
 have HX:=U9.o;have HY:=aW.o;rw[e0] at HX HY;exact⟨A6,U8,rfl,HX,bI.o.trans HY⟩
theorem adD(pb:Nat)(A:Option Addr)(c:Nat)(bs:List UInt8)(n:Nat)(hn:n<18446744073709551616)(sB:gZ n=true)(c3 c6 c9:Option Addr)(c4 c5 c7 c8 c10 c11:Nat)(w:World)(h:Wr w pb A c bs)(hl:bs.length+40≤140737488355328) :
 Calls prog 146 #[.pointer (some ⟨pb,0,none⟩),Cv.agg ⟨4,n,c3,c4,c5,c6,c7,c8,c9,c10,c11⟩] w (mR w pb A bs.length c (bs++48::oC n)):=by
 have hb:=x_
 have HKEY:=aa (show oC n=0::be 8 n by unfold oC;rw[aD sB]);have hz:(w.alloc (.cells (Cv.cells ⟨4,n,c3,c4,c5,c6,c7,c8,c9,c10,c11⟩) 27)).heap.size=w.heap.size+1:=by simp
 have bI:=aa (WG.sK pb (.slice A bs.length c) ((ah w).alloc (.cells (Cv.cells ⟨4,n,c3,c4,c5,c6,c7,c8,c9,c10,c11⟩) 27)));have bO:=aa (az w 27 (Cv.cells ⟨4,n,c3,c4,c5,c6,c7,c8,c9,c10,c11⟩));have hne:w.heap.size≠pb:=by have:=h.1.lt;omega
 have hno:Value.ownBlock (.slice A bs.length c)≠some w.heap.size:=fun e=>by have:=h.own e;omega
 have nI:=aa (fun q:w.heap.size=pb∨Value.ownBlock (.slice A bs.length c)=some w.heap.size=>q.elim hne hno);have HC:=aa (mH pb A c bs [48] #[.int .u8 48] 1 (w.alloc (.cells (Cv.cells ⟨4,n,c3,c4,c5,c6,c7,c8,c9,c10,c11⟩) 27)) (h.al _) rfl rfl (by simp only[aU,bT];omega));rw[hz] at HC;clear h hz hne hno;go_enter func146,ntmps146;go_wp2_with fail;refine HC.o.mono ?_;rintro e w2 ⟨A2,c2,rfl,h1,h2⟩;have dH:=h2.kept.blk bO.o nI.o;have hc0:=dH.cell 0;have hc1:=dH.cell 1;have dO:=dH.lt;have bf:=aa dH;have lq:=aa h1;have HG2:=aa h2;have qy:(bs++[48]).length=bs.length+1:=by simp
 have hl2:(bs++[48]).length+30≤140737488355328:=by omega
 clear h1 h2 HC dH qy;go_wp2_with fail;refine(zu n _).mono ?_;rintro e w' ⟨rfl,rfl⟩;have amt:=sB;have HC:=aa (JJ [0] #[.int .u8 0] 1 lq.o HG2.o rfl rfl (by simp only[bp,aU,bT,g_] at *;omega));go_wp2_with fail;refine HC.o.mono ?_;rintro e w3 ⟨A3,uw,rfl,h1,h2⟩;have nr:=aa h1;have aG:=aa h2;clear h1 h2 HC;have f_:=aG.o.kept.blk bO.o nI.o;have amu:=f_.cell 1;have T4:=f_.lt;clear f_;have HC:=aa (NF n 8 nr.o aG.o (by omega) hn (by simp only[bp,aU,bT,g_] at *;omega));go_wp2_with fail;refine HC.o.mono ?_;rintro e w4 ⟨A4,JL,rfl,h1,h2⟩;have lZ:=aa h1;have bP:=aa h2;clear h1 h2 HC;go_wp2_with fail;go_end0
 have e0:bs++[48]++[0]++be 8 n=bs++48::oC n:=by rw[HKEY.o];simp
 have HX:=lZ.o;have HY:=bP.o;rw[e0] at HX HY;exact⟨A4,JL,rfl,HX,bI.o.trans HY⟩
theorem adE(pb:Nat)(A:Option Addr)(c:Nat)(bs:List UInt8)(n:Nat)(hn:n<18446744073709551616)(sB:gZ n=false)(c3 c6 c9:Option Addr)(c4 c5 c7 c8 c10 c11:Nat)(w:World)(h:Wr w pb A c bs)(hl:bs.length+40≤140737488355328) :
 Calls prog 146 #[.pointer (some ⟨pb,0,none⟩),Cv.agg ⟨4,n,c3,c4,c5,c6,c7,c8,c9,c10,c11⟩] w (mR w pb A bs.length c (bs++48::oC n)):=by
 have hb:=x_
 have HKEY:=aa (show oC n=1::(be 8 (jT n)++[0,0,1]) by unfold oC;rw[ak (by rw[sB];decide)]);have HT:=aa (fun w=>ab1 n w hn);have ht:=Hz n hn;obtain⟨tg,JK⟩:∃x,jT n=x:=⟨_,rfl⟩;rw[JK] at HT ht HKEY;clear JK;have hz:(w.alloc (.cells (Cv.cells ⟨4,n,c3,c4,c5,c6,c7,c8,c9,c10,c11⟩) 27)).heap.size=w.heap.size+1:=by simp
 have bI:=aa (WG.sK pb (.slice A bs.length c) ((ah w).alloc (.cells (Cv.cells ⟨4,n,c3,c4,c5,c6,c7,c8,c9,c10,c11⟩) 27)));have bO:=aa (az w 27 (Cv.cells ⟨4,n,c3,c4,c5,c6,c7,c8,c9,c10,c11⟩));have hne:w.heap.size≠pb:=by have:=h.1.lt;omega
 have hno:Value.ownBlock (.slice A bs.length c)≠some w.heap.size:=fun e=>by have:=h.own e;omega
 have nI:=aa (fun q:w.heap.size=pb∨Value.ownBlock (.slice A bs.length c)=some w.heap.size=>q.elim hne hno);have HC:=aa (mH pb A c bs [48] #[.int .u8 48] 1 (w.alloc (.cells (Cv.cells ⟨4,n,c3,c4,c5,c6,c7,c8,c9,c10,c11⟩) 27)) (h.al _) rfl rfl (by simp only[aU,bT];omega));rw[hz] at HC;clear h hz hne hno;go_enter func146,ntmps146;go_wp2_with fail;refine HC.o.mono ?_;rintro e w2 ⟨A2,c2,rfl,h1,h2⟩;have dH:=h2.kept.blk bO.o nI.o;have hc0:=dH.cell 0;have hc1:=dH.cell 1;have dO:=dH.lt;have bf:=aa dH;have lq:=aa h1;have HG2:=aa h2;have qy:(bs++[48]).length=bs.length+1:=by simp
 have hl2:(bs++[48]).length+30≤140737488355328:=by omega
 clear h1 h2 HC dH qy;go_wp2_with fail;refine(zu n _).mono ?_;rintro e w' ⟨rfl,rfl⟩;have amt:=sB;have HC:=aa (JJ [1] #[.int .u8 1] 1 lq.o HG2.o rfl rfl (by simp only[bp,aU,bT,g_] at *;omega));go_wp2_with fail;refine HC.o.mono ?_;rintro e w3 ⟨A3,uw,rfl,h1,h2⟩;have nr:=aa h1;have aG:=aa h2;clear h1 h2 HC;have f_:=aG.o.kept.blk bO.o nI.o;have amu:=f_.cell 1;have T4:=f_.lt;clear f_;go_wp2_with fail;refine(HT.o _).mono ?_;rintro e w' ⟨rfl,rfl⟩;have HC:=aa (NF tg 8 nr.o aG.o (by omega) ht (by simp only[bp,aU,bT,g_] at *;omega));go_wp2_with fail;refine HC.o.mono ?_;rintro e w4 ⟨A4,JL,rfl,h1,h2⟩;have lZ:=aa h1;have bP:=aa h2;clear h1 h2 HC
 have HC:=aa (JJ [0,0,1] #[.int .u8 0,.int .u8 0,.int .u8 1] 3 lZ.o bP.o rfl rfl (by simp only[bp,aU,bT,g_] at *;omega));go_wp2_with fail;refine HC.o.mono ?_;rintro e w5 ⟨A5,NG,rfl,h1,h2⟩;have U7:=aa h1;have a_:=aa h2;clear h1 h2 HC;go_wp2_with fail;go_end0;have e0:bs++[48]++[1]++be 8 tg++[0,0,1]=bs++48::oC n:=by rw[HKEY.o];simp
 have HX:=U7.o;have HY:=a_.o;rw[e0] at HX HY;exact⟨A5,NG,rfl,HX,bI.o.trans HY⟩
end
section
open Go.RowKit Go.Shelf
theorem adF(pb:Nat)(A:Option Addr)(c:Nat)(bs:List UInt8)(b:List UInt8)(aB aL aF:Option Addr)(cB nL cL nF cF:Nat)(w:World)(h:Wr w pb A c bs)(hb:Reads (bQ w 0 pb) 1 aB b.length (b_ b))(hl:bs.length+2*b.length+3≤140737488355328) :
 Calls prog 147 #[.pointer (some ⟨pb,0,none⟩),Cv.agg ⟨5,(0:Nat),aB,b.length,cB,aL,nL,cL,aF,nF,cF⟩] w (mR w pb A bs.length c (bs++64::eH b)):=by
 have hz:(w.alloc (.cells (Cv.cells ⟨5,(0:Nat),aB,b.length,cB,aL,nL,cL,aF,nF,cF⟩) 27)).heap.size=w.heap.size+1:=by simp
 have bI:=aa (WG.sK pb (.slice A bs.length c) ((ah w).alloc (.cells (Cv.cells ⟨5,(0:Nat),aB,b.length,cB,aL,nL,cL,aF,nF,cF⟩) 27)));have bO:=aa (az w 27 (Cv.cells ⟨5,(0:Nat),aB,b.length,cB,aL,nL,cL,aF,nF,cF⟩));have hne:w.heap.size≠pb:=by have:=h.1.lt;omega
 have hno:Value.ownBlock (.slice A bs.length c)≠some w.heap.size:=fun e=>by have:=h.own e;omega
 have nI:=aa (fun q:w.heap.size=pb∨Value.ownBlock (.slice A bs.length c)=some w.heap.size=>q.elim hne hno);have nU:=aa (h.al (.cells (Cv.cells ⟨5,(0:Nat),aB,b.length,cB,aL,nL,cL,aF,nF,cF⟩) 27));have U_:=aa (eV (eU (oY (jH pb w) (qp h.1.lt) (.cells (Cv.cells ⟨5,(0:Nat),aB,b.length,cB,aL,nL,cL,aF,nF,cF⟩) 27)) (au _) (au _) (au _)) hb);have HC:=aa (mH pb A c bs [64] #[.int .u8 64] 1 (w.alloc (.cells (Cv.cells ⟨5,(0:Nat),aB,b.length,cB,aL,nL,cL,aF,nF,cF⟩) 27)) nU.o rfl rfl (by simp only[aU,bT];omega));rw[hz] at HC;clear h hz hne hno hb;go_enter func147,ntmps147;go_wp2_with fail;refine HC.o.mono ?_;rintro e w2 ⟨A2,c2,rfl,h1,h2⟩;have dH:=h2.kept.blk bO.o nI.o;have hc2:=dH.cell 2
 have dO:=dH.lt;have HG2:=aa h2;have qy:(bs++[(64:UInt8)]).length=bs.length+1:=by simp
 have mO:=aa (U6 pb A2 c2 _ b aB cB w2 h1 (eV (fun p u (hp:bQ _ 0 pb p u)=>⟨(eU (h2.below nU.o) (au _) (au _) (au _) p u hp).1,by have:=h1.1.lt;have:=hp.2.2;omega,by have:=hp.2.2;omega,fun e=>by have:=(h1.own e).1;have:=hp.2.2;omega⟩) U_.o) (by omega));clear h1 h2 HC dH qy;go_wp2_with fail;refine mO.o.mono ?_;rintro e w3 ⟨A3,c3,rfl,h1,h2⟩;have e0:bs++[(64:UInt8)]++eH b=bs++64::eH b:=by simp
 rw[e0] at h1 h2;have nr:=aa h1;have aG:=aa (HG2.o.trans h2);clear h1 h2 mO e0;go_wp2_with fail;go_end0;exact⟨A3,c3,rfl,nr.o,bI.o.trans aG.o⟩
theorem adG(pb:Nat)(A:Option Addr)(c:Nat)(bs:List UInt8)(b:List UInt8)(aB aL aF:Option Addr)(cB nL cL nF cF:Nat)(w:World)(h:Wr w pb A c bs)(hb:Reads (bQ w 0 pb) 1 aB b.length (b_ b))(hl:bs.length+2*b.length+3≤140737488355328) :
 Calls prog 148 #[.pointer (some ⟨pb,0,none⟩),Cv.agg ⟨6,(0:Nat),aB,b.length,cB,aL,nL,cL,aF,nF,cF⟩] w (mR w pb A bs.length c (bs++80::eH b)):=by
 have hz:(w.alloc (.cells (Cv.cells ⟨6,(0:Nat),aB,b.length,cB,aL,nL,cL,aF,nF,cF⟩) 27)).heap.size=w.heap.size+1:=by simp
 have bI:=aa (WG.sK pb (.slice A bs.length c) ((ah w).alloc (.cells (Cv.cells ⟨6,(0:Nat),aB,b.length,cB,aL,nL,cL,aF,nF,cF⟩) 27)));have bO:=aa (az w 27 (Cv.cells ⟨6,(0:Nat),aB,b.length,cB,aL,nL,cL,aF,nF,cF⟩));have hne:w.heap.size≠pb:=by have:=h.1.lt;omega
 have hno:Value.ownBlock (.slice A bs.length c)≠some w.heap.size:=fun e=>by have:=h.own e;omega
 have nI:=aa (fun q:w.heap.size=pb∨Value.ownBlock (.slice A bs.length c)=some w.heap.size=>q.elim hne hno);have nU:=aa (h.al (.cells (Cv.cells ⟨6,(0:Nat),aB,b.length,cB,aL,nL,cL,aF,nF,cF⟩) 27));have U_:=aa (eV (eU (oY (jH pb w) (qp h.1.lt) (.cells (Cv.cells ⟨6,(0:Nat),aB,b.length,cB,aL,nL,cL,aF,nF,cF⟩) 27)) (au _) (au _) (au _)) hb);have HC:=aa (mH pb A c bs [80] #[.int .u8 80] 1 (w.alloc (.cells (Cv.cells ⟨6,(0:Nat),aB,b.length,cB,aL,nL,cL,aF,nF,cF⟩) 27)) nU.o rfl rfl (by simp only[aU,bT];omega));rw[hz] at HC;clear h hz hne hno hb;go_enter func148,ntmps148;go_wp2_with fail;refine HC.o.mono ?_;rintro e w2 ⟨A2,c2,rfl,h1,h2⟩;have dH:=h2.kept.blk bO.o nI.o;have hc2:=dH.cell 2
 have dO:=dH.lt;have HG2:=aa h2;have qy:(bs++[(80:UInt8)]).length=bs.length+1:=by simp
 have mO:=aa (U6 pb A2 c2 _ b aB cB w2 h1 (eV (fun p u (hp:bQ _ 0 pb p u)=>⟨(eU (h2.below nU.o) (au _) (au _) (au _) p u hp).1,by have:=h1.1.lt;have:=hp.2.2;omega,by have:=hp.2.2;omega,fun e=>by have:=(h1.own e).1;have:=hp.2.2;omega⟩) U_.o) (by omega));clear h1 h2 HC dH qy;go_wp2_with fail;refine mO.o.mono ?_;rintro e w3 ⟨A3,c3,rfl,h1,h2⟩;have e0:bs++[(80:UInt8)]++eH b=bs++80::eH b:=by simp
 rw[e0] at h1 h2;have nr:=aa h1;have aG:=aa (HG2.o.trans h2);clear h1 h2 mO e0;go_wp2_with fail;go_end0;exact⟨A3,c3,rfl,nr.o,bI.o.trans aG.o⟩
def Pr(x:V):Prop:=∀(pb:Nat) (A:Option Addr) (c:Nat) (bs:List UInt8) (cv:Cv) (w:World),Wr w pb A c bs→dW w pb x cv→bs.length+2*x.key.length≤140737488350000 →
 Calls prog 98 #[.pointer (some ⟨pb,0,none⟩),cv.agg] w (mR w pb A bs.length c (bs++x.key))
theorem dW.wg{x:V}{cv:Cv}(h:dW w pb x cv)(hg:WG w pb (.slice A bs.length c) w' v')(hw:Wr w pb A c bs):dW w' pb x cv:=
 h.below (hg.below hw) (au _) (au _)
theorem adH(pb:Nat)(A:Option Addr)(c:Nat)(bs:List UInt8)(l:List V)(aB aL aF:Option Addr)(nB cB cL nF cF:Nat)(w:World)(h:Wr w pb A c bs)(hk:∀x∈l,Pr x)
 (hv:dW w pb (V.mk 7 0 [] l []) ⟨7,(0:Nat),aB,nB,cB,aL,l.length,cL,aF,nF,cF⟩) (hl:bs.length+2*(l.map V.fE).flatten.length+2≤140737488350000) :
 Calls prog 149 #[.pointer (some ⟨pb,0,none⟩),Cv.agg ⟨7,(0:Nat),aB,nB,cB,aL,l.length,cL,aF,nF,cF⟩] w (mR w pb A bs.length c (bs++96::((l.map V.fE).flatten++[0]))):=by
 have HK:=aa hk;have hll:=ak6 l;have hz:(w.alloc (.cells (Cv.cells ⟨7,(0:Nat),aB,nB,cB,aL,l.length,cL,aF,nF,cF⟩) 27)).heap.size=w.heap.size+1:=by simp
 have bI:=aa (WG.sK pb (.slice A bs.length c) ((ah w).alloc (.cells (Cv.cells ⟨7,(0:Nat),aB,nB,cB,aL,l.length,cL,aF,nF,cF⟩) 27)));have bO:=aa (az w 27 (Cv.cells ⟨7,(0:Nat),aB,nB,cB,aL,l.length,cL,aF,nF,cF⟩));have hne:w.heap.size≠pb:=by have:=h.1.lt;omega
 have hno:Value.ownBlock (.slice A bs.length c)≠some w.heap.size:=fun e=>by have:=h.own e;omega
 have nI:=aa (fun q:w.heap.size=pb∨Value.ownBlock (.slice A bs.length c)=some w.heap.size=>q.elim hne hno);have nU:=aa (h.al (.cells (Cv.cells ⟨7,(0:Nat),aB,nB,cB,aL,l.length,cL,aF,nF,cF⟩) 27));have HV:=aa (hv.below (oY (jH pb w) (qp h.1.lt) (.cells (Cv.cells ⟨7,(0:Nat),aB,nB,cB,aL,l.length,cL,aF,nF,cF⟩) 27)) (au _) (au _));have HC:=aa (mH pb A c bs [96] #[.int .u8 96] 1 (w.alloc (.cells (Cv.cells ⟨7,(0:Nat),aB,nB,cB,aL,l.length,cL,aF,nF,cF⟩) 27)) nU.o rfl rfl (by simp only[aU,bT];omega));rw[hz] at HC;clear h hz hne hno hv hk;go_enter func149,ntmps149;go_wp2_with fail;refine HC.o.mono ?_;rintro e w2 ⟨A2,c2,rfl,h1,h2⟩;have dH:=h2.kept.blk bO.o nI.o;have hc3:=dH.cell 3;have dO:=dH.lt;have lq:=aa h1
 have HG2:=aa h2;clear h1 h2 HC dH;go_wp2_with fail;go_loopg [5,12] (l.length+1) (fun gk _ i wr=>∃(j:Nat) (A':Option Addr) (c':Nat),j≤l.length∧gk+j=l.length+1∧i=.int .i64 j∧Wr wr pb A' c' (bs++96::((l.take j).map V.fE).flatten) ∧
  WG (w.alloc (.cells (Cv.cells ⟨7,(0:Nat),aB,nB,cB,aL,l.length,cL,aF,nF,cF⟩) 27)) pb (.slice A bs.length c) wr (.slice A' (bs++96::((l.take j).map V.fE).flatten).length c'))
 exact⟨0,A2,c2,aR _,rfl,rfl,lq.o,HG2.o⟩;obtain⟨j,A',c',hj,hg,rfl,hw,hgr⟩:=hrel;obtain⟨gk',rfl⟩:=bz gk (by omega);have nV:=aa hw;have yV:=aa hgr;have eF:=HV.o.wg hgr nU.o;clear hw hgr;by_cases hlt:j<l.length
 ·obtain⟨bk,o,x,ha,hbk,e0,e1,e2,e3,e4,hx⟩:=eF.fh j hlt;dsimp only at ha;subst ha;have WA:=FO hbk nV.o.1.lt;have fU:=ze V.fE l j hlt;have hm2:=dJ List.length fU;rw[bp] at hm2;have hle:=zf V.fE l (j+1);rw[hm2] at hle;have hkl:(V.fE l[j]).length=1+l[j].key.length:=by simp[V.fE];omega
  have hbl:(bs++96::((l.take j).map V.fE).flatten).length=bs.length+1+((l.take j).map V.fE).flatten.length:=by simp;omega
  have HX:=aa hx;have fD:=aa fU;obtain⟨X,hX⟩:∃X,X=bs++96::((l.take j).map V.fE).flatten:=⟨_,rfl⟩;rw[← hX] at nV yV hbl;have Va:=aa hX;have fH:=x.cells;have hzz:(wr.alloc (.cells x.cells 27)).heap.size=wr.heap.size+1:=by simp
  have Vb:=aa (az wr 27 x.cells);have JM:¬ (wr.heap.size=pb∨Value.ownBlock (.slice A' X.length c')=some wr.heap.size):=fun q=>q.elim (fun e=>by have:=nV.o.1.lt;omega) (fun e=>by have:=nV.o.own e;omega)
  have C3:=aa JM;have JN:=aa (nV.o.al (.cells x.cells 27));have Vc:=aa (yV.o.alloc (.cells x.cells 27));have iB:=aa (mH pb A' c' X [1] #[.int .u8 1] 1 (wr.alloc (.cells x.cells 27)) JN.o rfl rfl (by simp only[aU,bT];omega));rw[hzz] at iB;clear hx eF fU hm2 hX fH hzz JM;go_wp2_with fail;refine iB.o.mono ?_;rintro e w3 ⟨A3,uw,rfl,h1,h2⟩;have f_:=h2.kept.blk Vb.o C3.o;have kA:=f_.cell;have Wh:=f_.lt;have aG:=aa (Vc.o.trans h2);have Vd:(X++[(1:UInt8)]).length=X.length+1:=by simp
  have mO:=aa (HK.o _ (aS hlt) pb A3 uw _ x w3 h1 ((HX.o.below (oY (jH pb wr) (qp nV.o.1.lt) (.cells x.cells 27)) (au _) (au _)).wg h2 JN.o) (by omega));clear h1 h2 iB f_ Vd;go_wp2_with fail;refine mO.o.mono ?_;rintro e w4 ⟨A4,JL,rfl,h1,h2⟩;have e0:X++[(1:UInt8)]++l[j].key=bs++96::((l.take (j+1)).map V.fE).flatten:=by rw[Va.o,fD.o];simp[V.fE]
  rw[e0] at h1 h2;have lZ:=aa h1;have bP:=aa (aG.o.trans h2);clear h1 h2 mO e0 kA e1 e2 e3 e4 hkl hbl;go_wp2_with fail;go_roundg gk';exact⟨j+1,A4,JL,by omega,by omega,by go_num,lZ.o,bP.o⟩;omega
 obtain rfl:j=l.length:=by omega
 rw[fT] at nV yV;have hbl:(bs++96::(l.map V.fE).flatten).length=bs.length+1+(l.map V.fE).flatten.length:=by simp;omega
 have iB:=aa (mH pb A' c' _ [0] #[.int .u8 0] 1 wr nV.o rfl rfl (by simp only[aU,bT];omega));clear hg hbl eF;go_wp2_with fail;refine iB.o.mono ?_;rintro e w3 ⟨A3,uw,rfl,h1,h2⟩;have e0:bs++96::(l.map V.fE).flatten++[0]=bs++96::((l.map V.fE).flatten++[0]):=by simp
 rw[e0] at h1 h2;have lZ:=aa h1;have bP:=aa (yV.o.trans h2);clear h1 h2 iB e0;go_wp2_with fail;go_end0;exact⟨A3,uw,rfl,lZ.o,bI.o.trans bP.o⟩
theorem adI(pb:Nat)(A:Option Addr)(c:Nat)(bs:List UInt8)(f:List (ByteArray×V))(aB aL aF:Option Addr)(nB cB cL nL cF:Nat)(w:World)(h:Wr w pb A c bs)(hk:∀x∈f,Pr x.2)
 (hv:dW w pb (V.mk 8 0 [] [] f) ⟨8,(0:Nat),aB,nB,cB,aL,nL,cL,aF,f.length,cF⟩) (hl:bs.length+2*(f.map V.fF).flatten.length+2≤140737488350000) (hs:∀x∈f,x.1.size≤32) :
 Calls prog 150 #[.pointer (some ⟨pb,0,none⟩),Cv.agg ⟨8,(0:Nat),aB,nB,cB,aL,nL,cL,aF,f.length,cF⟩] w (mR w pb A bs.length c (bs++112::((f.map V.fF).flatten++[0]))):=by
 have HK:=aa hk;have HS:=aa hs;have hll:=ak7 f;have hz:(w.alloc (.cells (Cv.cells ⟨8,(0:Nat),aB,nB,cB,aL,nL,cL,aF,f.length,cF⟩) 27)).heap.size=w.heap.size+1:=by simp
 have bI:=aa (WG.sK pb (.slice A bs.length c) ((ah w).alloc (.cells (Cv.cells ⟨8,(0:Nat),aB,nB,cB,aL,nL,cL,aF,f.length,cF⟩) 27)));have bO:=aa (az w 27 (Cv.cells ⟨8,(0:Nat),aB,nB,cB,aL,nL,cL,aF,f.length,cF⟩));have hne:w.heap.size≠pb:=by have:=h.1.lt;omega
 have hno:Value.ownBlock (.slice A bs.length c)≠some w.heap.size:=fun e=>by have:=h.own e;omega
 have nI:=aa (fun q:w.heap.size=pb∨Value.ownBlock (.slice A bs.length c)=some w.heap.size=>q.elim hne hno);have nU:=aa (h.al (.cells (Cv.cells ⟨8,(0:Nat),aB,nB,cB,aL,nL,cL,aF,f.length,cF⟩) 27));have HV:=aa (hv.below (oY (jH pb w) (qp h.1.lt) (.cells (Cv.cells ⟨8,(0:Nat),aB,nB,cB,aL,nL,cL,aF,f.length,cF⟩) 27)) (au _) (au _));have HC:=aa (mH pb A c bs [112] #[.int .u8 112] 1 (w.alloc (.cells (Cv.cells ⟨8,(0:Nat),aB,nB,cB,aL,nL,cL,aF,f.length,cF⟩) 27)) nU.o rfl rfl (by simp only[aU,bT];omega));rw[hz] at HC;clear h hz hne hno hv hk hs;go_enter func150,ntmps150;go_wp2_with fail;refine HC.o.mono ?_;rintro e w2 ⟨A2,c2,rfl,h1,h2⟩;have dH:=h2.kept.blk bO.o nI.o;have iz:=dH.cell 4;have dO:=dH.lt;have lq:=aa h1
 have HG2:=aa h2;clear h1 h2 HC dH;go_wp2_with fail;go_loopg [5,12] (f.length+1) (fun gk _ i wr=>∃(j:Nat) (A':Option Addr) (c':Nat),j≤f.length∧gk+j=f.length+1∧i=.int .i64 j∧Wr wr pb A' c' (bs++112::((f.take j).map V.fF).flatten) ∧
  WG (w.alloc (.cells (Cv.cells ⟨8,(0:Nat),aB,nB,cB,aL,nL,cL,aF,f.length,cF⟩) 27)) pb (.slice A bs.length c) wr (.slice A' (bs++112::((f.take j).map V.fF).flatten).length c'))
 exact⟨0,A2,c2,aR _,rfl,rfl,lq.o,HG2.o⟩;obtain⟨j,A',c',hj,hg,rfl,hw,hgr⟩:=hrel;obtain⟨gk',rfl⟩:=bz gk (by omega);have nV:=aa hw;have yV:=aa hgr;have eF:=HV.o.wg hgr nU.o;clear hw hgr;by_cases hlt:j<f.length
 ·obtain⟨bk,o,x,ha,hbk,es,hsz,e0_,e1,e2,e3,e4,hx⟩:=eF.gX j hlt;dsimp only at ha;subst ha;have WA:=FO hbk nV.o.1.lt;have fU:=ze V.fF f j hlt;have hm2:=dJ List.length fU;rw[bp] at hm2;have hle:=zf V.fF f (j+1);rw[hm2] at hle;have hkl:(V.fF f[j]).length=1+((eH f[j].1.data.toList).length+f[j].2.key.length):=by simp[V.fF];omega
  have hbl:(bs++112::((f.take j).map V.fF).flatten).length=bs.length+1+((f.take j).map V.fF).flatten.length:=by simp;omega
  have amv:=HS.o _ (aS hlt);have HX:=aa hx;have fD:=aa fU;have Ik:=aa (HK.o _ (aS hlt));have Ve:=aa (show V.fF f[j]=1::(eH f[j].1.data.toList++f[j].2.key) from rfl);obtain⟨X,hX⟩:∃X,X=bs++112::((f.take j).map V.fF).flatten:=⟨_,rfl⟩;rw[← hX] at nV yV hbl;have Va:=aa hX;obtain⟨s,hsn⟩:∃s,f[j].1=s:=⟨_,rfl⟩;obtain⟨y,hy⟩:∃y,f[j].2=y:=⟨_,rfl⟩;rw[hsn] at es amv hkl Ve hsz;rw[hy] at HX Ik Ve hkl;have hsl:s.data.toList.length=s.size:=by simp
  have hel:(eH s.data.toList).length≤2*s.size+2:=by have:=(qF s.data.toList).2;unfold eH;rw[bp,← hsl];simpa using this
  have hzz:(wr.alloc (.cells (x.mj s) 82)).heap.size=wr.heap.size+1:=by simp
  have Vb:=aa (az wr 82 (x.mj s));have JM:¬ (wr.heap.size=pb∨Value.ownBlock (.slice A' X.length c')=some wr.heap.size):=fun q=>q.elim (fun e=>by have:=nV.o.1.lt;omega) (fun e=>by have:=nV.o.own e;omega)
  have C3:=aa JM;have JN:=aa (nV.o.al (.cells (x.mj s) 82));have Vc:=aa (yV.o.alloc (.cells (x.mj s) 82));have iB:=aa (mH pb A' c' X [1] #[.int .u8 1] 1 (wr.alloc (.cells (x.mj s) 82)) JN.o rfl rfl (by simp only[aU,bT];omega));rw[hzz] at iB;clear hx eF fU hm2 hX hzz JM hsn hy;go_wp2_with fail;refine iB.o.mono ?_;rintro e w3 ⟨A3,uw,rfl,h1,h2⟩;have f_:=h2.kept.blk Vb.o C3.o;have amw:=f_.cell 0;have Wh:=f_.lt;have bn:=aa f_;have nr:=aa h1;have aG:=aa (Vc.o.trans h2);have HV3:=aa ((HX.o.below (oY (jH pb wr) (qp nV.o.1.lt) (.cells (x.mj s) 82)) (au _) (au _)).wg h2 JN.o)
  have ab2:¬ (wr.heap.size=pb∨Value.ownBlock (.slice A3 (X++[(1:UInt8)]).length uw)=some wr.heap.size):=fun q=>q.elim (fun e=>C3.o (.inl e)) (h2.ne (by simp) (fun e=>C3.o (.inr e)))
  have HN3:=aa ab2;have Vd:(X++[(1:UInt8)]).length=X.length+1:=by simp
  obtain⟨cw,W4,hrun,hcw,jC,hin⟩:=BF w3 s;have ab3:=aa jC;have lZ:=aa (h1.grow jC);have ar:=aa (f_.grow jC);have hap:Reads (U5 W4 pb A3 (X++[(1:UInt8)]).length uw) 1 (some ⟨w3.heap.size,0,none⟩) s.data.toList.length (b_ s.data.toList):=by
   refine⟨hin.1,fun hn=>?_⟩;obtain⟨bq,oq,eq,hcl⟩:=hin.2 hn;refine⟨bq,oq,eq,fun j u hu=>?_⟩;injection eq with eq;injection eq with Ue eq2;have:=hcl j u hu;exact⟨this.1,this.2.2,by have:=h1.1.lt;dsimp only;omega,fun e=>by have:=h1.own e;dsimp only at this;omega⟩
  have mO:=aa (U6 pb A3 uw _ s.data.toList (some ⟨w3.heap.size,0,none⟩) cw W4 lZ.o hap (by rw[hsl];omega));rw[hsl] at mO;clear h1 h2 iB f_ jC hin hap ab2;go_wp2_with fail;refine mO.o.mono ?_;rintro e w5 ⟨A5,NG,rfl,h1,h2⟩;have wL:=h2.kept.blk ar.o HN3.o;have kA:=wL.cell;have aoA:=wL.lt;have a_:=aa ((aG.o.trans (WG.sK pb _ ab3.o)).trans h2);have amx:(X++[(1:UInt8)]++eH s.data.toList).length=X.length+1+(eH s.data.toList).length:=by simp;omega
  have HC3:=aa (Ik.o pb A5 NG _ x w5 h1 ((HV3.o.below (eO ab3.o.below (qp nr.o.1.lt)) (au _) (au _)).wg h2 lZ.o) (by omega));clear h1 h2 mO wL amx;go_wp2_with fail;refine HC3.o.mono ?_;rintro e w6 ⟨A6,U8,rfl,h1,h2⟩;have e0:X++[(1:UInt8)]++eH s.data.toList++y.key=bs++112::((f.take (j+1)).map V.fF).flatten:=by rw[Va.o,fD.o,Ve.o];simp
  rw[e0] at h1 h2;have U9:=aa h1;have aW:=aa (a_.o.trans h2);clear h1 h2 HC3 e0 kA amw es e0_ e1 e2 e3 e4 hkl hbl hel Vd hrun;go_wp2_with fail;go_roundg gk';exact⟨j+1,A6,U8,by omega,by omega,by go_num,U9.o,aW.o⟩;omega
 obtain rfl:j=f.length:=by omega
 rw[fT] at nV yV;have hbl:(bs++112::(f.map V.fF).flatten).length=bs.length+1+(f.map V.fF).flatten.length:=by simp;omega
 have iB:=aa (mH pb A' c' _ [0] #[.int .u8 0] 1 wr nV.o rfl rfl (by simp only[aU,bT];omega));clear hg hbl eF;go_wp2_with fail;refine iB.o.mono ?_;rintro e w3 ⟨A3,uw,rfl,h1,h2⟩;have e0:bs++112::(f.map V.fF).flatten++[0]=bs++112::((f.map V.fF).flatten++[0]):=by simp
 rw[e0] at h1 h2;have lZ:=aa h1;have bP:=aa (yV.o.trans h2);clear h1 h2 iB e0;go_wp2_with fail;go_end0;exact⟨A3,uw,rfl,lZ.o,bI.o.trans bP.o⟩
end
abbrev ady:=@WG.sK
end Go.Proofs.YtndjopkdbdcmdaaGreatDoor
