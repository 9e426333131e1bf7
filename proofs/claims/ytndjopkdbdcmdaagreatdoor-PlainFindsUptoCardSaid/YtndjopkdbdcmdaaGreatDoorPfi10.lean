/- Part 10 of the proof of pfinds_card. -/
import Derived.Test.YtndjopkdbdcmdaaGreatDoorPfi7
import Derived.Deep.Slices
import Derived.ProofKit
import Derived.OpenShut
import Derived.SizedLaws
import Derived.Lib.LaidIn
import Derived.Lib.LaidU8T
import Derived.Test.YtndjopkdbdcmdaaGreatDoorCards
import Derived.Test.YtndjopkdbdcmdaaGreatDoorTie
import Derived.Deep.DeepHandedRow
import Derived.Deep.DeepWitnessRowRef
import Derived.SevenTiedAt
set_option linter.unusedVariables false
set_option linter.unusedSimpArgs false
set_option maxRecDepth 100000
set_option maxHeartbeats 12800000
open Go.Proofs.Tryz
namespace Go.Proofs.YtndjopkdbdcmdaaGreatDoor
section
open Go.RowKit
abbrev lM:ByteArray:=⟨#[95,105,100]⟩
theorem OD:lM.toList=[95,105,100]:=by decide +kernel
def gI(v:V):Option V:=(v.f.find? fun x=>decide (x.1=lM)).map Prod.snd
theorem Vj{F:Func}{W:World}{vb:Nat}{tmps:Array Value}{u:Value}(hF:F.results=#[ResultVar.cell 2 27,ResultVar.tmp 3])(h2:tmps.getD 2 undef=.pointer (some ⟨vb,0,none⟩))(h3:tmps.getD 3 undef=u)(c:Cv)(hv:Blk W vb 27 c.cells) :
 (results F tmps).run prog W=.ok (.tuple #[c.agg,u]) W:=by
 have hl:=Fp (P:=prog) W vb 27 27 c.cells (0,0) _ hv underlying27 rfl Vk;have h2':tmps[2]?.getD undef=.pointer (some ⟨vb,0,none⟩):=by simpa using h2
 have h3':tmps[3]?.getD undef=u:=by simpa using h3
 simp[results,hF,h2',h3',asAddr,hl]
theorem ab0(k:Int)(n:Nat)(b:List UInt8)(l:List V)(f:List (ByteArray×V))(c:Cv)(w0 w:World)(hg0:Grow w0 w)(hv:In w0 (.mk k n b l f) c) :
 Calls prog 52 #[c.agg] w (kX w0 w (gI (.mk k n b l f))):=by
 obtain⟨s,hs⟩:∃s,s=lM:=⟨_,rfl⟩;rw[show gI (.mk k n b l f)=(f.find? fun x=>decide (x.1=s)).map Prod.snd by rw[hs];rfl];have HS:=aa hs;clear hs;obtain⟨aB,aL,aF,cB,cL,cF,rfl,-,-,-,-,-,-,-,h8,h9,-⟩:=hv.open;have HG:=aa (((ah w).alloc (.cells (Cv.cells ⟨k,(n:Int),aB,b.length,cB,aL,l.length,cL,aF,f.length,cF⟩) 27)).alloc (.cells Cv.zero.cells 27));have HB:=aa (cX (w:=w.alloc (.cells (Cv.cells ⟨k,(n:Int),aB,b.length,cB,aL,l.length,cL,aF,f.length,cF⟩) 27)) (g:=w.heap.size+1) (by simp) 27 Cv.zero.cells);have HV:=aa hv;have aM:=aa hg0;clear hv hg0;go_enter func52,ntmps52;go_wp2_with fail
 go_loopg [5,9] (f.length+1) (fun gk x i wr=>∃j:Nat,j≤f.length∧gk+j=f.length+1∧i=.int .i64 j∧(∀i (hi:i<f.length),i<j→f[i].1≠s)∧Grow w wr∧Blk wr (w.heap.size+1) 27 Cv.zero.cells);exact⟨0,by omega,by omega,rfl,fun i _ h=>absurd h (by omega),HG.o,HB.o⟩;obtain⟨j,hj,kW,rfl,hne,hw,hB⟩:=hrel;have HN:=aa hne;have HW:=aa hw;have mC:=aa hB;by_cases hlt:j<f.length
 ·obtain⟨gk',rfl⟩:=bS gk (by omega);obtain⟨bk,o,x,ha,hbk,es,im,e0,e1,e2,e3,e4,hx⟩:=HV.o.iF j hlt;replace es:=((aM.o.trans hw).below.cell hbk).trans es;replace e0:=((aM.o.trans hw).below.cell hbk).trans e0;replace e1:=((aM.o.trans hw).below.cell hbk).trans e1;replace e2:=((aM.o.trans hw).below.cell hbk).trans e2;replace e3:=((aM.o.trans hw).below.cell hbk).trans e3;replace e4:=((aM.o.trans hw).below.cell hbk).trans e4;replace hbk:=df hbk (aM.o.trans hw).size;dsimp only at ha;subst ha;have HX:=aa hx;obtain⟨q,hq⟩:∃q,f[j].1=q:=⟨_,rfl⟩;rw[hq] at es;have HQ:=aa hq;have mY:=aa (fun cs=>hw.alloc (.cells cs 82));have tZ:=aa (fun cs=>hB.alloc (.cells cs 82))
  have hc1:=(tZ.o #[.string q,.int .i64 x.k,.int .u64 x.n,.slice x.aB x.nB x.cB,.slice x.aL x.nL x.cL,.slice x.aF x.nF x.cF]).cell;have iO:=(tZ.o #[.string q,.int .i64 x.k,.int .u64 x.n,.slice x.aB x.nB x.cB,.slice x.aL x.nL x.cL,.slice x.aF x.nF x.cF]).lt;have hz1:=(tZ.o #[.string q,.int .i64 x.k,.int .u64 x.n,.slice x.aB x.nB x.cB,.slice x.aL x.nL x.cL,.slice x.aF x.nF x.cF]).frozen;clear hne hw hB hx hq;by_cases he:q=s
  ·have nU:(q.toList==[95,105,100])=true:=by rw[← OD,he,← HS.o];simp
   subst he;have HF:=aa (show (f.find? fun x=>decide (x.1=q)).map Prod.snd=some f[j].2 by rw[OE hlt HN.o HQ.o];rfl);go_wp2_with fail;refine iE (Vj rfl rfl rfl x (vU (c:=x) (tZ.o _))) rfl (OG HF.o ((mY.o _).mD (fD _) x) HX.o)
  have HE:=aa he;have nU:(q.toList==[95,105,100])=false:=by
   rw[← OD,← HS.o];simp only[tJ,ne_eq];intro h;rw[toList_data,toList_data] at h;exact he (CQ (Az h))
  clear he;go_wp2_with fail;go_roundg gk';refine⟨j+1,by omega,by omega,by go_num,fun i hi hij=>?_,mY.o _,tZ.o _⟩;by_cases ir:i=j
  ·subst ir;rw[HQ.o];exact HE.o
  exact HN.o i hi (by omega);omega
 obtain⟨gk',rfl⟩:=bS gk (by omega);obtain rfl:j=f.length:=by omega
 have HF:=aa (show (f.find? fun x=>decide (x.1=s)).map Prod.snd=none by rw[KI (fun i hi=>HN.o i hi hi)];rfl);have hc1:=mC.o.cell;have iO:=mC.o.lt;have hz1:=mC.o.frozen;clear hne hw hB;go_wp2_with fail;refine iE (Vj rfl rfl rfl Cv.zero (Dl (c:=Cv.zero) mC.o)) rfl (OH HF.o (HW.o.mD (fD _) Cv.zero))
theorem Vl(v:V)(c:Cv)(w0 w:World)(hg0:Grow w0 w)(hv:In w0 v c):Calls prog 52 #[c.agg] w (kX w0 w (gI v)):=by
 obtain⟨k,n,b,l,f⟩:=v;exact ab0 k n b l f c w0 w hg0 hv
end
section
open Go.RowKit Go.Shelf
structure WG (w:World) (pb:Nat) (v:Value) (w':World) (v':Value):Prop where
 kept:Kept (fun k=>k=pb∨v.ownBlock=some k) w w'
 own:v'.ownBlock=v.ownBlock∨∃k,v'.ownBlock=some k∧w.heap.size≤k
theorem WG.refl(w:World)(pb:Nat)(v:Value):WG w pb v w v:=⟨dU _ _,.inl rfl⟩
theorem WG.trans{w w1 w2:World}{pb:Nat}{v v1 v2:Value}(h:WG w pb v w1 v1)(k:WG w1 pb v1 w2 v2):WG w pb v w2 v2:=by
 refine⟨⟨k.kept.os.trans h.kept.os,k.kept.tape.trans h.kept.tape,k.kept.output.trans h.kept.output,bn h.kept.size k.kept.size,fun i hi hs=>?_⟩,?_⟩
 ·refine(k.kept.block i (df hi h.kept.size) (fun q=>?_)).trans (h.kept.block i hi hs);rcases q with q | q
  ·exact hs (.inl q)
  rcases h.own with e | ⟨j,e,hj⟩
  ·exact hs (.inr (e ▸ q))
  rw[e] at q;injection q with q;omega
 rcases k.own with e | ⟨j,e,hj⟩
 ·rw[e];exact h.own
 exact .inr ⟨j,e,bn h.kept.size hj⟩
theorem WG.qH{w w':World}(pb:Nat)(v:Value)(h:Grow w w'):WG w pb v w' v:=⟨gJ h,.inl rfl⟩
theorem WG.alloc{w w1:World}{pb:Nat}{v v1:Value}(h:WG w pb v w1 v1)(o:Obj):WG w pb v (w1.alloc o) v1:=h.trans (WG.qH pb v1 ((ah w1).alloc o))
theorem WG.ne{w w':World}{pb g:Nat}{v v':Value}(h:WG w pb v w' v')(hg:g<w.heap.size)(hn:v.ownBlock≠some g):v'.ownBlock≠some g:=by
 intro e;rcases h.own with q | ⟨k,q,hk⟩
 ·exact hn (q ▸ e)
 rw[q] at e;injection e with e;omega
def Wr(w:World)(pb:Nat)(A:Option Addr)(c:Nat)(bs:List UInt8):Prop:=
 Blk w pb 150 #[.slice A bs.length c]∧Row w (pb+1) (.slice A bs.length c) bs.length bs
theorem Wr.own{w:World}{pb:Nat}{A:Option Addr}{c:Nat}{bs:List UInt8}(h:Wr w pb A c bs){k:Nat}(hk:Value.ownBlock (.slice A bs.length c)=some k):pb<k∧k<w.heap.size:=by
 have:=bO h.2 k hk;omega
theorem Wr.grow{w w':World}{pb:Nat}{A:Option Addr}{c:Nat}{bs:List UInt8}(h:Wr w pb A c bs)(hg:Grow w w'):Wr w' pb A c bs:=⟨h.1.grow hg,h.2.grow hg⟩
theorem WG.below{w w':World}{pb:Nat}{A:Option Addr}{c:Nat}{bs:List UInt8}{v':Value}(h:WG w pb (.slice A bs.length c) w' v')(hw:Wr w pb A c bs):Below pb w w':=
 h.kept.below (pI hw.1.lt) (fun q hq=>hq.elim (fun e=>by omega) (fun e=>by have:=hw.own e;omega))
theorem Kept.ab1{S:Nat→Prop}{w w':World}{v v':Value}(h:vM w v w' v')(hs:∀k,v.ownBlock=some k→S k):Kept S w w':=
 ⟨h.grow.os,h.grow.tape,h.grow.output,h.grow.size,fun k hk hn=>h.grow.block k hk (fun e=>hn (hs k e.symm))⟩
theorem Row.set{w:World}{base m:Nat}{v:Value}{xs:List UInt8}(h:Row w base v m xs){p:Addr}(hp:p.block<base)(u:Value):Row (w.setCell p u) base v m xs:=by
 rcases h.2 with h0 | ⟨g,cap,cur,rfl,hb,hg,hr⟩
 ·exact⟨h.1,.inl h0⟩
 exact⟨h.1,.inr ⟨g,cap,cur,rfl,hb,Blk.far (t:=5) (cs:=cur) hg (by omega) u,hr⟩⟩
def mE(w:World)(pb:Nat)(A:Option Addr)(n c:Nat)(bs':List UInt8)(e:Ending)(w':World):Prop:=
 ∃A' c',e=.returned (.tuple #[])∧Wr w' pb A' c' bs'∧WG w pb (.slice A n c) w' (.slice A' bs'.length c')
theorem ab2(pb:Nat)(A:Option Addr)(c:Nat)(bs:List UInt8)(Y:Value)(ys:List UInt8)(w:World)(h:Wr w pb A c bs)(hs:Src prog 1 23 Y ys.length (bT ys) w)
 (hl:bs.length+ys.length≤140737488400000):Calls prog 184 #[.pointer (some ⟨pb,0,none⟩),Y] w (mE w pb A bs.length c (bs++ys)):=by
 have hc:=h.1.cell 0;have hlt:=h.1.lt;have hfz:=h.1.frozen;have HW:=aa h;have HS:=aa hs;clear h hs;go_enter func184,ntmps184;go_wp2_with (at_builtin;refine gy (ys:=ys) rfl (.tmp 8) (.tmp 9) _ rfl rfl HW.o.2 _ rfl HS.o (by omega) (by omega) ?_;intro A1 c1 w1 hr1 hg1;have xq:=aa hr1;have aO:=aa hg1;have hb1:=HW.o.1.own hg1.grow (fun k hk=>by have:=HW.o.own hk;omega);have aQ:=aa hb1;have hc1:=hb1.cell 0;have alU:=hb1.frozen 0;have iO:=hb1.lt;clear hr1 hg1 hb1);go_end0;have hn:(bs++ys).length=bs.length+ys.length:=bG;have hb2:Blk (w1.setCell ⟨pb,0,none⟩ (.slice A1 (bs.length+ys.length) c1)) pb 150 #[.slice A1 (bs.length+ys.length) c1]:=aQ.o.bf 0 _;refine⟨A1,c1,rfl,⟨by rw[hn];exact hb2,by rw[hn];exact xq.o.set (by simp) _⟩,?_⟩;rw[hn]
 refine⟨(Kept.ab1 (S:=fun k=>k=pb∨Value.ownBlock (.slice A bs.length c)=some k) aO.o (fun k hk=>.inr hk)).set (p:=⟨pb,0,none⟩) (.inl rfl) _,aO.o.lies⟩
theorem Vm{w:World}{g n:Nat}(zs:List UInt8)(cs:Array Value)(hn:zs.length=n)(hb:Blk w g 5 cs)(he:cs=(bT zs).toArray):Src prog 1 23 (.slice (some ⟨g,0,none⟩) n n) zs.length (bT zs) w:=by
 subst hn he;refine Src.ofSlice w eH ⟨g,0,none⟩ zs.length zs.length (bT zs) (by rw[FP];simp) (fun j u hu=>?_) (i6 _);rw[add_lit,dY,hb.cell];simpa using hu
theorem Vn(n size j:Nat)(h:j<size):(be size n).take (size-j)=(be size n).take (size-(j+1))++[UInt8.ofNat (n / 256 ^ j)]:=by
 have e:size-j=(size-(j+1))+1:=by omega
 rw[e,mv _ _ (by rw[fX];omega)];congr 2;have:(be size n)[size-(j+1)]'(by rw[fX];omega)=(j5 size n)[j]'(by rw[jG];exact h):=by
  unfold be;rw[List.getElem_reverse];congr 1;rw[jG];omega
 rw[this];simp[j5]
theorem lN(pb:Nat)(A:Option Addr)(c:Nat)(bs:List UInt8)(zs:List UInt8)(cs:Array Value)(n:Nat)(w:World)(h:Wr w pb A c bs)(hn:zs.length=n)(he:cs=(bT zs).toArray)
 (hl:bs.length+zs.length≤140737488400000):Calls prog 184 #[.pointer (some ⟨pb,0,none⟩),.slice (some ⟨w.heap.size,0,none⟩) n n] (w.alloc (.cells cs 5)) (mE w pb A bs.length c (bs++zs)):=by
 refine(ab2 pb A c bs _ zs _ (h.grow ((ah w).alloc _)) (Vm zs cs hn (aD w _ cs) he) hl).mono ?_;rintro e w' ⟨A',c',rfl,h1,h2⟩;exact⟨A',c',rfl,h1,(WG.qH pb _ ((ah w).alloc _)).trans h2⟩
theorem ab3(pb:Nat)(A:Option Addr)(c:Nat)(bs:List UInt8)(n size:Nat)(w:World)(h:Wr w pb A c bs)(hs:size≤8)(hn:n<18446744073709551616)
 (hl:bs.length+8≤140737488355328):Calls prog 186 #[.pointer (some ⟨pb,0,none⟩),.int .u64 n,.int .i64 size] w (mE w pb A bs.length c (bs++be size n)):=by
 have HW:=aa h;clear h;go_enter func186,ntmps186;go_wp2_with fail;go_loopg [6] (size+1) (fun gk i wr=>∃(r:Nat) (z:Int) (A':Option Addr) (c':Nat),r≤size∧gk=r+1∧z+1=(r:Int)∧i=.int .i64 z∧Wr wr pb A' c' (bs++(be size n).take (size-r)) ∧
  WG w pb (.slice A bs.length c) wr (.slice A' (bs++(be size n).take (size-r)).length c'))
 exact⟨size,(size:Int)-1,A,c,ay _,rfl,by omega,rfl,by rw[AE,Fy,ml];exact HW.o,by rw[AE,Fy,ml];exact WG.refl _ _ _⟩;obtain⟨r,z,A',c',hr,rfl,hz,rfl,hw,hg⟩:=hrel;have kI:=aa hw;have HG2:=aa hg;clear hw hg;by_cases h0:r=0
 ·subst h0;have hz0:z=-1:=by omega
  subst hz0;clear hz;go_wp2_with fail;go_end0;have e:(be size n).take (size-0)=be size n:=jD (by rw[fX];omega);rw[e] at kI HG2;exact⟨A',c',rfl,kI.o,HG2.o⟩
 obtain⟨j,rfl⟩:∃j,r=j+1:=⟨r-1,by omega⟩;obtain rfl:z=(j:Int):=by omega
 clear hz h0;have hB:(#[.int .u8 ((n:Int) / 2 ^ (8*j) % 256)]:Array Value)=(bT [UInt8.ofNat (n / 256 ^ j)]).toArray:=by
  show _=(#[.int .u8 ((UInt8.ofNat (n / 256 ^ j)).toNat:Int)]:Array Value);rw[Ob,← Oa];rfl
 have HB:=aa hB;clear hB;have hlen:(bs++(be size n).take (size-(j+1))).length≤bs.length+8:=by rw[bG,dS];omega
 have Gb:=aa (lN pb A' c' _ [UInt8.ofNat (n / 256 ^ j)] _ 1 wr kI.o rfl HB.o (by simp only[aT,bz];omega));rw[nQ,← Vn n size j (by omega)] at Gb;go_wp2_with fail;refine Gb.o.mono ?_;rintro e w2 ⟨A2,c2,rfl,h1,h2⟩;have mF:=aa h1;have aP:=aa (HG2.o.trans h2);clear h1 h2 Gb hlen;go_wp2_with fail;go_roundg (j+1);exact⟨j,(j:Int)-1,A2,c2,by omega,rfl,by omega,rfl,mF.o,aP.o⟩;omega
def OI(w:World)(pb:Nat)(A:Option Addr)(n c:Nat)(p:Addr)(u:Value):Prop:=w.cell? p=some u∧p.block<w.heap.size∧p.block≠pb∧Value.ownBlock (.slice A n c)≠some p.block
theorem WG.cell{w w':World}{pb n c:Nat}{A:Option Addr}{v':Value}(h:WG w pb (.slice A n c) w' v'){p:Addr}{u:Value}(hp:OI w pb A n c p u):w'.cell? p=some u:=
 (vG (h.kept.block p.block hp.2.1 (fun q=>q.elim hp.2.2.1 hp.2.2.2))).trans hp.1
theorem OJ(pb:Nat)(A:Option Addr)(c:Nat)(bs:List UInt8)(b:List UInt8)(B:Option Addr)(bc:Nat)(w:World)(h:Wr w pb A c bs)(hb:Reads (OI w pb A bs.length c) 1 B b.length (bT b))
 (hl:bs.length+2*b.length+2≤140737488355328):Calls prog 189 #[.pointer (some ⟨pb,0,none⟩),.slice B b.length bc] w (mE w pb A bs.length c (bs++dC b)):=by
 have HW:=aa h;have HB:=aa hb;have hbl:b.length≤140737488355328:=by omega
 clear h hb;go_enter func189,ntmps189;go_wp2_with fail;go_loopg [5,8] (b.length+1) (fun gk _ i wr=>∃(k:Nat) (A':Option Addr) (c':Nat),k≤b.length∧gk+k=b.length+1∧i=.int .i64 k∧Wr wr pb A' c' (bs++fY (b.take k)) ∧
  WG w pb (.slice A bs.length c) wr (.slice A' (bs++fY (b.take k)).length c'))
 exact⟨0,A,c,ba _,rfl,rfl,by rw[Fy,fY,ml];exact HW.o,by rw[Fy,fY,ml];exact WG.refl _ _ _⟩;obtain⟨k,A',c',hk,hg,rfl,hw,hgr⟩:=hrel;have kI:=aa hw;have HG2:=aa hgr;clear hw hgr;by_cases hlt:k<b.length
 ·obtain⟨gk',rfl⟩:=bS gk (by omega);obtain⟨bk,o,rfl,hcell⟩:=HB.o.2 (by omega);have hc:=HG2.o.cell (hcell k _ (xf b k hlt));have alV:=HG2.o.kept.size;have eO:=(hcell k _ (xf b k hlt)).2.1;have hstep:fY (b.take (k+1))=fY (b.take k)++(if b[k]=0 then [0,255] else [b[k]]):=by rw[mv b k hlt,Vo]
  have hel:(bs++fY (b.take k)).length≤bs.length+2*b.length:=by
   have:=(pP (b.take k)).2;rw[dS] at this;rw[bG];omega
  clear hcell;by_cases hx:b[k]=0
  ·rw[aw hx] at hstep;rw[hx] at hc;have hc':wr.cell? ⟨bk,o+k,none⟩=some (.int .u8 0):=hc;have HST:=aa hstep;have gZ:=aa (lN pb A' c' _ [0] #[.int .u8 0] 1 wr kI.o rfl rfl (by simp only[aT,bz];omega));have Gc:(bs++fY (b.take k)++[0]).length≤bs.length+2*b.length+1:=by rw[bG];simp only[aT,bz];omega
   clear hx hstep hc;go_wp2_with fail;refine gZ.o.mono ?_;rintro e w2 ⟨A2,c2,rfl,h1,h2⟩;have mG:=aa (lN pb A2 c2 _ [255] #[.int .u8 255] 1 w2 h1 rfl rfl (by simp only[aT,bz];omega));have aP:=aa (HG2.o.trans h2);clear h1 h2 gZ;go_wp2_with fail;refine mG.o.mono ?_;rintro e w3 ⟨A3,c3,rfl,h1,h2⟩;have e1:bs++fY (b.take k)++[0]++[255]=bs++fY (b.take (k+1)):=by rw[HST.o];simp
   rw[e1] at h1 h2;have kY:=aa h1;have cj:=aa (aP.o.trans h2);clear h1 h2 mG hel Gc hc' e1;go_wp2_with fail;go_roundg gk';exact⟨k+1,A3,c3,by omega,by omega,by go_num,kY.o,cj.o⟩;omega
  rw[ai hx] at hstep;have HST:=aa hstep;obtain⟨x,t_⟩:∃x,b[k]=x:=⟨_,rfl⟩;obtain⟨m,hm⟩:∃m,x.toNat=m:=⟨_,rfl⟩;have hne:((m:Int)==0)=false:=by
   have:m≠0:=by
    intro e;apply hx;rw[t_];apply tF.1;rw[hm,e];rfl
   simp;omega
  rw[t_] at HST;rw[t_,hm] at hc;have gZ:=aa (lN pb A' c' _ [x] #[.int .u8 (m:Int)] 1 wr kI.o rfl (by rw[← hm];rfl) (by simp only[aT,bz];omega));clear hx hstep t_ hm;go_wp2_with fail;refine gZ.o.mono ?_;rintro e w2 ⟨A2,c2,rfl,h1,h2⟩;have e1:bs++fY (b.take k)++[x]=bs++fY (b.take (k+1)):=by rw[HST.o];simp
  rw[e1] at h1 h2;have kY:=aa h1;have cj:=aa (HG2.o.trans h2);clear h1 h2 gZ hel hc e1;go_wp2_with fail;go_roundg gk';exact⟨k+1,A2,c2,by omega,by omega,by go_num,kY.o,cj.o⟩;omega
 obtain rfl:k=b.length:=by omega
 rw[fS] at kI HG2;have hel:(bs++fY b).length≤bs.length+2*b.length:=by
  have:=(pP b).2;rw[bG];omega
 have gZ:=aa (lN pb A' c' _ [0,0] #[.int .u8 0,.int .u8 0] 2 wr kI.o rfl rfl (by simp only[aT,bz];omega));rw[nQ] at gZ;clear hg hel;go_wp2_with fail;refine gZ.o.mono ?_;rintro e w2 ⟨A2,c2,rfl,h1,h2⟩;have kY:=aa h1;have cj:=aa (HG2.o.trans h2);clear h1 h2 gZ;go_wp2_with fail;go_end0;exact⟨A2,c2,rfl,kY.o,cj.o⟩
end
section
open Go.RowKit Go.Shelf
theorem Gd:(2:Nat) ^ 63=9223372036854775808:=by decide
theorem OL:(2:Nat) ^ 64=18446744073709551616:=by decide
theorem ab4(n:Nat)(h:n<18446744073709551616):n &&& 9223372036854775808=if n<9223372036854775808 then 0 else 9223372036854775808:=by
 rw[← Gd];have hb:n.testBit 63=decide (2 ^ 63≤n):=by
  rw[Nat.testBit_eq_decide_div_mod_eq,Gd];by_cases h1:9223372036854775808≤n
  ·rw[bW h1,bW];omega
  rw[bX h1,bX];omega
 apply NV;intro i;rw[Nat.testBit_and,Kk];by_cases hi:63=i
 ·subst hi;rw[hb];by_cases h1:n<2 ^ 63
  ·rw[aw h1,bX (by omega)];simp
  rw[ai h1,bW (by omega),Kk];simp
 rw[bX hi,Bool.and_false];split
 ·simp
 rw[Kk,bX hi]
theorem OM(n:Nat)(h:n<9223372036854775808):n ^^^ 9223372036854775808=n+9223372036854775808:=by
 rw[← Gd] at h ⊢;apply NV;intro i;rw[Nat.testBit_xor,Kk,Fz];rcases FA i 63 with hi | rfl | hi
 ·rw[Nat.testBit_two_pow_add_gt hi,bX (by omega),Bool.xor_false]
 ·rw[Nat.testBit_two_pow_add_eq];simp
 have h2:n<2 ^ i:=df h (mq (by omega) (by omega));have h3:2 ^ 63+n<2 ^ i:=df (show 2 ^ 63+n<2 ^ 64 by rw[vE];omega) (mq (by omega) (by omega));rw[NW h2,NW h3,bX (by omega),Bool.xor_false]
theorem ab5(n:Nat)(h1:9223372036854775808≤n)(h:n<18446744073709551616):n ^^^ 9223372036854775808=n-9223372036854775808:=by
 obtain⟨m,rfl⟩:∃m,n=m+9223372036854775808:=⟨n-9223372036854775808,by omega⟩;have hm:=OM m (by omega);rw[Fx,← hm,Nat.xor_assoc,Nat.xor_self,Nat.xor_zero]
theorem ab6(n:Nat)(h:n<18446744073709551616):18446744073709551615 ^^^ n=18446744073709551615-n:=by
 apply NV;intro i;have e1:(18446744073709551615:Nat)=2 ^ 64-1:=by decide
 have e2:18446744073709551615-n=2 ^ 64-(n+1):=by rw[e1];omega
 rw[Nat.testBit_xor,e2,Nat.testBit_two_pow_sub_succ (by rw[OL];exact h),e1,Nat.testBit_two_pow_sub_one];by_cases hi:i<64
 ·simp[hi]
 have:n.testBit i=false:=NW (df h (by rw[← OL];exact mq (by omega) (by omega)));simp[hi,this]
theorem ab7(n:Nat)(h:n<18446744073709551616):bits .and .u64 (n:Int) 9223372036854775808=if n<9223372036854775808 then 0 else 9223372036854775808:=by
 have:=u64_and_nat n 9223372036854775808 h (by decide);rw[ab4 n h] at this;rw[show (9223372036854775808:Int)=((9223372036854775808:Nat):Int) from rfl,this];split<;>rfl
theorem Vp(n:Nat)(h:n<18446744073709551616):bits .xor .u64 IntKind.u64.max (n:Int)=((18446744073709551615-n:Nat):Int):=by
 have:=u64_xor_nat 18446744073709551615 n (by decide) h;rw[ab6 n h] at this;exact this
theorem ab8(n:Nat)(h:n<18446744073709551616):bits .xor .u64 (n:Int) 9223372036854775808=(if n<9223372036854775808 then ((n+9223372036854775808:Nat):Int) else ((n-9223372036854775808:Nat):Int)):=by
 have:=u64_xor_nat n 9223372036854775808 h (by decide);split
 ·rename_i h1;rw[OM n h1] at this;exact this
 rename_i h1;rw[ab5 n (by omega) h] at this;exact this
theorem Vq(n:Nat)(w:World)(hn:n<18446744073709551616):Calls prog 187 #[.int .u64 n] w fun e w'=>e=.returned (.int .u64 (fq n:Nat))∧w=w':=by
 have h1:=ab7 n hn;have h2:=Vp n hn;have h3:=ab8 n hn;by_cases hlt:n<9223372036854775808
 ·rw[aw hlt] at h1 h3;have ht:fq n=n+9223372036854775808:=by rw[fq,aw hlt]
  clear h2;go_enter func187,ntmps187;go_wp2;go_ret;exact⟨by first | rfl | (rw[ht];rfl),rfl⟩
 rw[ai hlt] at h1 h3;have ht:fq n=18446744073709551615-n:=by rw[fq,ai hlt]
 clear h3;go_enter func187,ntmps187;go_wp2;go_ret;exact⟨by first | rfl | (rw[ht];rfl),rfl⟩
theorem Wr.al{w:World}{pb:Nat}{A:Option Addr}{c:Nat}{bs:List UInt8}(h:Wr w pb A c bs)(o:Obj):Wr (w.alloc o) pb A c bs:=h.grow ((ah w).alloc o)
theorem ab9(pb:Nat)(A:Option Addr)(c:Nat)(bs:List UInt8)(cv:Cv)(w:World)(h:Wr w pb A c bs)(hl:bs.length+1≤140737488355328) :
 Calls prog 144 #[.pointer (some ⟨pb,0,none⟩),cv.agg] w (mE w pb A bs.length c (bs++[16])):=by
 have hz:(w.alloc (.cells cv.cells 27)).heap.size=w.heap.size+1:=by simp
 have HC:=aa (lN pb A c bs [16] #[.int .u8 16] 1 _ (h.al (.cells cv.cells 27)) rfl rfl (by simp only[aT,bz];omega));rw[hz] at HC;clear h hz;go_enter func144,ntmps144;go_wp2_with fail;refine HC.o.mono ?_;rintro e w2 ⟨A2,c2,rfl,h1,h2⟩;have HW:=aa h1;have HG:=aa ((WG.qH pb _ ((ah w).alloc (.cells cv.cells 27))).trans h2);clear h1 h2 HC;go_wp2_with fail;go_end0;exact⟨A2,c2,rfl,HW.o,HG.o⟩
theorem ab_(pb:Nat)(A:Option Addr)(c:Nat)(bs:List UInt8)(cv:Cv)(n:Nat)(hn:n≤1)(hcv:cv.n=(n:Int))(w:World)(h:Wr w pb A c bs)(hl:bs.length+2≤140737488355328) :
 Calls prog 145 #[.pointer (some ⟨pb,0,none⟩),cv.agg] w (mE w pb A bs.length c (bs++[32,UInt8.ofNat n])):=by
 obtain⟨c1,c2,c3,c4,c5,c6,c7,c8,c9,c10,c11⟩:=cv;dsimp only at hcv;subst hcv;have hz:(w.alloc (.cells (Cv.cells ⟨c1,n,c3,c4,c5,c6,c7,c8,c9,c10,c11⟩) 27)).heap.size=w.heap.size+1:=by simp
 have HC:=aa (lN pb A c bs [32,UInt8.ofNat n] #[.int .u8 32,.int .u8 (n:Int)] 2 _ (h.al (.cells (Cv.cells ⟨c1,n,c3,c4,c5,c6,c7,c8,c9,c10,c11⟩) 27)) rfl (by
  show (#[.int .u8 32,.int .u8 (n:Int)]:Array Value)=#[.int .u8 32,.int .u8 ((UInt8.ofNat n).toNat:Int)];rw[za n (by omega)]) (by simp only[aT,bz];omega))
 rw[hz] at HC;have hw:IntKind.u8.wrap (n:Int)=(n:Int):=by rw[Kl];omega
 clear h hz;go_enter func145,ntmps145;go_wp2_with fail;refine HC.o.mono ?_;rintro e w2 ⟨A2,c2,rfl,h1,h2⟩;have HW:=aa h1;have HG:=aa ((WG.qH pb _ ((ah w).alloc (.cells (Cv.cells ⟨c1,n,c3,c4,c5,c6,c7,c8,c9,c10,c11⟩) 27))).trans h2);clear h1 h2 HC;go_wp2_with fail;go_end0;exact⟨A2,c2,rfl,HW.o,HG.o⟩
theorem Ge{w0 w:World}{pb:Nat}{A0 A:Option Addr}{n0 c0 c:Nat}{bs:List UInt8}(zs:List UInt8)(cs:Array Value)(n:Nat)(h:Wr w pb A c bs)(hg:WG w0 pb (.slice A0 n0 c0) w (.slice A bs.length c))(hn:zs.length=n)(he:cs=(bT zs).toArray)
 (hl:bs.length+zs.length≤140737488400000):Calls prog 184 #[.pointer (some ⟨pb,0,none⟩),.slice (some ⟨w.heap.size,0,none⟩) n n] (w.alloc (.cells cs 5)) (mE w0 pb A0 n0 c0 (bs++zs)):=by
 refine(lN pb A c bs zs cs n w h hn he hl).mono ?_;rintro e w' ⟨A',c',rfl,h1,h2⟩;exact⟨A',c',rfl,h1,hg.trans h2⟩
theorem KJ{w0 w:World}{pb:Nat}{A0 A:Option Addr}{n0 c0 c:Nat}{bs:List UInt8}(n size:Nat)(h:Wr w pb A c bs)(hg:WG w0 pb (.slice A0 n0 c0) w (.slice A bs.length c))(hs:size≤8)(hn:n<18446744073709551616)
 (hl:bs.length+8≤140737488355328):Calls prog 186 #[.pointer (some ⟨pb,0,none⟩),.int .u64 n,.int .i64 size] w (mE w0 pb A0 n0 c0 (bs++be size n)):=by
 refine(ab3 pb A c bs n size w h hs hn hl).mono ?_;rintro e w' ⟨A',c',rfl,h1,h2⟩;exact⟨A',c',rfl,h1,hg.trans h2⟩
theorem aca(pb:Nat)(A:Option Addr)(c:Nat)(bs:List UInt8)(n:Nat)(hn:n<18446744073709551616)(c3 c6 c9:Option Addr)(c4 c5 c7 c8 c10 c11:Nat)(w:World)(h:Wr w pb A c bs)(hl:bs.length+40≤140737488355328) :
 Calls prog 146 #[.pointer (some ⟨pb,0,none⟩),Cv.agg ⟨3,n,c3,c4,c5,c6,c7,c8,c9,c10,c11⟩] w (mE w pb A bs.length c (bs++48::mZ n)):=by
 have hi:=AX n hn;have hb:=Gf;have hcv:IntKind.i64.wrap (n:Int)=i64 n:=by unfold i64;rw[lJ];split<;>omega
 have hfc:=Di (i64 n) hi.1 hi.2;have mB:=acb (i64 n);obtain⟨g,hg⟩:∃g,(fl (i64 n)).1=g:=⟨_,rfl⟩;obtain⟨rest,hrest⟩:∃g,(fl (i64 n)).2=g:=⟨_,rfl⟩;have hkey:mZ n=1::(be 8 (fq g)++(be 2 rest++[0])):=by unfold mZ;rw[hg,hrest]
 rw[hg,hrest] at hfc mB;have jt:=aa (fun w=>mB w hi.1 hi.2);have HT:=aa (fun w=>Vq g w hfc.bits);have ht:=AY g hfc.bits;have hrs:=hfc.small;have HKEY:=aa hkey;clear hfc mB hkey hg hrest;obtain⟨i,hin⟩:∃i,i64 n=i:=⟨_,rfl⟩;rw[hin] at hcv jt hi;clear hin;obtain⟨tg,Gg⟩:∃x,fq g=x:=⟨_,rfl⟩;rw[Gg] at HT ht HKEY;clear Gg;have hz:(w.alloc (.cells (Cv.cells ⟨3,n,c3,c4,c5,c6,c7,c8,c9,c10,c11⟩) 27)).heap.size=w.heap.size+1:=by simp
 have aY:=aa (WG.qH pb (.slice A bs.length c) ((ah w).alloc (.cells (Cv.cells ⟨3,n,c3,c4,c5,c6,c7,c8,c9,c10,c11⟩) 27)));have bg:=aa (aD w 27 (Cv.cells ⟨3,n,c3,c4,c5,c6,c7,c8,c9,c10,c11⟩));have hne:w.heap.size≠pb:=by have:=h.1.lt;omega
 have hno:Value.ownBlock (.slice A bs.length c)≠some w.heap.size:=fun e=>by have:=h.own e;omega
 have ng:=aa (fun q:w.heap.size=pb∨Value.ownBlock (.slice A bs.length c)=some w.heap.size=>q.elim hne hno);have HC:=aa (lN pb A c bs [48] #[.int .u8 48] 1 (w.alloc (.cells (Cv.cells ⟨3,n,c3,c4,c5,c6,c7,c8,c9,c10,c11⟩) 27)) (h.al _) rfl rfl (by simp only[aT,bz];omega));rw[hz] at HC;clear h hz hne hno;go_enter func146,ntmps146;go_wp2_with fail;refine HC.o.mono ?_;rintro e w2 ⟨A2,c2,rfl,h1,h2⟩;have d_:=h2.kept.blk bg.o ng.o;have hc0:=d_.cell 0;have hc1:=d_.cell 1;have eO:=d_.lt;have aG:=aa d_;have kI:=aa h1;have HG2:=aa h2;have rV:(bs++[48]).length=bs.length+1:=by simp
 have hl2:(bs++[48]).length+30≤140737488355328:=by omega
 clear h1 h2 HC d_ rV;go_wp2_with fail;refine(jt.o _).mono ?_;rintro e w' ⟨rfl,rfl⟩;have HC:=aa (Ge [1] #[.int .u8 1] 1 kI.o HG2.o rfl rfl (by simp only[bG,aT,bz,fX] at *;omega));go_wp2_with fail;refine HC.o.mono ?_;rintro e w3 ⟨A3,rY,rfl,h1,h2⟩;have mF:=aa h1;have aP:=aa h2;clear h1 h2 HC;go_wp2_with fail;refine(HT.o _).mono ?_;rintro e w' ⟨rfl,rfl⟩;have HC:=aa (KJ tg 8 mF.o aP.o (by omega) ht (by simp only[bG,aT,bz,fX] at *;omega));go_wp2_with fail;refine HC.o.mono ?_;rintro e w4 ⟨A4,Gh,rfl,h1,h2⟩;have kY:=aa h1;have cj:=aa h2;clear h1 h2 HC
 have HC:=aa (KJ rest 2 kY.o cj.o (by omega) (by omega) (by simp only[bG,aT,bz,fX] at *;omega));go_wp2_with fail;refine HC.o.mono ?_;rintro e w5 ⟨A5,KL,rfl,h1,h2⟩;have OO:=aa h1;have bN:=aa h2;clear h1 h2 HC;have HC:=aa (Ge [0] #[.int .u8 0] 1 OO.o bN.o rfl rfl (by simp only[bG,aT,bz,fX] at *;omega));go_wp2_with fail;refine HC.o.mono ?_;rintro e w6 ⟨A6,OP,rfl,h1,h2⟩;have OQ:=aa h1;have bp:=aa h2;clear h1 h2 HC;go_wp2_with fail;go_end0;have e0:bs++[48]++[1]++be 8 tg++be 2 rest++[0]=bs++48::mZ n:=by rw[HKEY.o];simp
 have HX:=OQ.o;have HY:=bp.o;rw[e0] at HX HY;exact⟨A6,OP,rfl,HX,aY.o.trans HY⟩
theorem acd(pb:Nat)(A:Option Addr)(c:Nat)(bs:List UInt8)(n:Nat)(hn:n<18446744073709551616)(oL:dt n=true)(c3 c6 c9:Option Addr)(c4 c5 c7 c8 c10 c11:Nat)(w:World)(h:Wr w pb A c bs)(hl:bs.length+40≤140737488355328) :
 Calls prog 146 #[.pointer (some ⟨pb,0,none⟩),Cv.agg ⟨4,n,c3,c4,c5,c6,c7,c8,c9,c10,c11⟩] w (mE w pb A bs.length c (bs++48::kJ n)):=by
 have hb:=pQ
 have HKEY:=aa (show kJ n=0::be 8 n by unfold kJ;rw[aw oL]);have hz:(w.alloc (.cells (Cv.cells ⟨4,n,c3,c4,c5,c6,c7,c8,c9,c10,c11⟩) 27)).heap.size=w.heap.size+1:=by simp
 have aY:=aa (WG.qH pb (.slice A bs.length c) ((ah w).alloc (.cells (Cv.cells ⟨4,n,c3,c4,c5,c6,c7,c8,c9,c10,c11⟩) 27)));have bg:=aa (aD w 27 (Cv.cells ⟨4,n,c3,c4,c5,c6,c7,c8,c9,c10,c11⟩));have hne:w.heap.size≠pb:=by have:=h.1.lt;omega
 have hno:Value.ownBlock (.slice A bs.length c)≠some w.heap.size:=fun e=>by have:=h.own e;omega
 have ng:=aa (fun q:w.heap.size=pb∨Value.ownBlock (.slice A bs.length c)=some w.heap.size=>q.elim hne hno);have HC:=aa (lN pb A c bs [48] #[.int .u8 48] 1 (w.alloc (.cells (Cv.cells ⟨4,n,c3,c4,c5,c6,c7,c8,c9,c10,c11⟩) 27)) (h.al _) rfl rfl (by simp only[aT,bz];omega));rw[hz] at HC;clear h hz hne hno;go_enter func146,ntmps146;go_wp2_with fail;refine HC.o.mono ?_;rintro e w2 ⟨A2,c2,rfl,h1,h2⟩;have d_:=h2.kept.blk bg.o ng.o;have hc0:=d_.cell 0;have hc1:=d_.cell 1;have eO:=d_.lt;have aG:=aa d_;have kI:=aa h1;have HG2:=aa h2;have rV:(bs++[48]).length=bs.length+1:=by simp
 have hl2:(bs++[48]).length+30≤140737488355328:=by omega
 clear h1 h2 HC d_ rV;go_wp2_with fail;refine(xt n _).mono ?_;rintro e w' ⟨rfl,rfl⟩;have ace:=oL;have HC:=aa (Ge [0] #[.int .u8 0] 1 kI.o HG2.o rfl rfl (by simp only[bG,aT,bz,fX] at *;omega));go_wp2_with fail;refine HC.o.mono ?_;rintro e w3 ⟨A3,rY,rfl,h1,h2⟩;have mF:=aa h1;have aP:=aa h2;clear h1 h2 HC;have fZ:=aP.o.kept.blk bg.o ng.o;have acf:=fZ.cell 1;have OS:=fZ.lt;clear fZ;have HC:=aa (KJ n 8 mF.o aP.o (by omega) hn (by simp only[bG,aT,bz,fX] at *;omega));go_wp2_with fail;refine HC.o.mono ?_;rintro e w4 ⟨A4,Gh,rfl,h1,h2⟩;have kY:=aa h1;have cj:=aa h2;clear h1 h2 HC;go_wp2_with fail;go_end0
 have e0:bs++[48]++[0]++be 8 n=bs++48::kJ n:=by rw[HKEY.o];simp
 have HX:=kY.o;have HY:=cj.o;rw[e0] at HX HY;exact⟨A4,Gh,rfl,HX,aY.o.trans HY⟩
theorem acg(pb:Nat)(A:Option Addr)(c:Nat)(bs:List UInt8)(n:Nat)(hn:n<18446744073709551616)(oL:dt n=false)(c3 c6 c9:Option Addr)(c4 c5 c7 c8 c10 c11:Nat)(w:World)(h:Wr w pb A c bs)(hl:bs.length+40≤140737488355328) :
 Calls prog 146 #[.pointer (some ⟨pb,0,none⟩),Cv.agg ⟨4,n,c3,c4,c5,c6,c7,c8,c9,c10,c11⟩] w (mE w pb A bs.length c (bs++48::kJ n)):=by
 have hb:=pQ
 have HKEY:=aa (show kJ n=1::(be 8 (fq n)++[0,0,1]) by unfold kJ;rw[ai (by rw[oL];decide)]);have HT:=aa (fun w=>Vq n w hn);have ht:=AY n hn;obtain⟨tg,Gg⟩:∃x,fq n=x:=⟨_,rfl⟩;rw[Gg] at HT ht HKEY;clear Gg;have hz:(w.alloc (.cells (Cv.cells ⟨4,n,c3,c4,c5,c6,c7,c8,c9,c10,c11⟩) 27)).heap.size=w.heap.size+1:=by simp
 have aY:=aa (WG.qH pb (.slice A bs.length c) ((ah w).alloc (.cells (Cv.cells ⟨4,n,c3,c4,c5,c6,c7,c8,c9,c10,c11⟩) 27)));have bg:=aa (aD w 27 (Cv.cells ⟨4,n,c3,c4,c5,c6,c7,c8,c9,c10,c11⟩));have hne:w.heap.size≠pb:=by have:=h.1.lt;omega
 have hno:Value.ownBlock (.slice A bs.length c)≠some w.heap.size:=fun e=>by have:=h.own e;omega
 have ng:=aa (fun q:w.heap.size=pb∨Value.ownBlock (.slice A bs.length c)=some w.heap.size=>q.elim hne hno);have HC:=aa (lN pb A c bs [48] #[.int .u8 48] 1 (w.alloc (.cells (Cv.cells ⟨4,n,c3,c4,c5,c6,c7,c8,c9,c10,c11⟩) 27)) (h.al _) rfl rfl (by simp only[aT,bz];omega));rw[hz] at HC;clear h hz hne hno;go_enter func146,ntmps146;go_wp2_with fail;refine HC.o.mono ?_;rintro e w2 ⟨A2,c2,rfl,h1,h2⟩;have d_:=h2.kept.blk bg.o ng.o;have hc0:=d_.cell 0;have hc1:=d_.cell 1;have eO:=d_.lt;have aG:=aa d_;have kI:=aa h1;have HG2:=aa h2;have rV:(bs++[48]).length=bs.length+1:=by simp
 have hl2:(bs++[48]).length+30≤140737488355328:=by omega
 clear h1 h2 HC d_ rV;go_wp2_with fail;refine(xt n _).mono ?_;rintro e w' ⟨rfl,rfl⟩;have ace:=oL;have HC:=aa (Ge [1] #[.int .u8 1] 1 kI.o HG2.o rfl rfl (by simp only[bG,aT,bz,fX] at *;omega));go_wp2_with fail;refine HC.o.mono ?_;rintro e w3 ⟨A3,rY,rfl,h1,h2⟩;have mF:=aa h1;have aP:=aa h2;clear h1 h2 HC;have fZ:=aP.o.kept.blk bg.o ng.o;have acf:=fZ.cell 1;have OS:=fZ.lt;clear fZ;go_wp2_with fail;refine(HT.o _).mono ?_;rintro e w' ⟨rfl,rfl⟩;have HC:=aa (KJ tg 8 mF.o aP.o (by omega) ht (by simp only[bG,aT,bz,fX] at *;omega));go_wp2_with fail;refine HC.o.mono ?_;rintro e w4 ⟨A4,Gh,rfl,h1,h2⟩;have kY:=aa h1;have cj:=aa h2;clear h1 h2 HC
 have HC:=aa (Ge [0,0,1] #[.int .u8 0,.int .u8 0,.int .u8 1] 3 kY.o cj.o rfl rfl (by simp only[bG,aT,bz,fX] at *;omega));go_wp2_with fail;refine HC.o.mono ?_;rintro e w5 ⟨A5,KL,rfl,h1,h2⟩;have OO:=aa h1;have bN:=aa h2;clear h1 h2 HC;go_wp2_with fail;go_end0;have e0:bs++[48]++[1]++be 8 tg++[0,0,1]=bs++48::kJ n:=by rw[HKEY.o];simp
 have HX:=OO.o;have HY:=bN.o;rw[e0] at HX HY;exact⟨A5,KL,rfl,HX,aY.o.trans HY⟩
end
section
open Go.RowKit Go.Shelf
theorem ach(pb:Nat)(A:Option Addr)(c:Nat)(bs:List UInt8)(b:List UInt8)(aB aL aF:Option Addr)(cB nL cL nF cF:Nat)(w:World)(h:Wr w pb A c bs)(hb:Reads (bK w 0 pb) 1 aB b.length (bT b))(hl:bs.length+2*b.length+3≤140737488355328) :
 Calls prog 147 #[.pointer (some ⟨pb,0,none⟩),Cv.agg ⟨5,(0:Nat),aB,b.length,cB,aL,nL,cL,aF,nF,cF⟩] w (mE w pb A bs.length c (bs++64::dC b)):=by
 have hz:(w.alloc (.cells (Cv.cells ⟨5,(0:Nat),aB,b.length,cB,aL,nL,cL,aF,nF,cF⟩) 27)).heap.size=w.heap.size+1:=by simp
 have aY:=aa (WG.qH pb (.slice A bs.length c) ((ah w).alloc (.cells (Cv.cells ⟨5,(0:Nat),aB,b.length,cB,aL,nL,cL,aF,nF,cF⟩) 27)));have bg:=aa (aD w 27 (Cv.cells ⟨5,(0:Nat),aB,b.length,cB,aL,nL,cL,aF,nF,cF⟩));have hne:w.heap.size≠pb:=by have:=h.1.lt;omega
 have hno:Value.ownBlock (.slice A bs.length c)≠some w.heap.size:=fun e=>by have:=h.own e;omega
 have ng:=aa (fun q:w.heap.size=pb∨Value.ownBlock (.slice A bs.length c)=some w.heap.size=>q.elim hne hno);have mY:=aa (h.al (.cells (Cv.cells ⟨5,(0:Nat),aB,b.length,cB,aL,nL,cL,aF,nF,cF⟩) 27));have rZ:=aa (eX (fk (oH (jZ pb w) (pI h.1.lt) (.cells (Cv.cells ⟨5,(0:Nat),aB,b.length,cB,aL,nL,cL,aF,nF,cF⟩) 27)) (ay _) (ay _) (ay _)) hb);have HC:=aa (lN pb A c bs [64] #[.int .u8 64] 1 (w.alloc (.cells (Cv.cells ⟨5,(0:Nat),aB,b.length,cB,aL,nL,cL,aF,nF,cF⟩) 27)) mY.o rfl rfl (by simp only[aT,bz];omega));rw[hz] at HC;clear h hz hne hno hb;go_enter func147,ntmps147;go_wp2_with fail;refine HC.o.mono ?_;rintro e w2 ⟨A2,c2,rfl,h1,h2⟩;have d_:=h2.kept.blk bg.o ng.o;have hc2:=d_.cell 2
 have eO:=d_.lt;have HG2:=aa h2;have rV:(bs++[(64:UInt8)]).length=bs.length+1:=by simp
 have mG:=aa (OJ pb A2 c2 _ b aB cB w2 h1 (eX (fun p u (hp:bK _ 0 pb p u)=>⟨(fk (h2.below mY.o) (ay _) (ay _) (ay _) p u hp).1,by have:=h1.1.lt;have:=hp.2.2;omega,by have:=hp.2.2;omega,fun e=>by have:=(h1.own e).1;have:=hp.2.2;omega⟩) rZ.o) (by omega));clear h1 h2 HC d_ rV;go_wp2_with fail;refine mG.o.mono ?_;rintro e w3 ⟨A3,c3,rfl,h1,h2⟩;have e0:bs++[(64:UInt8)]++dC b=bs++64::dC b:=by simp
 rw[e0] at h1 h2;have mF:=aa h1;have aP:=aa (HG2.o.trans h2);clear h1 h2 mG e0;go_wp2_with fail;go_end0;exact⟨A3,c3,rfl,mF.o,aY.o.trans aP.o⟩
theorem aci(pb:Nat)(A:Option Addr)(c:Nat)(bs:List UInt8)(b:List UInt8)(aB aL aF:Option Addr)(cB nL cL nF cF:Nat)(w:World)(h:Wr w pb A c bs)(hb:Reads (bK w 0 pb) 1 aB b.length (bT b))(hl:bs.length+2*b.length+3≤140737488355328) :
 Calls prog 148 #[.pointer (some ⟨pb,0,none⟩),Cv.agg ⟨6,(0:Nat),aB,b.length,cB,aL,nL,cL,aF,nF,cF⟩] w (mE w pb A bs.length c (bs++80::dC b)):=by
 have hz:(w.alloc (.cells (Cv.cells ⟨6,(0:Nat),aB,b.length,cB,aL,nL,cL,aF,nF,cF⟩) 27)).heap.size=w.heap.size+1:=by simp
 have aY:=aa (WG.qH pb (.slice A bs.length c) ((ah w).alloc (.cells (Cv.cells ⟨6,(0:Nat),aB,b.length,cB,aL,nL,cL,aF,nF,cF⟩) 27)));have bg:=aa (aD w 27 (Cv.cells ⟨6,(0:Nat),aB,b.length,cB,aL,nL,cL,aF,nF,cF⟩));have hne:w.heap.size≠pb:=by have:=h.1.lt;omega
 have hno:Value.ownBlock (.slice A bs.length c)≠some w.heap.size:=fun e=>by have:=h.own e;omega
 have ng:=aa (fun q:w.heap.size=pb∨Value.ownBlock (.slice A bs.length c)=some w.heap.size=>q.elim hne hno);have mY:=aa (h.al (.cells (Cv.cells ⟨6,(0:Nat),aB,b.length,cB,aL,nL,cL,aF,nF,cF⟩) 27));have rZ:=aa (eX (fk (oH (jZ pb w) (pI h.1.lt) (.cells (Cv.cells ⟨6,(0:Nat),aB,b.length,cB,aL,nL,cL,aF,nF,cF⟩) 27)) (ay _) (ay _) (ay _)) hb);have HC:=aa (lN pb A c bs [80] #[.int .u8 80] 1 (w.alloc (.cells (Cv.cells ⟨6,(0:Nat),aB,b.length,cB,aL,nL,cL,aF,nF,cF⟩) 27)) mY.o rfl rfl (by simp only[aT,bz];omega));rw[hz] at HC;clear h hz hne hno hb;go_enter func148,ntmps148;go_wp2_with fail;refine HC.o.mono ?_;rintro e w2 ⟨A2,c2,rfl,h1,h2⟩;have d_:=h2.kept.blk bg.o ng.o;have hc2:=d_.cell 2
 have eO:=d_.lt;have HG2:=aa h2;have rV:(bs++[(80:UInt8)]).length=bs.length+1:=by simp
 have mG:=aa (OJ pb A2 c2 _ b aB cB w2 h1 (eX (fun p u (hp:bK _ 0 pb p u)=>⟨(fk (h2.below mY.o) (ay _) (ay _) (ay _) p u hp).1,by have:=h1.1.lt;have:=hp.2.2;omega,by have:=hp.2.2;omega,fun e=>by have:=(h1.own e).1;have:=hp.2.2;omega⟩) rZ.o) (by omega));clear h1 h2 HC d_ rV;go_wp2_with fail;refine mG.o.mono ?_;rintro e w3 ⟨A3,c3,rfl,h1,h2⟩;have e0:bs++[(80:UInt8)]++dC b=bs++80::dC b:=by simp
 rw[e0] at h1 h2;have mF:=aa h1;have aP:=aa (HG2.o.trans h2);clear h1 h2 mG e0;go_wp2_with fail;go_end0;exact⟨A3,c3,rfl,mF.o,aY.o.trans aP.o⟩
def OT(x:V):Prop:=∀(pb:Nat) (A:Option Addr) (c:Nat) (bs:List UInt8) (cv:Cv) (w:World),Wr w pb A c bs→eN w pb x cv→bs.length+2*x.key.length≤140737488350000 →
 Calls prog 98 #[.pointer (some ⟨pb,0,none⟩),cv.agg] w (mE w pb A bs.length c (bs++x.key))
theorem eN.wg{w w':World}{pb:Nat}{A:Option Addr}{c:Nat}{bs:List UInt8}{v':Value}{x:V}{cv:Cv}(h:eN w pb x cv)(hg:WG w pb (.slice A bs.length c) w' v')(hw:Wr w pb A c bs):eN w' pb x cv:=
 h.below (hg.below hw) (ay _) (ay _)
theorem acj(pb:Nat)(A:Option Addr)(c:Nat)(bs:List UInt8)(l:List V)(aB aL aF:Option Addr)(nB cB cL nF cF:Nat)(w:World)(h:Wr w pb A c bs)(hk:∀x∈l,OT x)
 (hv:eN w pb (V.mk 7 0 [] l []) ⟨7,(0:Nat),aB,nB,cB,aL,l.length,cL,aF,nF,cF⟩) (hl:bs.length+2*(l.map V.ek).flatten.length+2≤140737488350000) :
 Calls prog 149 #[.pointer (some ⟨pb,0,none⟩),Cv.agg ⟨7,(0:Nat),aB,nB,cB,aL,l.length,cL,aF,nF,cF⟩] w (mE w pb A bs.length c (bs++96::((l.map V.ek).flatten++[0]))):=by
 have HK:=aa hk;have hll:=ack l;have hz:(w.alloc (.cells (Cv.cells ⟨7,(0:Nat),aB,nB,cB,aL,l.length,cL,aF,nF,cF⟩) 27)).heap.size=w.heap.size+1:=by simp
 have aY:=aa (WG.qH pb (.slice A bs.length c) ((ah w).alloc (.cells (Cv.cells ⟨7,(0:Nat),aB,nB,cB,aL,l.length,cL,aF,nF,cF⟩) 27)));have bg:=aa (aD w 27 (Cv.cells ⟨7,(0:Nat),aB,nB,cB,aL,l.length,cL,aF,nF,cF⟩));have hne:w.heap.size≠pb:=by have:=h.1.lt;omega
 have hno:Value.ownBlock (.slice A bs.length c)≠some w.heap.size:=fun e=>by have:=h.own e;omega
 have ng:=aa (fun q:w.heap.size=pb∨Value.ownBlock (.slice A bs.length c)=some w.heap.size=>q.elim hne hno);have mY:=aa (h.al (.cells (Cv.cells ⟨7,(0:Nat),aB,nB,cB,aL,l.length,cL,aF,nF,cF⟩) 27));have HV:=aa (hv.below (oH (jZ pb w) (pI h.1.lt) (.cells (Cv.cells ⟨7,(0:Nat),aB,nB,cB,aL,l.length,cL,aF,nF,cF⟩) 27)) (ay _) (ay _));have HC:=aa (lN pb A c bs [96] #[.int .u8 96] 1 (w.alloc (.cells (Cv.cells ⟨7,(0:Nat),aB,nB,cB,aL,l.length,cL,aF,nF,cF⟩) 27)) mY.o rfl rfl (by simp only[aT,bz];omega));rw[hz] at HC;clear h hz hne hno hv hk;go_enter func149,ntmps149;go_wp2_with fail;refine HC.o.mono ?_;rintro e w2 ⟨A2,c2,rfl,h1,h2⟩;have d_:=h2.kept.blk bg.o ng.o;have hc3:=d_.cell 3;have eO:=d_.lt;have kI:=aa h1
 have HG2:=aa h2;clear h1 h2 HC d_;go_wp2_with fail;go_loopg [5,12] (l.length+1) (fun gk _ i wr=>∃(j:Nat) (A':Option Addr) (c':Nat),j≤l.length∧gk+j=l.length+1∧i=.int .i64 j∧Wr wr pb A' c' (bs++96::((l.take j).map V.ek).flatten) ∧
  WG (w.alloc (.cells (Cv.cells ⟨7,(0:Nat),aB,nB,cB,aL,l.length,cL,aF,nF,cF⟩) 27)) pb (.slice A bs.length c) wr (.slice A' (bs++96::((l.take j).map V.ek).flatten).length c'))
 exact⟨0,A2,c2,ba _,rfl,rfl,kI.o,HG2.o⟩;obtain⟨j,A',c',hj,hg,rfl,hw,hgr⟩:=hrel;obtain⟨gk',rfl⟩:=bS gk (by omega);have ni:=aa hw;have xw:=aa hgr;have fE:=HV.o.wg hgr mY.o;clear hw hgr;by_cases hlt:j<l.length
 ·obtain⟨bk,o,x,ha,hbk,e0,e1,e2,e3,e4,hx⟩:=fE.fO j hlt;dsimp only at ha;subst ha;have Vr:=Fm hbk ni.o.1.lt;have bU:=yQ V.ek l j hlt;have hm2:=cT List.length bU;rw[bG] at hm2;have hle:=yR V.ek l (j+1);rw[hm2] at hle;have hkl:(V.ek l[j]).length=1+l[j].key.length:=by simp[V.ek];omega
  have hbl:(bs++96::((l.take j).map V.ek).flatten).length=bs.length+1+((l.take j).map V.ek).flatten.length:=by simp;omega
  have HX:=aa hx;have ju:=aa bU;obtain⟨X,hX⟩:∃X,X=bs++96::((l.take j).map V.ek).flatten:=⟨_,rfl⟩;rw[← hX] at ni xw hbl;have OU:=aa hX;have fP:=x.cells;have hzz:(wr.alloc (.cells x.cells 27)).heap.size=wr.heap.size+1:=by simp
  have OV:=aa (aD wr 27 x.cells);have Gi:¬ (wr.heap.size=pb∨Value.ownBlock (.slice A' X.length c')=some wr.heap.size):=fun q=>q.elim (fun e=>by have:=ni.o.1.lt;omega) (fun e=>by have:=ni.o.own e;omega)
  have r_:=aa Gi;have Gj:=aa (ni.o.al (.cells x.cells 27));have OW:=aa (xw.o.alloc (.cells x.cells 27));have gZ:=aa (lN pb A' c' X [1] #[.int .u8 1] 1 (wr.alloc (.cells x.cells 27)) Gj.o rfl rfl (by simp only[aT,bz];omega));rw[hzz] at gZ;clear hx fE bU hm2 hX fP hzz Gi;go_wp2_with fail;refine gZ.o.mono ?_;rintro e w3 ⟨A3,rY,rfl,h1,h2⟩;have fZ:=h2.kept.blk OV.o r_.o;have lO:=fZ.cell;have Vs:=fZ.lt;have aP:=aa (OW.o.trans h2);have OX:(X++[(1:UInt8)]).length=X.length+1:=by simp
  have mG:=aa (HK.o _ (aW hlt) pb A3 rY _ x w3 h1 ((HX.o.below (oH (jZ pb wr) (pI ni.o.1.lt) (.cells x.cells 27)) (ay _) (ay _)).wg h2 Gj.o) (by omega));clear h1 h2 gZ fZ OX;go_wp2_with fail;refine mG.o.mono ?_;rintro e w4 ⟨A4,Gh,rfl,h1,h2⟩;have e0:X++[(1:UInt8)]++l[j].key=bs++96::((l.take (j+1)).map V.ek).flatten:=by rw[OU.o,ju.o];simp[V.ek]
  rw[e0] at h1 h2;have kY:=aa h1;have cj:=aa (aP.o.trans h2);clear h1 h2 mG e0 lO e1 e2 e3 e4 hkl hbl;go_wp2_with fail;go_roundg gk';exact⟨j+1,A4,Gh,by omega,by omega,by go_num,kY.o,cj.o⟩;omega
 obtain rfl:j=l.length:=by omega
 rw[fS] at ni xw;have hbl:(bs++96::(l.map V.ek).flatten).length=bs.length+1+(l.map V.ek).flatten.length:=by simp;omega
 have gZ:=aa (lN pb A' c' _ [0] #[.int .u8 0] 1 wr ni.o rfl rfl (by simp only[aT,bz];omega));clear hg hbl fE;go_wp2_with fail;refine gZ.o.mono ?_;rintro e w3 ⟨A3,rY,rfl,h1,h2⟩;have e0:bs++96::(l.map V.ek).flatten++[0]=bs++96::((l.map V.ek).flatten++[0]):=by simp
 rw[e0] at h1 h2;have kY:=aa h1;have cj:=aa (xw.o.trans h2);clear h1 h2 gZ e0;go_wp2_with fail;go_end0;exact⟨A3,rY,rfl,kY.o,aY.o.trans cj.o⟩
theorem acm(pb:Nat)(A:Option Addr)(c:Nat)(bs:List UInt8)(f:List (ByteArray×V))(aB aL aF:Option Addr)(nB cB cL nL cF:Nat)(w:World)(h:Wr w pb A c bs)(hk:∀x∈f,OT x.2)
 (hv:eN w pb (V.mk 8 0 [] [] f) ⟨8,(0:Nat),aB,nB,cB,aL,nL,cL,aF,f.length,cF⟩) (hl:bs.length+2*(f.map V.eo).flatten.length+2≤140737488350000) (hs:∀x∈f,x.1.size≤32) :
 Calls prog 150 #[.pointer (some ⟨pb,0,none⟩),Cv.agg ⟨8,(0:Nat),aB,nB,cB,aL,nL,cL,aF,f.length,cF⟩] w (mE w pb A bs.length c (bs++112::((f.map V.eo).flatten++[0]))):=by
 have HK:=aa hk;have HS:=aa hs;have hll:=acn f;have hz:(w.alloc (.cells (Cv.cells ⟨8,(0:Nat),aB,nB,cB,aL,nL,cL,aF,f.length,cF⟩) 27)).heap.size=w.heap.size+1:=by simp
 have aY:=aa (WG.qH pb (.slice A bs.length c) ((ah w).alloc (.cells (Cv.cells ⟨8,(0:Nat),aB,nB,cB,aL,nL,cL,aF,f.length,cF⟩) 27)));have bg:=aa (aD w 27 (Cv.cells ⟨8,(0:Nat),aB,nB,cB,aL,nL,cL,aF,f.length,cF⟩));have hne:w.heap.size≠pb:=by have:=h.1.lt;omega
 have hno:Value.ownBlock (.slice A bs.length c)≠some w.heap.size:=fun e=>by have:=h.own e;omega
 have ng:=aa (fun q:w.heap.size=pb∨Value.ownBlock (.slice A bs.length c)=some w.heap.size=>q.elim hne hno);have mY:=aa (h.al (.cells (Cv.cells ⟨8,(0:Nat),aB,nB,cB,aL,nL,cL,aF,f.length,cF⟩) 27));have HV:=aa (hv.below (oH (jZ pb w) (pI h.1.lt) (.cells (Cv.cells ⟨8,(0:Nat),aB,nB,cB,aL,nL,cL,aF,f.length,cF⟩) 27)) (ay _) (ay _));have HC:=aa (lN pb A c bs [112] #[.int .u8 112] 1 (w.alloc (.cells (Cv.cells ⟨8,(0:Nat),aB,nB,cB,aL,nL,cL,aF,f.length,cF⟩) 27)) mY.o rfl rfl (by simp only[aT,bz];omega));rw[hz] at HC;clear h hz hne hno hv hk hs;go_enter func150,ntmps150;go_wp2_with fail;refine HC.o.mono ?_;rintro e w2 ⟨A2,c2,rfl,h1,h2⟩;have d_:=h2.kept.blk bg.o ng.o;have gz:=d_.cell 4;have eO:=d_.lt;have kI:=aa h1
 have HG2:=aa h2;clear h1 h2 HC d_;go_wp2_with fail;go_loopg [5,12] (f.length+1) (fun gk _ i wr=>∃(j:Nat) (A':Option Addr) (c':Nat),j≤f.length∧gk+j=f.length+1∧i=.int .i64 j∧Wr wr pb A' c' (bs++112::((f.take j).map V.eo).flatten) ∧
  WG (w.alloc (.cells (Cv.cells ⟨8,(0:Nat),aB,nB,cB,aL,nL,cL,aF,f.length,cF⟩) 27)) pb (.slice A bs.length c) wr (.slice A' (bs++112::((f.take j).map V.eo).flatten).length c'))
 exact⟨0,A2,c2,ba _,rfl,rfl,kI.o,HG2.o⟩;obtain⟨j,A',c',hj,hg,rfl,hw,hgr⟩:=hrel;obtain⟨gk',rfl⟩:=bS gk (by omega);have ni:=aa hw;have xw:=aa hgr;have fE:=HV.o.wg hgr mY.o;clear hw hgr;by_cases hlt:j<f.length
 ·obtain⟨bk,o,x,ha,hbk,es,hsz,e0_,e1,e2,e3,e4,hx⟩:=fE.iF j hlt;dsimp only at ha;subst ha;have Vr:=Fm hbk ni.o.1.lt;have bU:=yQ V.eo f j hlt;have hm2:=cT List.length bU;rw[bG] at hm2;have hle:=yR V.eo f (j+1);rw[hm2] at hle;have hkl:(V.eo f[j]).length=1+((dC f[j].1.data.toList).length+f[j].2.key.length):=by simp[V.eo];omega
  have hbl:(bs++112::((f.take j).map V.eo).flatten).length=bs.length+1+((f.take j).map V.eo).flatten.length:=by simp;omega
  have aco:=HS.o _ (aW hlt);have HX:=aa hx;have ju:=aa bU;have Gk:=aa (HK.o _ (aW hlt));have OY:=aa (show V.eo f[j]=1::(dC f[j].1.data.toList++f[j].2.key) from rfl);obtain⟨X,hX⟩:∃X,X=bs++112::((f.take j).map V.eo).flatten:=⟨_,rfl⟩;rw[← hX] at ni xw hbl;have OU:=aa hX;obtain⟨s,Vt⟩:∃s,f[j].1=s:=⟨_,rfl⟩;obtain⟨y,hy⟩:∃y,f[j].2=y:=⟨_,rfl⟩;rw[Vt] at es aco hkl OY hsz;rw[hy] at HX Gk OY hkl;have hsl:s.data.toList.length=s.size:=by simp
  have hel:(dC s.data.toList).length≤2*s.size+2:=by have:=(pP s.data.toList).2;unfold dC;rw[bG,← hsl];simpa using this
  have hzz:(wr.alloc (.cells (x.lQ s) 82)).heap.size=wr.heap.size+1:=by simp
  have OV:=aa (aD wr 82 (x.lQ s));have Gi:¬ (wr.heap.size=pb∨Value.ownBlock (.slice A' X.length c')=some wr.heap.size):=fun q=>q.elim (fun e=>by have:=ni.o.1.lt;omega) (fun e=>by have:=ni.o.own e;omega)
  have r_:=aa Gi;have Gj:=aa (ni.o.al (.cells (x.lQ s) 82));have OW:=aa (xw.o.alloc (.cells (x.lQ s) 82));have gZ:=aa (lN pb A' c' X [1] #[.int .u8 1] 1 (wr.alloc (.cells (x.lQ s) 82)) Gj.o rfl rfl (by simp only[aT,bz];omega));rw[hzz] at gZ;clear hx fE bU hm2 hX hzz Gi Vt hy;go_wp2_with fail;refine gZ.o.mono ?_;rintro e w3 ⟨A3,rY,rfl,h1,h2⟩;have fZ:=h2.kept.blk OV.o r_.o;have acp:=fZ.cell 0;have Vs:=fZ.lt;have aV:=aa fZ;have mF:=aa h1;have aP:=aa (OW.o.trans h2);have HV3:=aa ((HX.o.below (oH (jZ pb wr) (pI ni.o.1.lt) (.cells (x.lQ s) 82)) (ay _) (ay _)).wg h2 Gj.o)
  have Vu:¬ (wr.heap.size=pb∨Value.ownBlock (.slice A3 (X++[(1:UInt8)]).length rY)=some wr.heap.size):=fun q=>q.elim (fun e=>r_.o (.inl e)) (h2.ne (by simp) (fun e=>r_.o (.inr e)))
  have HN3:=aa Vu;have OX:(X++[(1:UInt8)]).length=X.length+1:=by simp
  obtain⟨cw,W4,hrun,hcw,jb,hin⟩:=A_ w3 s;have Vv:=aa jb;have kY:=aa (h1.grow jb);have av:=aa (fZ.grow jb);have hap:Reads (OI W4 pb A3 (X++[(1:UInt8)]).length rY) 1 (some ⟨w3.heap.size,0,none⟩) s.data.toList.length (bT s.data.toList):=by
   refine⟨hin.1,fun hn=>?_⟩;obtain⟨bq,oq,eq,hcl⟩:=hin.2 hn;refine⟨bq,oq,eq,fun j u hu=>?_⟩;injection eq with eq;injection eq with eq1 eq2;have:=hcl j u hu;exact⟨this.1,this.2.2,by have:=h1.1.lt;dsimp only;omega,fun e=>by have:=h1.own e;dsimp only at this;omega⟩
  have mG:=aa (OJ pb A3 rY _ s.data.toList (some ⟨w3.heap.size,0,none⟩) cw W4 kY.o hap (by rw[hsl];omega));rw[hsl] at mG;clear h1 h2 gZ fZ jb hin hap Vu;go_wp2_with fail;refine mG.o.mono ?_;rintro e w5 ⟨A5,KL,rfl,h1,h2⟩;have vV:=h2.kept.blk av.o HN3.o;have lO:=vV.cell;have alW:=vV.lt;have bN:=aa ((aP.o.trans (WG.qH pb _ Vv.o)).trans h2);have acq:(X++[(1:UInt8)]++dC s.data.toList).length=X.length+1+(dC s.data.toList).length:=by simp;omega
  have Vw:=aa (Gk.o pb A5 KL _ x w5 h1 ((HV3.o.below (eJ Vv.o.below (pI mF.o.1.lt)) (ay _) (ay _)).wg h2 kY.o) (by omega));clear h1 h2 mG vV acq;go_wp2_with fail;refine Vw.o.mono ?_;rintro e w6 ⟨A6,OP,rfl,h1,h2⟩;have e0:X++[(1:UInt8)]++dC s.data.toList++y.key=bs++112::((f.take (j+1)).map V.eo).flatten:=by rw[OU.o,ju.o,OY.o];simp
  rw[e0] at h1 h2;have OQ:=aa h1;have bp:=aa (bN.o.trans h2);clear h1 h2 Vw e0 lO acp es e0_ e1 e2 e3 e4 hkl hbl hel OX hrun;go_wp2_with fail;go_roundg gk';exact⟨j+1,A6,OP,by omega,by omega,by go_num,OQ.o,bp.o⟩;omega
 obtain rfl:j=f.length:=by omega
 rw[fS] at ni xw;have hbl:(bs++112::(f.map V.eo).flatten).length=bs.length+1+(f.map V.eo).flatten.length:=by simp;omega
 have gZ:=aa (lN pb A' c' _ [0] #[.int .u8 0] 1 wr ni.o rfl rfl (by simp only[aT,bz];omega));clear hg hbl fE;go_wp2_with fail;refine gZ.o.mono ?_;rintro e w3 ⟨A3,rY,rfl,h1,h2⟩;have e0:bs++112::(f.map V.eo).flatten++[0]=bs++112::((f.map V.eo).flatten++[0]):=by simp
 rw[e0] at h1 h2;have kY:=aa h1;have cj:=aa (xw.o.trans h2);clear h1 h2 gZ e0;go_wp2_with fail;go_end0;exact⟨A3,rY,rfl,kY.o,aY.o.trans cj.o⟩
end
abbrev acr:=@WG.qH
section
open Go.RowKit
noncomputable def fQ(v lo hi:V):Bool:=(decide (lo.k=0)||decide (0≤(vW v lo).1))&&(decide (hi.k=0)||decide ((vW v hi).1≤0))
theorem In.k_{w:World}{v:V}{c:Cv}(h:In w v c):c.k=v.k:=by
 obtain⟨k,n,b,l,f⟩:=v;obtain⟨aB,aL,aF,cB,cL,cF,rfl,_⟩:=In.open h;rfl
theorem acs(v lo hi:V)(c cl ch:Cv)(w:World)(h1:v.zb)(h2:lo.zb)(h3:hi.zb)(hT:eP w)(hv:In w v c)(hl:In w lo cl)(hh:In w hi ch) :
 Calls prog 128 #[c.agg,cl.agg,ch.agg] w fun e w'=>e=.returned (.bool (fQ v lo hi))∧Grow w w':=by
 have aM:=aa ((((ah w).alloc (.cells c.cells 27)).alloc (.cells cl.cells 27)).alloc (.cells ch.cells 27));have OZ:=aa (((aD w 27 c.cells).alloc (.cells cl.cells 27)).alloc (.cells ch.cells 27));have bg:=aa ((cX (w:=w.alloc (.cells c.cells 27)) (g:=w.heap.size+1) (by simp) 27 cl.cells).alloc (.cells ch.cells 27));have Ba:=aa (cX (w:=(w.alloc (.cells c.cells 27)).alloc (.cells cl.cells 27)) (g:=w.heap.size+1+1) (by simp) 27 ch.cells);have hA:=OZ.o.cell;have hB:=bg.o.cell;have hC:=Ba.o.cell;have ue:=aa (In.k_ hl);have Dm:=aa (In.k_ hh);have HL:=aa (fun w2 (hg:Grow w w2)=>KM v lo c cl w2 h1 h2 (hT.grow hg) (hv.grow hg) (hl.grow hg));have HH:=aa (fun w2 (hg:Grow w w2)=>KM v hi c ch w2 h1 h3 (hT.grow hg) (hv.grow hg) (hh.grow hg))
 obtain⟨⟨x,xe⟩,hx⟩:∃r,vW v lo=r:=⟨_,rfl⟩;obtain⟨⟨y,ye⟩,hy⟩:∃r,vW v hi=r:=⟨_,rfl⟩;rw[hx] at HL;rw[hy] at HH;have HW:=aa (show fQ v lo hi=((decide (cl.k=0)||decide (0≤x))&&(decide (ch.k=0)||decide (y≤0))) by unfold fQ;rw[hx,hy,ue.o,Dm.o]);obtain⟨R,hR⟩:∃R,fQ v lo hi=R:=⟨_,rfl⟩;rw[hR] at HW ⊢;clear h1 h2 h3 hT hv hl hh hx hy hR;have second:∀(W:World),Grow w W→True:=fun _ _=>trivial
 clear second;by_cases k1:cl.k=0
 ·have hk1:(cl.k==0)=true:=by rw[k1];rfl
  have K1:=aa k1;clear k1;by_cases k2:ch.k=0
  ·have hk2:(ch.k==0)=true:=by rw[k2];rfl
   have K2:=aa k2;clear k2;go_enter func128,ntmps128;go_wp2_with fail;go_ret;exact⟨by rw[HW.o];simp[K1.o,K2.o],aM.o⟩
  have hk2:(ch.k==0)=false:=by simpa using k2
  have K2:=aa k2;clear k2;go_enter func128,ntmps128;go_wp2_with fail;refine(HH.o _ aM.o).mono ?_;rintro e w1 ⟨rfl,hg⟩;have aO:=aa (aM.o.trans hg);clear hg;by_cases hy0:0<y
  ·go_wp2_with fail;go_ret;exact⟨by rw[HW.o];simp[K1.o,K2.o];omega,aO.o⟩
  go_wp2_with fail;go_ret;exact⟨by rw[HW.o];simp[K1.o,K2.o];omega,aO.o⟩
 have hk1:(cl.k==0)=false:=by simpa using k1
 have K1:=aa k1;clear k1;go_enter func128,ntmps128;go_wp2_with fail;refine(HL.o _ aM.o).mono ?_;rintro e w1 ⟨rfl,hg⟩;have aO:=aa (aM.o.trans hg);have KN:=(OZ.o.grow hg).cell;have Vx:=(Ba.o.grow hg).cell;have hlA:=(OZ.o.grow hg).lt;have hlC:=(Ba.o.grow hg).lt;clear hg hA hB hC;by_cases hx0:x<0
 ·go_wp2_with fail;go_ret;exact⟨by rw[HW.o];simp[K1.o];intro h;omega,aO.o⟩
 by_cases k2:ch.k=0
 ·have hk2:(ch.k==0)=true:=by rw[k2];rfl
  have K2:=aa k2;clear k2;go_wp2_with fail;go_ret;exact⟨by rw[HW.o];simp[K1.o,K2.o];omega,aO.o⟩
 have hk2:(ch.k==0)=false:=by simpa using k2
 have K2:=aa k2;clear k2;go_wp2_with fail;refine(HH.o _ aO.o).mono ?_;rintro e w2 ⟨rfl,hg⟩;have HG2:=aa (aO.o.trans hg);clear hg;by_cases hy0:0<y
 ·go_wp2_with fail;go_ret;exact⟨by rw[HW.o];simp[K1.o,K2.o];omega,HG2.o⟩
 go_wp2_with fail;go_ret;exact⟨by rw[HW.o];simp[K1.o,K2.o];omega,HG2.o⟩
end
section
open Go.RowKit Go.ChangeShapes Go.Shelf Go.Deep
theorem Vy:prog.cellsOf 5=1:=by kernel_rfl
theorem acu:prog.bytesOf 5=1:=by kernel_rfl
section
variable {H:Type} {enc:TypeId×Value→H} {W:World} {sp:Nat→Bool} {held:Bool}
theorem Gl(a:Addr):a.add 0=a:=by unfold Addr.add;simp
theorem O0{a:Addr}{u:Value}(h:W.cell? a=some u):a=⟨a.block,a.off,none⟩:=by
 obtain⟨bk,o,s⟩:=a
 cases s with
 | none=>rfl
 | some s =>
  exfalso;unfold World.cell? at h;simp only at h;split at h
  ·simp at h
  cases h
theorem acv{fuel:Nat}{c:Value}{x:DataW H×List MemPlace}(h:DataW.trod enc prog W 0 sp held fuel 23 [c]=some x)(hw:∀n∈x.1.weights prog 23,n≤reachBytes) :
 ∃A b cap,c=.slice A b.length cap∧b.length≤cap∧b.length≤140737488355328∧bA W A b:=by
 rcases open_slice1 eH Vy h with ⟨hc,hx⟩ | ⟨a,len,cap,m,n,V,D,Pl,hc,hb,hl,hm,hmm,hx,hall⟩
 ·injection hc with hc;subst hc;exact⟨none,[],0,rfl,by simp,by simp,⟨by simp[bT],fun h=>by simp at h⟩⟩
 injection hc with hc;have Vz:len≤m:=by rw[hmm];split<;>omega
 have hV:∀i,i<len→∃y:UInt8,V i=.int .u8 (y.toNat:Int):=fun i hi=>by
  obtain⟨h1,h2⟩:=hall i (by omega);obtain⟨n',hn,hx',hwf⟩:=FN Da h2;injection hn with hn;have hr:0≤n'∧n'<256:=by
   have h3:(decide (IntKind.u8.min≤n')&&decide (n'≤IntKind.u8.max))=true:=hwf;rw[il,iC,iC] at h3;have e1:IntKind.u8.min=0:=rfl;have e2:IntKind.u8.max=255:=rfl;rw[e1,e2] at h3;omega
  refine⟨UInt8.ofNat n'.toNat,?_⟩;rw[hn,Au];congr 1;omega
 let y:Nat→UInt8:=fun i=>if h:i<len then Classical.choose (hV i h) else 0
 have hy:∀i,i<len→V i=.int .u8 ((y i).toNat:Int):=fun i hi=>by
  show V i=.int .u8 ((if h:i<len then Classical.choose (hV i h) else 0:UInt8).toNat:Int);rw[dif_pos hi];exact xd (hV i hi)
 have hlb:((List.range len).map y).length=len:=by simp
 have hwt:len≤reachBytes:=by
  have:=hw ((len+(m-len))*1) (by rw[hx];simp[DataW.weights,acu]);omega
 have Bb:=reachBytes_lt;refine⟨some a,(List.range len).map y,cap,by rw[hlb];exact hc,by rw[hlb];exact hl,by rw[hlb];simp only[Nat.reducePow] at Bb;omega,⟨by rw[FP,rM],fun hn=>?_⟩⟩;rw[hlb] at hn;have h0:=(hall 0 (by omega)).1;rw[Gl] at h0;have ha:=O0 h0;refine⟨a.block,a.off,by rw[← ha],fun j u hu=>?_⟩;have hj:j<len:=by
  have:=(kC.1 hu).1;rwa [FP,hlb] at this
 have hcell:=(hall j (by omega)).1;rw[ha,add_lit] at hcell;rw[xf _ j (by rw[hlb];exact hj)] at hu;injection hu with hu;subst hu;refine⟨?_,ba _,(show a.block<W.heap.size from N9 W _ h0)⟩;rw[hcell,hy j hj];simp
end
theorem acw{W:World}{l:List (String×DataW Unit)}(h:laidMet prog l W)(h1:("unicode/utf8.first", Lib.firstData)∈l)(h2:("unicode/utf8.acceptRanges", Lib.acceptData)∈l):eP W:=
 utf8Tabs_of_readsT (U8Types.of196 VA) ⟨by kernel_rfl,by kernel_rfl,by kernel_rfl,by kernel_rfl,by kernel_rfl,by kernel_rfl,by kernel_rfl⟩ (Lib.laidMet.reads h h1) (Lib.laidMet.reads h h2)
theorem acx:(Rows.laid_unicode_utf8_first:DataW Unit)=Lib.firstData:=by kernel_rfl
theorem acy:(Rows.laid_unicode_utf8_acceptRanges:DataW Unit)=Lib.acceptData:=by kernel_rfl
noncomputable def KO(os:Os):World:=
 let w0:=World.holding prog os ⟨#[],#[],[]⟩
 let put (h:Array Obj) (g:Nat) (cs:Array Value):Array Obj:=h.modify g fun
  | .cells _ t frozen=>.cells cs t frozen
  | o=>o
 let h1:=put w0.heap 0 (Lib.firstTab.map fun z=>Value.int .u8 z).toArray
 let h2:=put h1 1 ((List.range 16).flatMap fun i=>[Value.int .u8 (Lib.accLo i),Value.int .u8 (Lib.accHi i)]).toArray
 { w0 with heap:=h2 }
theorem acz(os:Os)(args:Array Value):laidMet prog [("unicode/utf8.acceptRanges", Lib.acceptData), ("unicode/utf8.first", Lib.firstData)] ((KO os).forCall (fun _ _=>0) ⟨#[], args, []⟩).memory:=
 (LaidIn.of_run (l:=[("unicode/utf8.acceptRanges", Lib.acceptData), ("unicode/utf8.first", Lib.firstData)]) [1, 0] 8 (by kernel_rfl) (by kernel_rfl) (by kernel_rfl) (by kernel_rfl)).met
end
section
open Go.RowKit Go.ChangeShapes Go.Shelf Go.Deep
theorem O1:∃fs:Array Field,prog.underlying 27=some (.struct fs)∧fs.map (fun f=>(f.type,f.offset))=#[(3,0),(22,1),(23,2),(24,3),(25,4)]:=⟨_,underlying27,by kernel_rfl⟩
theorem VB:∃fs:Array Field,prog.underlying 82=some (.struct fs)∧fs.map (fun f=>(f.type,f.offset))=#[(9,0),(27,1)]:=⟨_,underlying82,by kernel_rfl⟩
theorem Dn:prog.underlying 3=some (.int .i64):=by kernel_rfl
theorem acA:prog.underlying 22=some (.int .u64):=by kernel_rfl
theorem O3:prog.cellsOf 3=1:=by kernel_rfl
theorem acB:prog.cellsOf 22=1:=by kernel_rfl
theorem VC:prog.cellsOf 23=1:=by kernel_rfl
theorem VF:prog.cellsOf 24=1:=by kernel_rfl
theorem VG:prog.cellsOf 25=1:=by kernel_rfl
theorem qI:prog.cellsOf 27=5:=by kernel_rfl
theorem VH:prog.cellsOf 82=6:=by kernel_rfl
theorem Gm:prog.cellsOf 9=1:=by kernel_rfl
theorem acC:prog.bytesOf 27=88:=by kernel_rfl
theorem acD:prog.bytesOf 82=104:=by kernel_rfl
theorem Gn{k:IntKind}{n:Int}(h:(Lit.int k n).wf=true):k.min≤n∧n≤k.max:=by
 have h3:(decide (k.min≤n)&&decide (n≤k.max))=true:=h;rw[il,iC,iC] at h3;exact h3
theorem VI{H:Type}{P:Program}{e:TypeId}:∀{l:List (DataW H)} {d:DataW H},d∈l→∀n∈d.weights P e,n∈DataW.weightsAll P e l
 | x::r,d,h,n,hn=>by
  simp only[DataW.weightsAll,tI];rcases je.1 h with e | e
  ·subst e;exact .inl hn
  exact .inr (VI e n hn)
section
variable {H:Type} {enc:TypeId×Value→H} {W:World} {sp:Nat→Bool} {held:Bool}
theorem open_row{t e:TypeId}{z iG:Nat}(ht:prog.underlying t=some (.slice e))(hz:prog.cellsOf e=z)(hz0:0<z)(hby:prog.bytesOf e=iG)(acE:0<iG){fuel:Nat}{c:Value}{x:DataW H×List MemPlace}(h:DataW.trod enc prog W 0 sp held fuel t [c]=some x)(hw:∀n∈x.1.weights prog t,n≤reachBytes) :
 ∃(A:Option Addr) (len cap:Nat) (D:Nat→DataW H),c=.slice A len cap∧len≤cap∧len≤140737488355328∧((len=0)∨∃bk o,A=some ⟨bk,o,none⟩∧bk<W.heap.size) ∧
  ∀i,i<len→SizeOf.sizeOf (D i)<SizeOf.sizeOf x.1∧(∀n∈(D i).weights prog e,n≤reachBytes)∧∃(bk o fuel':Nat) (q:List MemPlace) (cs:List Value),A=some ⟨bk,o,none⟩∧cs.length=z∧(∀j u,cs[j]?=some u→bK W 0 W.heap.size ⟨bk,o+i*z+j,none⟩ u)∧DataW.trod enc prog W 0 sp held fuel' e cs=some (D i,q):=by
 rcases open_slice ht h with ⟨hc,hx⟩ | ⟨a,len,cap,m,n,D,Pl,hc,hb,hl,hm,hmm,hx,hall⟩
 ·injection hc with hc;subst hc;exact⟨none,0,0,fun _=>x.1,rfl,by simp,by simp,.inl rfl,fun i hi=>absurd hi (by simp)⟩
 injection hc with hc;have Vz:len≤m:=by rw[hmm];split<;>omega
 rw[hz] at hall;have Dp:x.1=.slice ((List.range len).map D) ((List.range (m-len)).map fun j=>D (len+j)):=by rw[hx]
 have hwt:len≤reachBytes:=by
  have:=hw ((len+(m-len))*iG) (by rw[Dp];simp[DataW.weights,ht,hby]);have h2:len*1≤(len+(m-len))*iG:=Nat.mul_le_mul (by omega) acE;omega
 have Bb:=reachBytes_lt;simp only[Nat.reducePow] at Bb;have hcell:∀i,i<len→∃cs,cs.length=z∧(∀j u,cs[j]?=some u→W.cell? ((a.add (i*z)).add j)=some u)∧DataW.trod enc prog W 0 sp held n e cs=some (D i,Pl i):=fun i hi=>by
  obtain⟨cs,h1,h2⟩:=hall i (by omega);obtain⟨_,hlen,hcs⟩:=World.cells?_some h1;refine⟨cs,hlen,fun j u hu=>?_,h2⟩;have hj:j<z:=by rw[← hlen];exact(kC.1 hu).1
  rw[hcs j hj,hu]
 have Gp:0<len→a=⟨a.block,a.off,none⟩∧a.block<W.heap.size:=fun hn=>by
  obtain⟨cs,hlen,hcs,_⟩:=hcell 0 hn;have h0:=hcs 0 (cs[0]'(by omega)) (cJ (by omega));rw[Gl,Nat.zero_mul,Gl] at h0;exact⟨O0 h0,N9 W _ h0⟩
 refine⟨some a,len,cap,D,hc,hl,by omega,?_,fun i hi=>⟨?_,?_,?_⟩⟩
 ·rcases Aq len with h0 | h0
  ·exact .inl h0
  exact .inr ⟨a.block,a.off,by rw[← (Gp h0).1],(Gp h0).2⟩
 ·rw[Dp];have hmem:D i∈(List.range len).map D:=j3.2 ⟨i,Kp.2 hi,rfl⟩;have:=vC hmem;simp only[DataW.slice.sizeOf_spec];omega
 ·intro k hk;refine hw k ?_;rw[Dp];simp only[DataW.weights,ht,je,tI];exact .inr (.inl (VI (j3.2 ⟨i,Kp.2 hi,rfl⟩) k hk))
 obtain⟨cs,hlen,hcs,htr⟩:=hcell i hi;have ha:=Gp (by omega);refine⟨a.block,a.off,n,Pl i,cs,by rw[← ha.1],hlen,fun j u hu=>⟨?_,ba _,ha.2⟩,htr⟩;have:=hcs j u hu;rw[ha.1,add_lit,add_lit] at this;exact this
theorem ze{fs:Array Field}{l:Array (TypeId×Nat)}(h:fs.map (fun f=>(f.type,f.offset))=l){i:Nat}{t:TypeId}{o:Nat}(hi:l[i]?=some (t,o)):∃f,fs[i]?=some f∧f.type=t∧f.offset=o:=by
 subst h;rw[Array.getElem?_map] at hi
 cases hf:fs[i]? with
 | none=>rw[hf] at hi;cases hi
 | some f =>
  rw[hf] at hi;simp only[Kw,Option.some.injEq,Prod.mk.injEq] at hi;exact⟨f,rfl,hi.1,hi.2⟩
theorem Gq(n:Nat):∀(d:DataW H),SizeOf.sizeOf d≤n→∀(fuel:Nat) (cs:List Value) (q:List MemPlace),DataW.trod enc prog W 0 sp held fuel 27 cs=some (d,q)→(∀k∈d.weights prog 27,k≤reachBytes) →
 ∃(v:V) (c:Cv),cs=c.cells.toList∧In W v c:=by
 induction n with
 | zero =>
  intro d hd;have:0<SizeOf.sizeOf d:=by cases d<;>simp;all_goals omega
  omega
 | succ n ih =>
  intro d hd fuel cs q h hw;obtain⟨fs,hu,nV⟩:=O1;obtain⟨xs,m,O4,hx,hlen,hxl,hall⟩:=C4 hu h;injection hx with hx1 hx2;subst hx1;rw[qI] at hlen;have hfl:fs.size=5:=by have:=cT Array.size nV;simpa using this
  rw[hfl] at hxl;obtain⟨c0,c1,c2,c3,c4,rfl⟩:∃a b c d e,cs=[a,b,c,d,e]:=by
   match cs,hlen with
   | [a,b,c,d,e],_=>exact⟨a,b,c,d,e,rfl⟩
  obtain⟨x0,x1,x2,x3,x4,rfl⟩:∃a b c d e,xs=[a,b,c,d,e]:=by
   match xs,hxl with
   | [a,b,c,d,e],_=>exact⟨a,b,c,d,e,rfl⟩
  have jh:∀i t o,(#[(3,0),(22,1),(23,2),(24,3),(25,4)]:Array (TypeId×Nat))[i]?=some (t,o) →
   DataW.trod enc prog W 0 sp held m t (([c0,c1,c2,c3,c4].drop o).take (prog.cellsOf t))=[x0,x1,x2,x3,x4][i]?:=fun i t o hi=>by
   obtain⟨f,hf,rfl,rfl⟩:=ze nV hi;exact hall i f hf
  have h0:=jh 0 _ _ rfl;have h1:=jh 1 _ _ rfl;have h2:=jh 2 _ _ rfl;have h3:=jh 3 _ _ rfl;have h4:=jh 4 _ _ rfl;rw[O3] at h0;rw[acB] at h1;rw[VC] at h2;rw[VF] at h3;rw[VG] at h4;have O5:fs.toList.map (·.type)=[3,22,23,24,25]:=by
   have:=cT (fun a=>a.toList.map Prod.fst) nV;simp only[Array.toList_map,lG] at this;exact this
  have uf:∀(j:Nat) (t:TypeId) (dd:DataW H),[3,22,23,24,25][j]?=some t→([x0,x1,x2,x3,x4].map (·.1))[j]?=some dd→∀k∈dd.weights prog t,k≤reachBytes:=fun j t dd hj hdd k hk=>by
   refine hw k ?_;simp only[DataW.weights,hu,O5];exact DataW.weights_mem_each hj hdd k hk
  obtain⟨k,e0,_,hk⟩:=FN Dn h0;obtain⟨nn,e1,_,hnn⟩:=FN acA h1;simp at e0 e1;subst e0 e1;have hk':=Gn hk;have hn':=Gn hnn;have i1:IntKind.i64.min=-9223372036854775808:=rfl;have i2:IntKind.i64.max=9223372036854775807:=rfl;have i3:IntKind.u64.min=0:=rfl;have i4:IntKind.u64.max=18446744073709551615:=rfl;rw[i1,i2] at hk';rw[i3,i4] at hn';obtain⟨AB,b,cB,rfl,hbc,hbl,acF⟩:=acv h2 (uf 2 _ _ rfl rfl);obtain⟨AL,nl,cL,DL,rfl,hlc,hll,Dq,hL⟩:=open_row jv qI (by omega) acC (by omega) h3 (uf 3 _ _ rfl rfl);obtain⟨AF,nf,cF,DF,rfl,hfc,O6,hfa,hF⟩:=open_row Bc VH (by omega) acD (by omega) h4 (uf 4 _ _ rfl rfl);have acG:SizeOf.sizeOf x3.1<n+1:=by
   have:SizeOf.sizeOf x3.1<SizeOf.sizeOf (DataW.agg ([x0,x1,x2,x3,x4].map (·.1))):=by
    have:=vC (show x3.1∈[x0,x1,x2,x3,x4].map (·.1) by simp);simp only[C5];omega
   omega
  have O7:SizeOf.sizeOf x4.1<n+1:=by
   have:SizeOf.sizeOf x4.1<SizeOf.sizeOf (DataW.agg ([x0,x1,x2,x3,x4].map (·.1))):=by
    have:=vC (show x4.1∈[x0,x1,x2,x3,x4].map (·.1) by simp);simp only[C5];omega
   omega
  have O8:∀i,i<nl→∃(v:V),∃bk o c,AL=some ⟨bk,o,none⟩∧kE (bK W 0 W.heap.size) bk (o+i*5) c∧In W v c:=fun i hi=>by
   obtain⟨s1,s2,bk,o,fuel',q',cs',ha,hlen',hcs',htr⟩:=hL i hi;obtain⟨v,c,rfl,hin⟩:=ih (DL i) (by omega) fuel' cs' q' htr s2;exact⟨v,bk,o,c,ha,⟨hcs' 0 _ rfl,hcs' 1 _ rfl,hcs' 2 _ rfl,hcs' 3 _ rfl,hcs' 4 _ rfl⟩,hin⟩
  have KP:∀i,i<nf→∃(sv:ByteArray×V),∃bk o c,AF=some ⟨bk,o,none⟩∧bK W 0 W.heap.size ⟨bk,o+i*6,none⟩ (.string sv.1)∧sv.1.size≤140737488355328∧kE (bK W 0 W.heap.size) bk (o+i*6+1) c∧In W sv.2 c:=fun i hi=>by
   obtain⟨s1,s2,bk,o,fuel',q',cs',ha,hlen',hcs',htr⟩:=hF i hi;obtain⟨gs,gu,zf⟩:=VB;obtain⟨ys,m',_,hy,O9,Bd,Gr⟩:=C4 gu htr;injection hy with hy1 hy2;have hgl:gs.size=2:=by have:=cT Array.size zf;simpa using this
   rw[hgl] at Bd;obtain⟨y0,y1,rfl⟩:∃a b,ys=[a,b]:=by
    match ys,Bd with
    | [a,b],_=>exact⟨a,b,rfl⟩
   obtain⟨d0,d1,d2,d3,d4,d5,rfl⟩:∃a b c d e f,cs'=[a,b,c,d,e,f]:=by
    match cs',hlen' with
    | [a,b,c,d,e,f],_=>exact⟨a,b,c,d,e,f,rfl⟩
   obtain⟨f0,pM,t0,o0⟩:=ze zf (i:=0) rfl;obtain⟨f1,O_,t1,o1⟩:=ze zf (i:=1) rfl;have g0:=Gr 0 f0 pM;have g1:=Gr 1 f1 O_;rw[t0,o0,Gm] at g0;rw[t1,o1,qI] at g1;have acH:gs.toList.map (·.type)=[9,27]:=by
    have:=cT (fun a=>a.toList.map Prod.fst) zf;simp only[Array.toList_map,lG] at this;exact this
   have gw:∀(j:Nat) (t:TypeId) (dd:DataW H),[9,27][j]?=some t→([y0,y1].map (·.1))[j]?=some dd→∀k∈dd.weights prog t,k≤reachBytes:=fun j t dd hj hdd k hk=>by
    refine s2 k ?_;rw[hy1];simp only[DataW.weights,gu,acH];exact DataW.weights_mem_each hj hdd k hk
   obtain⟨s,es,hys,_⟩:=FO qz g0;simp at es;subst es;have hsl:s.size≤reachBytes:=by
    have:=gw 0 _ _ rfl rfl s.data.toList.length (by rw[hys];simp[DataW.weights]);simpa using this
   have Bb:=reachBytes_lt;simp only[Nat.reducePow] at Bb;have hsy:SizeOf.sizeOf y1.1<SizeOf.sizeOf (DF i):=by
    rw[hy1];have:=vC (show y1.1∈[y0,y1].map (·.1) by simp);simp only[C5];omega
   obtain⟨v,c,hc,hin⟩:=ih y1.1 (by omega) m' [d1,d2,d3,d4,d5] y1.2 g1 (gw 1 _ _ rfl rfl);injection hc with e1 hc;injection hc with e2 hc;injection hc with e3 hc;injection hc with e4 hc;injection hc with e5 _;subst e1 e2 e3 e4 e5;exact⟨(s,v),bk,o,c,ha,hcs' 0 _ rfl,by show s.size≤_;omega,⟨hcs' 1 _ rfl,hcs' 2 _ rfl,hcs' 3 _ rfl,hcs' 4 _ rfl,hcs' 5 _ rfl⟩,hin⟩
  let vl:Nat→V:=fun i=>if h:i<nl then Classical.choose (O8 i h) else V.zero
  have hvl:∀i (h:i<nl),∃bk o c,AL=some ⟨bk,o,none⟩∧kE (bK W 0 W.heap.size) bk (o+i*5) c∧In W (vl i) c:=fun i h=>by
   show ∃bk o c,_∧_∧In W (if h:i<nl then Classical.choose (O8 i h) else V.zero) c;rw[dif_pos h];exact xd (O8 i h)
  let vf:Nat→ByteArray×V:=fun i=>if h:i<nf then Classical.choose (KP i h) else (⟨#[]⟩,V.zero)
  have hvf:∀i (h:i<nf),∃bk o c,AF=some ⟨bk,o,none⟩∧bK W 0 W.heap.size ⟨bk,o+i*6,none⟩ (.string (vf i).1)∧(vf i).1.size≤140737488355328∧kE (bK W 0 W.heap.size) bk (o+i*6+1) c∧In W (vf i).2 c:=fun i h=>by
   have e:vf i=Classical.choose (KP i h):=by
    show (if h:i<nf then Classical.choose (KP i h) else (⟨#[]⟩,V.zero))=_;rw[dif_pos h]
   rw[e];exact xd (KP i h)
  have KQ:((List.range nl).map vl).length=nl:=by simp
  have KR:((List.range nf).map vf).length=nf:=by simp
  refine⟨.mk k nn.toNat b ((List.range nl).map vl) ((List.range nf).map vf),⟨k,nn,AB,b.length,cB,AL,nl,cL,AF,nf,cF⟩,rfl,?_⟩;unfold In;rw[IsV];refine⟨rfl,by show nn=(nn.toNat:Int);omega,rfl,KQ.symm,KR.symm,hk'.1,hk'.2,by omega,hbc,hbl,by rw[KQ];exact hlc,by rw[KQ];exact hll,by rw[KR];exact hfc,by rw[KR];exact O6,acF,fun i hi=>?_,fun i hi=>?_⟩
  ·rw[iZ,List.getElem_range];obtain⟨bk,o,c,e,h5,hin⟩:=hvl i (by rw[KQ] at hi;exact hi);exact⟨bk,o,c,e,h5,hin⟩
  rw[iZ,List.getElem_range];obtain⟨bk,o,c,e,hs,hz,h5,hin⟩:=hvf i (by rw[KR] at hi;exact hi);exact⟨bk,o,c,e,hs,hz,h5,hin⟩
end
end
section
open Go.RowKit Go.ChangeShapes Go.ChangeAt Go.Shelf Go.WideShapes
theorem acI:ownKnob prog.godebug=none:=by kernel_rfl
theorem KS:laidOutB prog=true:=by kernel_rfl
def Gs:List (String×DataW Unit):=[("unicode/utf8.acceptRanges", Rows.laid_unicode_utf8_acceptRanges), ("unicode/utf8.first", Rows.laid_unicode_utf8_first)]
theorem VJ:Gs=[("unicode/utf8.acceptRanges", Lib.acceptData), ("unicode/utf8.first", Lib.firstData)]:=by
 unfold Gs;rw[acx,acy]
theorem acJ(os:Os)(args:Array Value):laidMet prog Gs ((KO os).forCall (fun _ _=>0) ⟨#[],args,[]⟩).memory:=by
 rw[VJ];exact acz os args
theorem acK{W:World}(h:laidMetH prog Gs W):eP W:=by
 have h2:laidMet prog Gs W:=h;rw[VJ] at h2;exact acw h2 (.tail _ (.head _)) (.head _)
end
section
open Go.RowKit Go.ChangeShapes Go.Shelf Go.Deep Go.WideShapes
theorem acL:prog.underlying 4=some .bool:=by kernel_rfl
theorem acM:prog.cellsOf 4=1:=by kernel_rfl
theorem Pb:prog.underlying 36=some (.slice 33):=by kernel_rfl
theorem acN:prog.bytesOf 33=424:=by kernel_rfl
theorem acO{α:Type}{n:Nat}{p:Nat→α→Prop}(h:∀i,i<n→∃x,p i x):∃l:List α,l.length=n∧∀i (hi:i<l.length),p i l[i]:=by
 induction n with
 | zero=>exact⟨[],rfl,fun i hi=>absurd hi (by simp)⟩
 | succ n ih =>
  obtain⟨l,hl,hp⟩:=ih (fun i hi=>h i (by omega));obtain⟨x,hx⟩:=h n (by omega);refine⟨l++[x],by simp[hl],fun i hi=>?_⟩;by_cases hlt:i<l.length
  ·rw[Kg hlt];exact hp i hlt
  have hin:i=n:=by simp at hi;omega
  subst hin;have:(l++[x])[i]=x:=by rw[List.getElem_append_right (by omega)];simp[hl]
  rw[this];exact hx
section
variable {H:Type} {enc:TypeId×Value→H} {W:World} {sp:Nat→Bool} {held:Bool}
theorem VK:∃fs:Array Field,prog.underlying 33=some (.struct fs)∧fs.map (fun f=>(f.type,f.offset))=#[(3,0),(9,1),(9,2),(9,3),(4,4),(27,5),(27,10),(27,15),(27,20),(3,25)]:=⟨_,underlying33,by kernel_rfl⟩
theorem Pc:prog.cellsOf 33=26:=by kernel_rfl
theorem acP(d:DataW H)(fuel:Nat)(cs:List Value)(q:List MemPlace)(h:DataW.trod enc prog W 0 sp held fuel 33 cs=some (d,q))(hw:∀k∈d.weights prog 33,k≤reachBytes) :
 ∃(r:Rq) (ck cl ch cx:Cv),cs=(dm r.bj r.aA r.index r.path r.unique ck cl ch cx r.n).toList∧In W r.key ck∧In W r.low cl∧In W r.high ch∧In W r.doc cx∧(-9223372036854775808≤r.bj∧r.bj≤9223372036854775807)∧(-9223372036854775808≤r.n∧r.n≤9223372036854775807)∧r.aA.size≤140737488355328∧r.index.size≤140737488355328∧r.path.size≤140737488355328:=by
 obtain⟨fs,hu,nV⟩:=VK;obtain⟨xs,m,O4,hx,hlen,hxl,hall⟩:=C4 hu h;injection hx with hx1 hx2;subst hx1;rw[Pc] at hlen;have hfl:fs.size=10:=by have:=cT Array.size nV;simpa using this
 rw[hfl] at hxl;obtain⟨c0,c1,c2,c3,c4,c5,c6,c7,c8,c9,c10,c11,c12,c13,c14,c15,c16,c17,c18,c19,c20,c21,Gt,Gu,Gv,Gw,rfl⟩:∃c0 c1 c2 c3 c4 c5 c6 c7 c8 c9 c10 c11 c12 c13 c14 c15 c16 c17 c18 c19 c20 c21 Gt Gu Gv Gw,cs=[c0,c1,c2,c3,c4,c5,c6,c7,c8,c9,c10,c11,c12,c13,c14,c15,c16,c17,c18,c19,c20,c21,Gt,Gu,Gv,Gw]:=by
  match cs,hlen with
  | [c0,c1,c2,c3,c4,c5,c6,c7,c8,c9,c10,c11,c12,c13,c14,c15,c16,c17,c18,c19,c20,c21,Gt,Gu,Gv,Gw],_=>exact⟨c0,c1,c2,c3,c4,c5,c6,c7,c8,c9,c10,c11,c12,c13,c14,c15,c16,c17,c18,c19,c20,c21,Gt,Gu,Gv,Gw,rfl⟩
 obtain⟨x0,x1,x2,x3,x4,x5,x6,x7,x8,x9,rfl⟩:∃x0 x1 x2 x3 x4 x5 x6 x7 x8 x9,xs=[x0,x1,x2,x3,x4,x5,x6,x7,x8,x9]:=by
  match xs,hxl with
  | [x0,x1,x2,x3,x4,x5,x6,x7,x8,x9],_=>exact⟨x0,x1,x2,x3,x4,x5,x6,x7,x8,x9,rfl⟩
 have jh:∀i t o,(#[(3,0),(9,1),(9,2),(9,3),(4,4),(27,5),(27,10),(27,15),(27,20),(3,25)]:Array (TypeId×Nat))[i]?=some (t,o) →
  DataW.trod enc prog W 0 sp held m t (([c0,c1,c2,c3,c4,c5,c6,c7,c8,c9,c10,c11,c12,c13,c14,c15,c16,c17,c18,c19,c20,c21,Gt,Gu,Gv,Gw].drop o).take (prog.cellsOf t))=[x0,x1,x2,x3,x4,x5,x6,x7,x8,x9][i]?:=fun i t o hi=>by
  obtain⟨f,hf,rfl,rfl⟩:=ze nV hi;exact hall i f hf
 have O5:fs.toList.map (·.type)=[3,9,9,9,4,27,27,27,27,3]:=by
  have:=cT (fun a=>a.toList.map Prod.fst) nV;simp only[Array.toList_map,lG] at this;exact this
 have uf:∀(j:Nat) (t:TypeId) (dd:DataW H),[3,9,9,9,4,27,27,27,27,3][j]?=some t→([x0,x1,x2,x3,x4,x5,x6,x7,x8,x9].map (·.1))[j]?=some dd→∀k∈dd.weights prog t,k≤reachBytes:=fun j t dd hj hdd k hk=>by
  refine hw k ?_;simp only[DataW.weights,hu,O5];exact DataW.weights_mem_each hj hdd k hk
 have i1:IntKind.i64.min=-9223372036854775808:=rfl;have i2:IntKind.i64.max=9223372036854775807:=rfl;have Bb:=reachBytes_lt;simp only[Nat.reducePow] at Bb;have h0:=jh 0 _ _ rfl;rw[O3] at h0;obtain⟨n0,e0,_,r0⟩:=FN Dn h0;simp at e0;subst e0;replace r0:=Gn r0;rw[i1,i2] at r0;have h1:=jh 1 _ _ rfl;rw[Gm] at h1;obtain⟨n1,e1,y1,_⟩:=FO qz h1;simp at e1;subst e1;have r1:n1.size≤140737488355328:=by
  have:=uf 1 _ _ rfl rfl n1.data.toList.length (by rw[show x1=_ from y1];simp[DataW.weights]);simp at this;omega
 have h2:=jh 2 _ _ rfl;rw[Gm] at h2;obtain⟨n2,e2,y2,_⟩:=FO qz h2;simp at e2;subst e2;have r2:n2.size≤140737488355328:=by
  have:=uf 2 _ _ rfl rfl n2.data.toList.length (by rw[show x2=_ from y2];simp[DataW.weights]);simp at this;omega
 have h3:=jh 3 _ _ rfl;rw[Gm] at h3;obtain⟨n3,e3,y3,_⟩:=FO qz h3;simp at e3;subst e3;have r3:n3.size≤140737488355328:=by
  have:=uf 3 _ _ rfl rfl n3.data.toList.length (by rw[show x3=_ from y3];simp[DataW.weights]);simp at this;omega
 have h4:=jh 4 _ _ rfl;rw[acM] at h4;obtain⟨n4,e4,_⟩:=DataW.trod_bool acL h4;simp at e4;subst e4;have h5:=jh 5 _ _ rfl;rw[qI] at h5;obtain⟨n5,g5,e5,r5⟩:=Gq _ x5.1 (ay _) m _ x5.2 h5 (uf 5 _ _ rfl rfl);simp at e5;obtain⟨rfl,rfl,rfl,rfl,rfl⟩:=e5;have h6:=jh 6 _ _ rfl;rw[qI] at h6;obtain⟨n6,g6,e6,r6⟩:=Gq _ x6.1 (ay _) m _ x6.2 h6 (uf 6 _ _ rfl rfl);simp at e6;obtain⟨rfl,rfl,rfl,rfl,rfl⟩:=e6;have h7:=jh 7 _ _ rfl;rw[qI] at h7;obtain⟨n7,g7,e7,r7⟩:=Gq _ x7.1 (ay _) m _ x7.2 h7 (uf 7 _ _ rfl rfl);simp at e7;obtain⟨rfl,rfl,rfl,rfl,rfl⟩:=e7;have h8:=jh 8 _ _ rfl;rw[qI] at h8;obtain⟨n8,g8,e8,r8⟩:=Gq _ x8.1 (ay _) m _ x8.2 h8 (uf 8 _ _ rfl rfl);simp at e8;obtain⟨rfl,rfl,rfl,rfl,rfl⟩:=e8
 have h9:=jh 9 _ _ rfl;rw[O3] at h9;obtain⟨n9,e9,_,r9⟩:=FN Dn h9;simp at e9;subst e9;replace r9:=Gn r9;rw[i1,i2] at r9;exact⟨⟨n0,n1,n2,n3,n4,n5,n6,n7,n8,n9⟩,g5,g6,g7,g8,rfl,r5,r6,r7,r8,r0,r9,r1,r2,r3⟩
end
end
section
open Go.RowKit Go.ChangeShapes Go.Shelf Go.Deep Go.WideShapes
theorem VL(f:Nat→Nat):∀(n i:Nat),i<n→f i≤((List.range n).map f).sum
 | 0,i,h=>absurd h (by omega)
 | n+1,i,h=>by
  rw[List.range_succ,nR,Kb];simp only[fH,pF,pG,CT];by_cases hi:i=n
  ·subst hi;omega
  have:=VL f n i (by omega);omega
theorem VM(f:Nat→Nat):∀(n:Nat),(∀i,1≤f i)→n≤((List.range n).map f).sum
 | 0,_=>ba _
 | n+1,h=>by
  rw[List.range_succ,nR,Kb];simp only[fH,pF,pG,CT];have:=VM f n h;have:=h n;omega
def VN{H:Type}:DataW H:=.agg [.lit (.int .i64 0),.lit (.int .u64 0),.nil,.nil,.nil]
theorem Gx{H:Type}(d:DataW H):1≤Rows.uptoBulk d:=by
 cases d with
 | lit l=>cases l<;>simp[Rows.uptoBulk]
 | nil=>simp[Rows.uptoBulk]
 | ptr d=>simp[Rows.uptoBulk]
 | slice elems spare=>simp[Rows.uptoBulk]
 | agg parts=>simp[Rows.uptoBulk]
 | iface t d=>simp[Rows.uptoBulk]
 | map entries=>simp[Rows.uptoBulk]
 | held h=>simp[Rows.uptoBulk]
theorem acQ{H:Type}{α:Type}(D:α→DataW H)(l:List α):Rows.uptoBulkAll (l.map D)=(l.map fun i=>Rows.uptoBulk (D i)).sum:=by
 induction l with
 | nil=>simp[Rows.uptoBulkAll]
 | cons x r ih=>simp[Rows.uptoBulkAll,ih]
theorem KT{α:Type}(p:α→Nat):∀(l:List α) (g:Nat→Nat),(∀i (h:i<l.length),p l[i]≤g i)→(l.map p).sum≤((List.range l.length).map g).sum
 | [],g,_=>by simp
 | x::r,g,h=>by
  have h0:=h 0 (by simp);have hr:=KT p r (fun i=>g (i+1)) (fun i hi=>by have:=h (i+1) (by simpa using hi);simpa using this);rw[aT,List.range_succ_eq_map,fH,fH,pG,pG,lG];simp only[CW] at h0;have:(List.range r.length).map (g ∘ Nat.succ)=(List.range r.length).map fun i=>g (i+1):=rfl
  rw[this];omega
section
variable {H:Type} {enc:TypeId×Value→H} {W:World} {sp:Nat→Bool} {held:Bool}
theorem KU{t e:TypeId}{z:Nat}(ht:prog.underlying t=some (.slice e))(hz:prog.cellsOf e=z)(hz0:0<z){fuel:Nat}{A:Option Addr}{len cap:Nat}{x:DataW H×List MemPlace}(h:DataW.trod enc prog W 0 sp held fuel t [.slice A len cap]=some x) :
 ∃D:Nat→DataW H,1+((List.range len).map fun i=>Rows.uptoBulk (D i)).sum≤Rows.uptoBulk x.1 ∧
  ∀i,i<len→SizeOf.sizeOf (D i)<SizeOf.sizeOf x.1∧∃(bk o fuel':Nat) (q:List MemPlace) (cs:List Value),A=some ⟨bk,o,none⟩∧cs.length=z∧(∀j u,cs[j]?=some u→W.cell? ⟨bk,o+i*z+j,none⟩=some u)∧DataW.trod enc prog W 0 sp held fuel' e cs=some (D i,q):=by
 rcases open_slice ht h with ⟨hc,hx⟩ | ⟨a,len',cap',m,n,D,Pl,hc,hb,hl,hm,hmm,hx,hall⟩
 ·injection hc with hc;injection hc with q1 q2 q3;subst q2;exact⟨fun _=>x.1,by have:=Gx x.1;simpa using this,fun i hi=>absurd hi (by simp)⟩
 injection hc with hc;injection hc with q1 q2 q3;subst q1 q2 q3;have Vz:len≤m:=by rw[hmm];split<;>omega
 rw[hz] at hall;have Dp:x.1=.slice ((List.range len).map D) ((List.range (m-len)).map fun j=>D (len+j)):=by rw[hx]
 have hcell:∀i,i<len→∃cs,cs.length=z∧(∀j u,cs[j]?=some u→W.cell? ((a.add (i*z)).add j)=some u)∧DataW.trod enc prog W 0 sp held n e cs=some (D i,Pl i):=fun i hi=>by
  obtain⟨cs,h1,h2⟩:=hall i (by omega);obtain⟨_,hlen,hcs⟩:=World.cells?_some h1;refine⟨cs,hlen,fun j u hu=>?_,h2⟩;have hj:j<z:=by rw[← hlen];exact(kC.1 hu).1
  rw[hcs j hj,hu]
 have Gp:0<len→a=⟨a.block,a.off,none⟩:=fun hn=>by
  obtain⟨cs,hlen,hcs,_⟩:=hcell 0 hn;have h0:=hcs 0 (cs[0]'(by omega)) (cJ (by omega));rw[Gl,Nat.zero_mul,Gl] at h0;exact O0 h0
 refine⟨D,?_,fun i hi=>⟨?_,?_⟩⟩
 ·rw[Dp,Rows.uptoBulk,acQ];omega
 ·rw[Dp];have hmem:D i∈(List.range len).map D:=j3.2 ⟨i,Kp.2 hi,rfl⟩;have:=vC hmem;simp only[DataW.slice.sizeOf_spec];omega
 obtain⟨cs,hlen,hcs,htr⟩:=hcell i hi;have ha:=Gp (by omega);refine⟨a.block,a.off,n,Pl i,cs,by rw[← ha],hlen,fun j u hu=>?_,htr⟩;have:=hcs j u hu;rw[ha,add_lit,add_lit] at this;exact this
theorem ug{a:Addr}{u v:Value}(h:W.cell? a=some u)(k:W.cell? a=some v):u=v:=mU (h.symm.trans k)
theorem Gy(n:Nat):∀(d:DataW H),SizeOf.sizeOf d≤n→∀(fuel:Nat) (c:Cv) (v:V) (q:List MemPlace),DataW.trod enc prog W 0 sp held fuel 27 c.cells.toList=some (d,q)→In W v c →
 v.bytes.length≤16*Rows.uptoBulk d:=by
 induction n with
 | zero =>
  intro d hd;have:0<SizeOf.sizeOf d:=by cases d<;>simp;all_goals omega
  omega
 | succ n ih =>
  intro d hd fuel c v q h hv;obtain⟨fs,hu,nV⟩:=O1;obtain⟨xs,m,O4,hx,hlen,hxl,hall⟩:=C4 hu h;injection hx with hx1 hx2;subst hx1;have hfl:fs.size=5:=by have:=cT Array.size nV;simpa using this
  rw[hfl] at hxl;obtain⟨x0,x1,x2,x3,x4,rfl⟩:∃a b c d e,xs=[a,b,c,d,e]:=by
   match xs,hxl with
   | [a,b,c,d,e],_=>exact⟨a,b,c,d,e,rfl⟩
  obtain⟨k,nn,b,l,f⟩:=v;have hV:=hv;unfold In at hv;rw[IsV] at hv;obtain⟨ck,cn,aB,nB,cB,aL,nL,cL,aF,nF,cF⟩:=c;obtain⟨e1,e2,e3,e4,e5,_,_,_,_,_,_,_,_,_,_,hL,hF⟩:=hv;dsimp only at e1 e2 e3 e4 e5 hL hF;subst e1 e2 e3 e4 e5;have jh:∀i t o,(#[(3,0),(22,1),(23,2),(24,3),(25,4)]:Array (TypeId×Nat))[i]?=some (t,o) →
   DataW.trod enc prog W 0 sp held m t (([Value.int .i64 ck,.int .u64 nn,.slice aB b.length cB,.slice aL l.length cL,.slice aF f.length cF].drop o).take (prog.cellsOf t))=[x0,x1,x2,x3,x4][i]?:=fun i t o hi=>by
   obtain⟨fd,KV,rfl,rfl⟩:=ze nV hi;exact hall i fd KV
  have h2:=jh 2 _ _ rfl;have h3:=jh 3 _ _ rfl;have h4:=jh 4 _ _ rfl;rw[VC] at h2;rw[VF] at h3;rw[VG] at h4;obtain⟨DB,hB,_⟩:=KU eH Vy (by omega) h2;obtain⟨DL,hLb,KW⟩:=KU jv qI (by omega) h3;obtain⟨DF,hFb,KX⟩:=KU Bc VH (by omega) h4;have fB:b.length≤((List.range b.length).map fun i=>Rows.uptoBulk (DB i)).sum:=by
   have:=KT (fun _:UInt8=>1) b (fun i=>Rows.uptoBulk (DB i)) (fun i _=>Gx _);have h1:∀r:List UInt8,(r.map fun _=>1).sum=r.length:=fun r=>by
    induction r with
    | nil=>rfl
    | cons x r ih=>simp only[fH,pG,ih,aT];omega
   rw[h1] at this;exact this
  have acG:SizeOf.sizeOf x3.1<n+1:=by
   have:SizeOf.sizeOf x3.1<SizeOf.sizeOf (DataW.agg ([x0,x1,x2,x3,x4].map (·.1))):=by
    have:=vC (show x3.1∈[x0,x1,x2,x3,x4].map (·.1) by simp);simp only[C5];omega
   omega
  have O7:SizeOf.sizeOf x4.1<n+1:=by
   have:SizeOf.sizeOf x4.1<SizeOf.sizeOf (DataW.agg ([x0,x1,x2,x3,x4].map (·.1))):=by
    have:=vC (show x4.1∈[x0,x1,x2,x3,x4].map (·.1) by simp);simp only[C5];omega
   omega
  have Dr:=KT (fun x:V=>x.bytes.length) l (fun i=>16*Rows.uptoBulk (DL i)) (fun i hi=>by
   obtain⟨s1,bk,o,fuel',q',cs',ha,hlen',hcs',htr⟩:=KW i hi;obtain⟨nW,o2,x,ha2,h5,hin⟩:=hL i hi;rw[ha] at ha2;injection ha2 with ha2;injection ha2 with z1 z2;subst z1 z2;obtain⟨d0,d1,d2,d3,d4,rfl⟩:∃a b c d e,cs'=[a,b,c,d,e]:=by
    match cs',hlen' with
    | [a,b,c,d,e],_=>exact⟨a,b,c,d,e,rfl⟩
   obtain⟨k0,k1,k2,k3,k4⟩:=h5;obtain rfl:=ug (hcs' 0 _ rfl) k0.1;obtain rfl:=ug (hcs' 1 _ rfl) k1.1;obtain rfl:=ug (hcs' 2 _ rfl) k2.1;obtain rfl:=ug (hcs' 3 _ rfl) k3.1;obtain rfl:=ug (hcs' 4 _ rfl) k4.1;exact ih (DL i) (by omega) fuel' x l[i] q' htr hin)
  have hF1:=KT (fun x:ByteArray×V=>(V.item x.1 x.2.bytes).length) f (fun i=>16*Rows.uptoBulk (DF i)) (fun i hi=>by
   obtain⟨s1,bk,o,fuel',q',cs',ha,hlen',hcs',htr⟩:=KX i hi;obtain⟨nW,o2,x,ha2,ks,kz,h5,hin⟩:=hF i hi;rw[ha] at ha2;injection ha2 with ha2;injection ha2 with z1 z2;subst z1 z2;obtain⟨gs,gu,zf⟩:=VB;obtain⟨ys,m',_,hy,O9,Bd,Gr⟩:=C4 gu htr;injection hy with hy1 hy2;have hgl:gs.size=2:=by have:=cT Array.size zf;simpa using this
   rw[hgl] at Bd;obtain⟨y0,y1,rfl⟩:∃a b,ys=[a,b]:=by
    match ys,Bd with
    | [a,b],_=>exact⟨a,b,rfl⟩
   obtain⟨d0,d1,d2,d3,d4,d5,rfl⟩:∃a b c d e f,cs'=[a,b,c,d,e,f]:=by
    match cs',hlen' with
    | [a,b,c,d,e,f],_=>exact⟨a,b,c,d,e,f,rfl⟩
   obtain⟨f0,pM,t0,o0⟩:=ze zf (i:=0) rfl;obtain⟨f1,O_,t1,o1⟩:=ze zf (i:=1) rfl;have g0:=Gr 0 f0 pM;have g1:=Gr 1 f1 O_;rw[t0,o0,Gm] at g0;rw[t1,o1,qI] at g1;obtain⟨s,es,hys,_⟩:=FO qz g0;simp at es;obtain⟨k0,k1,k2,k3,k4⟩:=h5;have hs:=ug (hcs' 0 _ rfl) ks.1;rw[es] at hs;injection hs with hs;obtain rfl:=ug (hcs' 1 _ rfl) k0.1;obtain rfl:=ug (hcs' 2 _ rfl) k1.1;obtain rfl:=ug (hcs' 3 _ rfl) k2.1;obtain rfl:=ug (hcs' 4 _ rfl) k3.1;obtain rfl:=ug (hcs' 5 _ rfl) k4.1;have hsy:SizeOf.sizeOf y1.1<SizeOf.sizeOf (DF i):=by
    rw[hy1];have:=vC (show y1.1∈[y0,y1].map (·.1) by simp);simp only[C5];omega
   have hi2:=ih y1.1 (by omega) m' x f[i].2 y1.2 g1 hin;have hbs:Rows.uptoBulk y0.1=s.size+1:=by
    rw[hys];simp only[Rows.uptoBulk,yJ];rfl
   rw[C_,hy1];simp only[fH,pF,Rows.uptoBulk,Rows.uptoBulkAll];rw[hbs,← hs];omega)
  have VO:∀(g:Nat→Nat) (k:Nat),((List.range k).map fun i=>16*g i).sum=16*((List.range k).map g).sum:=fun g k=>by
   induction List.range k with
   | nil=>rfl
   | cons x r ih=>simp only[fH,pG,ih];omega
  rw[VO (fun i=>Rows.uptoBulk (DL i))] at Dr;rw[VO (fun i=>Rows.uptoBulk (DF i))] at hF1;have p0:=Gx x0.1;have p1:=Gx x1.1;have alX:(V.mk ck nn b l f).bytes.length≤13+b.length+(l.map fun x=>x.bytes.length).sum+(f.map fun x=>(V.item x.1 x.2.bytes).length).sum:=by
   rw[i7,aT];have hlf:(l.map V.bytes).flatten.length=(l.map fun x=>x.bytes.length).sum:=by rw[Fk,lG];rfl
   have mB:(f.map fun x:ByteArray×V=>V.item x.1 x.2.bytes).flatten.length=(f.map fun x=>(V.item x.1 x.2.bytes).length).sum:=by rw[Fk,lG];rfl
   split
   ·simp only[aT,bz];omega
   split
   ·rw[jG];omega
   split
   ·rw[bG,jG];omega
   split
   ·rw[aT,hlf];omega
   split
   ·rw[aT,mB];omega
   simp only[bz];omega
  simp only[fH,pF,Rows.uptoBulk,Rows.uptoBulkAll];omega
end
theorem VP{H:Type}{enc:TypeId×Value→H}{W:World}{sp:Nat→Bool}{held:Bool}{base:Nat}{v:Value}{d:DataW H}{p:List MemPlace}(hok:Value.okWide prog W .any base 27 v)
 (h:DataW.Trod enc prog W 0 sp held 27 v d p) (hw:∀n∈d.weights prog 27,n≤reachBytes):∃(x:V) (c:Cv),v=c.agg∧In W x c∧x.bytes.length≤16*Rows.uptoBulk d:=by
 obtain⟨fs,hu,_⟩:=O1;obtain⟨cs,rfl,_⟩:=okWide_struct hu hok;obtain⟨fuel,hf⟩:=h;obtain⟨x,c,hc,hin⟩:=Gq _ d (ay _) fuel _ _ hf hw;have hcs:cs=c.cells:=by
  apply Az;exact hc
 subst hcs;exact⟨x,c,rfl,hin,Gy _ d (ay _) fuel c x _ hf hin⟩
end
section
open Go.RowKit Go.ChangeShapes Go.Shelf Go.Deep Go.WideShapes
section
variable {H:Type} {enc:TypeId×Value→H} {W:World} {sp:Nat→Bool} {held:Bool}
theorem acR{dd n:Int}{sc si VQ:ByteArray}{u:Bool}{ck cl ch cx:Cv}{k l hh dx:V}(d:DataW H)(fuel:Nat)(q:List MemPlace)(h:DataW.trod enc prog W 0 sp held fuel 33 (dm dd sc si VQ u ck cl ch cx n).toList=some (d,q))
 (r5:In W k ck) (r6:In W l cl) (r7:In W hh ch) (r8:In W dx cx):∀v∈[k,l,hh,dx],v.bytes.length≤16*Rows.uptoBulk d:=by
 obtain⟨fs,hu,nV⟩:=VK;obtain⟨xs,m,O4,hx,hlen,hxl,hall⟩:=C4 hu h;injection hx with hx1 hx2;subst hx1;have hfl:fs.size=10:=by have:=cT Array.size nV;simpa using this
 rw[hfl] at hxl;obtain⟨x0,x1,x2,x3,x4,x5,x6,x7,x8,x9,rfl⟩:∃x0 x1 x2 x3 x4 x5 x6 x7 x8 x9,xs=[x0,x1,x2,x3,x4,x5,x6,x7,x8,x9]:=by
  match xs,hxl with
  | [x0,x1,x2,x3,x4,x5,x6,x7,x8,x9],_=>exact⟨x0,x1,x2,x3,x4,x5,x6,x7,x8,x9,rfl⟩
 have jh:∀i t o,(#[(3,0),(9,1),(9,2),(9,3),(4,4),(27,5),(27,10),(27,15),(27,20),(3,25)]:Array (TypeId×Nat))[i]?=some (t,o) →
  DataW.trod enc prog W 0 sp held m t (((dm dd sc si VQ u ck cl ch cx n).toList.drop o).take (prog.cellsOf t))=[x0,x1,x2,x3,x4,x5,x6,x7,x8,x9][i]?:=fun i t o hi=>by
  obtain⟨f,hf,rfl,rfl⟩:=ze nV hi;exact hall i f hf
 have h5:=jh 5 _ _ rfl;rw[qI] at h5;have b5:=Gy _ x5.1 (ay _) m ck k x5.2 h5 r5;have h6:=jh 6 _ _ rfl;rw[qI] at h6;have b6:=Gy _ x6.1 (ay _) m cl l x6.2 h6 r6;have h7:=jh 7 _ _ rfl;rw[qI] at h7;have b7:=Gy _ x7.1 (ay _) m ch hh x7.2 h7 r7;have h8:=jh 8 _ _ rfl;rw[qI] at h8;have b8:=Gy _ x8.1 (ay _) m cx dx x8.2 h8 r8;intro v hv;have hvs:v=k∨v=l∨v=hh∨v=dx:=by simpa using hv
 simp only[Rows.uptoBulk,Rows.uptoBulkAll,fH,pF];rcases hvs with rfl | rfl | rfl | rfl<;>omega
theorem acS{fuel:Nat}{c:Value}{x:DataW H×List MemPlace}(h:DataW.trod enc prog W 0 sp held fuel 36 [c]=some x)(hw:∀n∈x.1.weights prog 36,n≤reachBytes):∃A cap l,c=.slice A l.length cap∧vX W A l∧l.length≤140737488355328∧l.length≤Rows.uptoBulk x.1∧∀q∈l,(∀v∈[q.key,q.low,q.high,q.doc],v.bytes.length≤16*Rows.uptoBulk x.1)∧q.aA.size≤140737488355328∧q.index.size≤140737488355328:=by
 obtain⟨A,len,cap,D,rfl,hlc,hll,_,hall⟩:=open_row Pb Pc (by omega) acN (by omega) h hw;obtain⟨D2,hb,h2⟩:=KU Pb Pc (by omega) h;have h1:=VM (fun i=>Rows.uptoBulk (D2 i)) len (fun i=>Gx _);have hv:∀i,i<len→∃(r:Rq),(∃(bk o:Nat) (ck cl ch cx:Cv),A=some ⟨bk,o,none⟩∧bk<W.heap.size ∧
  (∀k v,(dm r.bj r.aA r.index r.path r.unique ck cl ch cx r.n)[k]?=some v→W.cell? ⟨bk,o+i*26+k,none⟩=some v)∧In W r.key ck∧In W r.low cl∧In W r.high ch∧In W r.doc cx)∧(∀v∈[r.key,r.low,r.high,r.doc],v.bytes.length≤16*Rows.uptoBulk x.1)∧r.aA.size≤140737488355328∧r.index.size≤140737488355328:=fun i hi=>by
  obtain⟨s1,s2,bk,o,fuel',q',cs',ha,hlen',hcs',htr⟩:=hall i hi;obtain⟨s3,nW,o2,acT,q2,VS,ha2,O9,acU,acV⟩:=h2 i hi;have hcc:VS=cs':=by
   rw[ha] at ha2;injection ha2 with ha2;injection ha2 with ha2 Ds;subst ha2 Ds;refine List.ext_getElem (by rw[hlen',O9]) fun j k1 k2=>?_
   have e1:=acU j _ (cJ k1);have e2:=(hcs' j _ (cJ k2)).1;exact mU (e1.symm.trans e2)
  subst hcc;obtain⟨r,ck,cl,ch,cx,rfl,g1,g2,g3,g4,-,-,z1,z2,-⟩:=acP (D i) fuel' VS q' htr s2;have hbb:=acR (D2 i) acT q2 acV g1 g2 g3 g4;have hm:=VL (fun i=>Rows.uptoBulk (D2 i)) len i hi;refine⟨r,⟨bk,o,ck,cl,ch,cx,ha,(hcs' 0 _ rfl).2.2,fun k v hk=>(hcs' k v (by rwa [pH])).1,g1,g2,g3,g4⟩,fun v hv=>?_,z1,z2⟩;have:=hbb v hv;omega
 obtain⟨l,hl,hp⟩:=acO hv;subst hl;exact⟨A,cap,l,rfl,fun i hi=>(hp i hi).1,hll,by omega,fun q hq=>by
  obtain⟨i,hi,rfl⟩:=tG.1 hq;exact(hp i hi).2⟩
end
end
end Go.Proofs.YtndjopkdbdcmdaaGreatDoor
