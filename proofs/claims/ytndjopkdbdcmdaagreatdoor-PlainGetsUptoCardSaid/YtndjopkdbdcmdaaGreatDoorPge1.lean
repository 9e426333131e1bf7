/- Part 1 of the proof of pgets_card. -/
import Derived.Test.YtndjopkdbdcmdaaGreatDoorPge0
import Derived.WalkKit
import Derived.WalkSpells
import Derived.WalkLawsBesides
import Derived.Deep.LoopGhost
import Derived.Deep.AppendLies
import Derived.Deep.Draws
import Derived.Deep.AppendSrc
import Derived.Maps.AppendAt
import Derived.Lib.AppendStr
import Derived.Laws.BitsAllLaws
import Derived.Laws.Bits64
import Derived.Lib.ValidU
import Derived.Test.YtndjopkdbdcmdaaGreatDoorRows
import Derived.Laws.IdiomStrings
import Derived.MapKept
import Derived.Lib.BufferRead
import Derived.Deep.QuietTactic
import Derived.BigQuiet
import Derived.Shelf.Unicode.WordAny
import Derived.Deep.DeepBigQuietO
import Derived.Lib.BytesEntry
import Derived.Lib.Bytealg
set_option linter.unusedVariables false
set_option linter.unusedSimpArgs false
set_option maxRecDepth 100000
set_option maxHeartbeats 12800000
open Go.Proofs.Tryz
open Go.RowKit
namespace Go.Proofs.YtndjopkdbdcmdaaGreatDoor
variable {A:Option Addr}{B base bk c g hi i j lo m z:Nat}{C C':Addr→Value→Prop}{E:Prop}{K:Act→World→Prop}{Q:Exit→Act→World→Prop}{a:Act}{cs:Array Value}{e:Int}{news xs:List Value}{ops:Array Oper}{rest:List Oper}{t:TypeId}{v v':Value}{w w':World}{ys:List UInt8}
section
open Go.RowKit
theorem aa{p:Prop}(h:p):Hid p:=h
inductive V where
 | mk (k:Int) (n:Nat) (b:List UInt8) (l:List V) (f:List (ByteArray×V))
namespace V
def k:V→Int | mk k _ _ _ _=>k
def n:V→Nat | mk _ n _ _ _=>n
def b:V→List UInt8 | mk _ _ b _ _=>b
def l:V→List V | mk _ _ _ l _=>l
def f:V→List (ByteArray×V) | mk _ _ _ _ f=>f
def zero:V:=mk 0 0 [] [] []
theorem sV{k:Int}{n:Nat}{b:List UInt8}{l:List V}{f:List (ByteArray×V)}{x:V}(h:x∈l):SizeOf.sizeOf x<SizeOf.sizeOf (mk k n b l f):=by
 have:=wh h;simp only[mk.sizeOf_spec];omega
theorem sW{k:Int}{n:Nat}{b:List UInt8}{l:List V}{f:List (ByteArray×V)}{x:ByteArray×V}(h:x∈f):SizeOf.sizeOf x.2<SizeOf.sizeOf (mk k n b l f):=by
 have:=wh h;obtain⟨s,y⟩:=x;simp only[mk.sizeOf_spec,Prod.mk.sizeOf_spec] at *;omega
theorem ind{p:V→Prop}(h:∀k n b l f,(∀x∈l,p x)→(∀x∈f,p x.2)→p (mk k n b l f))(v:V):p v:=by
 match v with
 | mk k n b l f=>exact h k n b l f (fun x _=>ind h x) (fun x _=>ind h x.2)
termination_by SizeOf.sizeOf v
decreasing_by
 ·exact sV ‹_›
 exact sW ‹_›
end V
structure Cv where
 k:Int
 n:Int
 aB:Option Addr
 nB:Nat
 cB:Nat
 aL:Option Addr
 nL:Nat
 cL:Nat
 aF:Option Addr
 nF:Nat
 cF:Nat
abbrev Cv.cells(c:Cv):Array Value:=#[.int .i64 c.k,.int .u64 c.n,.slice c.aB c.nB c.cB,.slice c.aL c.nL c.cL,.slice c.aF c.nF c.cF]
abbrev Cv.agg(c:Cv):Value:=.agg c.cells
abbrev Cv.zero:Cv:=⟨0,0,none,0,0,none,0,0,none,0,0⟩
def Reads(C:Addr→Value→Prop)(size:Nat)(A:Option Addr)(n:Nat)(xs:List Value):Prop:=
 xs.length=n*size∧(0<n→∃bk o,A=some ⟨bk,o,none⟩∧∀j u,xs[j]?=some u→C ⟨bk,o+j,none⟩ u)
def b_(b:List UInt8):List Value:=b.map fun x=>.int .u8 (x.toNat:Int)
def kV(C:Addr→Value→Prop)(bk o:Nat)(c:Cv):Prop:=
 C ⟨bk,o,none⟩ (.int .i64 c.k)∧C ⟨bk,o+1,none⟩ (.int .u64 c.n)∧C ⟨bk,o+2,none⟩ (.slice c.aB c.nB c.cB)∧C ⟨bk,o+3,none⟩ (.slice c.aL c.nL c.cL)∧C ⟨bk,o+4,none⟩ (.slice c.aF c.nF c.cF)
def IsV(C:Addr→Value→Prop):V→Cv→Prop
 | .mk k n b l f,c=>c.k=k∧c.n=(n:Int)∧c.nB=b.length∧c.nL=l.length∧c.nF=f.length ∧
  -9223372036854775808≤k∧k≤9223372036854775807∧n<18446744073709551616 ∧
  b.length≤c.cB∧b.length≤140737488355328∧l.length≤c.cL∧l.length≤140737488355328∧f.length≤c.cF∧f.length≤140737488355328 ∧
  Reads C 1 c.aB b.length (b_ b) ∧
  (∀i (h:i<l.length),∃bk o x,c.aL=some ⟨bk,o,none⟩∧kV C bk (o+i*5) x∧IsV C l[i] x) ∧
  (∀i (h:i<f.length),∃bk o x,c.aF=some ⟨bk,o,none⟩∧C ⟨bk,o+i*6,none⟩ (.string f[i].1)∧f[i].1.size≤140737488355328∧kV C bk (o+i*6+1) x∧IsV C f[i].2 x)
termination_by v=>SizeOf.sizeOf v
decreasing_by
 ·exact V.sV (aS _)
 exact V.sW (aS _)
def bQ(w:World)(lo hi:Nat)(p:Addr)(u:Value):Prop:=w.cell? p=some u∧lo≤p.block∧p.block<hi
theorem Reads.mono(h:∀p u,C p u→C' p u){size:Nat}{n:Nat}(hr:Reads C size A n xs):Reads C' size A n xs:=
 ⟨hr.1,fun hn=>by obtain⟨bk,o,e,hc⟩:=hr.2 hn;exact⟨bk,o,e,fun j u hu=>h _ _ (hc j u hu)⟩⟩
theorem kV.mono(h:∀p u,C p u→C' p u){o:Nat}{c:Cv}(hc:kV C bk o c):kV C' bk o c:=
 ⟨h _ _ hc.1,h _ _ hc.2.1,h _ _ hc.2.2.1,h _ _ hc.2.2.2.1,h _ _ hc.2.2.2.2⟩
theorem IsV.mono(h:∀p u,C p u→C' p u)(v:V):∀c,IsV C v c→IsV C' v c:=by
 induction v using V.ind with
 | h k n b l f hl hf =>
  intro c hv;rw[IsV] at hv ⊢;obtain⟨e1,e2,e3,e4,e5,h1,h2,h3,h4,h5,h6,h7,h8,h9,hb,hL,hF⟩:=hv;refine⟨e1,e2,e3,e4,e5,h1,h2,h3,h4,h5,h6,h7,h8,h9,hb.mono h,fun i hi=>?_,fun i hi=>?_⟩
  ·obtain⟨bk,o,x,e,k0,kv⟩:=hL i hi;exact⟨bk,o,x,e,k0.mono h,hl _ (aS _) _ kv⟩
  obtain⟨bk,o,x,e,ks,kz,k0,kv⟩:=hF i hi;exact⟨bk,o,x,e,h _ _ ks,kz,k0.mono h,hf _ (aS _) _ kv⟩
theorem bQ.below{lo' hi':Nat}(hb:Below B w w')(h0:lo'≤lo)(h1:hi≤B)(h2:hi≤hi')(p:Addr)(u:Value)(h:bQ w lo hi p u):bQ w' lo' hi' p u:=
 ⟨(hb.cell (bG h.2.2 h1)).trans h.1,aV h0 h.2.1,bG h.2.2 h2⟩
def Grow(w w':World):Prop:=Below w.heap.size w w'
theorem Grow.below(h:Grow w w'):Below w.heap.size w w':=h
theorem Grow.refl(w:World):Grow w w:=jH _ _
theorem Grow.size(h:Grow w w'):w.heap.size≤w'.heap.size:=Below.size h
theorem Grow.trans{a b c:World}(h:Grow a b)(k:Grow b c):Grow a c:=cJ h (eO k h.size)
theorem Grow.alloc{a:World}(h:Grow a w)(o:Obj):Grow a (w.alloc o):=oY h h.size o
theorem Grow.drew{a:World}(h:Grow a w):Grow a w.drew:=AO h
theorem Grow.drewN{a:World}(h:Grow a w)(n:Nat):Grow a (w.drewN n):=⟨h.os,h.tape,h.output,h.size,h.block⟩
theorem Grow.setCell{a:World}(h:Grow a w){p:Addr}(hp:a.heap.size≤p.block)(u:Value):Grow a (w.setCell p u):=Below.setCell h hp u
theorem Grow.grown{a:World}{row:Option Nat}(h:Grow a w)(hg:w.grownBy w' row)(hr:∀k,row=some k→a.heap.size≤k):Grow a w':=Below.grown h hg h.size hr
def In(w:World)(v:V)(c:Cv):Prop:=IsV (bQ w 0 w.heap.size) v c
theorem In.grow{v:V}{c:Cv}(h:In w v c)(hb:Grow w w'):In w' v c:=
 IsV.mono (bQ.below hb.below (au _) (au _) hb.size) v c h
def bh(w:World)(A:Option Addr)(b:List UInt8):Prop:=Reads (bQ w 0 w.heap.size) 1 A b.length (b_ b)
theorem bh.grow{b:List UInt8}(h:bh w A b)(hb:Grow w w'):bh w' A b:=
 Reads.mono (bQ.below hb.below (au _) (au _) hb.size) h
def dW(w:World)(hi:Nat)(v:V)(c:Cv):Prop:=IsV (bQ w 0 hi) v c
theorem dW.below{hi':Nat}{v:V}{c:Cv}(h:dW w hi v c)(hb:Below B w w')(h1:hi≤B)(h2:hi≤hi'):dW w' hi' v c:=
 IsV.mono (bQ.below hb (au _) h1 h2) v c h
theorem In.under{v:V}{c:Cv}(h:In w v c):dW w w.heap.size v c:=h
theorem dW.jf{v:V}{c:Cv}(h:dW w hi v c)(hz:hi≤w.heap.size):In w v c:=IsV.mono (bQ.below (jH hi w) (au _) (au _) hz) v c h
theorem dW.open{k:Int}{n:Nat}{b:List UInt8}{l:List V}{f:List (ByteArray×V)}{c:Cv}(h:dW w hi (.mk k n b l f) c) :
 ∃(aB aL aF:Option Addr) (cB cL cF:Nat),c=⟨k,(n:Int),aB,b.length,cB,aL,l.length,cL,aF,f.length,cF⟩ ∧
  -9223372036854775808≤k∧k≤9223372036854775807∧n<18446744073709551616 ∧
  b.length≤cB∧b.length≤140737488355328∧l.length≤cL∧l.length≤140737488355328∧f.length≤cF∧f.length≤140737488355328∧Reads (bQ w 0 hi) 1 aB b.length (b_ b):=by
 unfold dW at h;rw[IsV] at h;obtain⟨c1,c2,aB,c3,cB,aL,c4,cL,aF,c5,cF⟩:=c;obtain⟨e1,e2,e3,e4,e5,h1,h2,h3,h4,h5,h6,h7,h8,h9,hb,hL,hF⟩:=h;dsimp only at *;subst e1 e2 e3 e4 e5;exact⟨aB,aL,aF,cB,cL,cF,rfl,h1,h2,h3,h4,h5,h6,h7,h8,h9,hb⟩
theorem dW.fh{k:Int}{n:Nat}{b:List UInt8}{l:List V}{f:List (ByteArray×V)}{c:Cv}(h:dW w hi (.mk k n b l f) c)(i:Nat)(hil:i<l.length) :
 ∃bk o x,c.aL=some ⟨bk,o,none⟩∧bk<hi∧w.cell? ⟨bk,o+i*5,none⟩=some (.int .i64 x.k)∧w.cell? ⟨bk,o+i*5+1,none⟩=some (.int .u64 x.n) ∧
  w.cell? ⟨bk,o+i*5+2,none⟩=some (.slice x.aB x.nB x.cB)∧w.cell? ⟨bk,o+i*5+3,none⟩=some (.slice x.aL x.nL x.cL) ∧
  w.cell? ⟨bk,o+i*5+4,none⟩=some (.slice x.aF x.nF x.cF)∧dW w hi l[i] x:=by
 unfold dW at h;rw[IsV] at h;obtain⟨e1,e2,e3,e4,e5,h1,h2,h3,h4,h5,h6,h7,h8,h9,hb,hL,hF⟩:=h;obtain⟨bk,o,x,e,⟨k0,k1,k2,k3,k4⟩,kv⟩:=hL i hil;exact⟨bk,o,x,e,k0.2.2,k0.1,k1.1,k2.1,k3.1,k4.1,kv⟩
theorem dW.gX{k:Int}{n:Nat}{b:List UInt8}{l:List V}{f:List (ByteArray×V)}{c:Cv}(h:dW w hi (.mk k n b l f) c)(i:Nat)(hif:i<f.length) :
 ∃bk o x,c.aF=some ⟨bk,o,none⟩∧bk<hi∧w.cell? ⟨bk,o+i*6,none⟩=some (.string f[i].1)∧f[i].1.size≤140737488355328 ∧
  w.cell? ⟨bk,o+i*6+1,none⟩=some (.int .i64 x.k)∧w.cell? ⟨bk,o+i*6+1+1,none⟩=some (.int .u64 x.n) ∧
  w.cell? ⟨bk,o+i*6+1+2,none⟩=some (.slice x.aB x.nB x.cB)∧w.cell? ⟨bk,o+i*6+1+3,none⟩=some (.slice x.aL x.nL x.cL) ∧
  w.cell? ⟨bk,o+i*6+1+4,none⟩=some (.slice x.aF x.nF x.cF)∧dW w hi f[i].2 x:=by
 unfold dW at h;rw[IsV] at h;obtain⟨e1,e2,e3,e4,e5,h1,h2,h3,h4,h5,h6,h7,h8,h9,hb,hL,hF⟩:=h;obtain⟨bk,o,x,e,ks,kz,⟨k0,k1,k2,k3,k4⟩,kv⟩:=hF i hif;exact⟨bk,o,x,e,ks.2.2,ks.1,kz,k0.1,k1.1,k2.1,k3.1,k4.1,kv⟩
theorem In.open{k:Int}{n:Nat}{b:List UInt8}{l:List V}{f:List (ByteArray×V)}{c:Cv}(h:In w (.mk k n b l f) c) :
 ∃(aB aL aF:Option Addr) (cB cL cF:Nat),c=⟨k,(n:Int),aB,b.length,cB,aL,l.length,cL,aF,f.length,cF⟩ ∧
  -9223372036854775808≤k∧k≤9223372036854775807∧n<18446744073709551616 ∧
  b.length≤cB∧b.length≤140737488355328∧l.length≤cL∧l.length≤140737488355328∧f.length≤cF∧f.length≤140737488355328∧bh w aB b:=dW.open h
theorem In.fh{k:Int}{n:Nat}{b:List UInt8}{l:List V}{f:List (ByteArray×V)}{c:Cv}(h:In w (.mk k n b l f) c)(i:Nat)(hi:i<l.length) :
 ∃bk o x,c.aL=some ⟨bk,o,none⟩∧bk<w.heap.size∧w.cell? ⟨bk,o+i*5,none⟩=some (.int .i64 x.k)∧w.cell? ⟨bk,o+i*5+1,none⟩=some (.int .u64 x.n) ∧
  w.cell? ⟨bk,o+i*5+2,none⟩=some (.slice x.aB x.nB x.cB)∧w.cell? ⟨bk,o+i*5+3,none⟩=some (.slice x.aL x.nL x.cL) ∧
  w.cell? ⟨bk,o+i*5+4,none⟩=some (.slice x.aF x.nF x.cF)∧In w l[i] x:=dW.fh h i hi
theorem In.gX{k:Int}{n:Nat}{b:List UInt8}{l:List V}{f:List (ByteArray×V)}{c:Cv}(h:In w (.mk k n b l f) c)(i:Nat)(hi:i<f.length) :
 ∃bk o x,c.aF=some ⟨bk,o,none⟩∧bk<w.heap.size∧w.cell? ⟨bk,o+i*6,none⟩=some (.string f[i].1)∧f[i].1.size≤140737488355328 ∧
  w.cell? ⟨bk,o+i*6+1,none⟩=some (.int .i64 x.k)∧w.cell? ⟨bk,o+i*6+1+1,none⟩=some (.int .u64 x.n) ∧
  w.cell? ⟨bk,o+i*6+1+2,none⟩=some (.slice x.aB x.nB x.cB)∧w.cell? ⟨bk,o+i*6+1+3,none⟩=some (.slice x.aL x.nL x.cL) ∧
  w.cell? ⟨bk,o+i*6+1+4,none⟩=some (.slice x.aF x.nF x.cF)∧In w f[i].2 x:=dW.gX h i hi
def Blk(w:World)(g:Nat)(t:TypeId)(cs:Array Value):Prop:=w.heap[g]?=some (.cells cs t (0,0))
theorem Blk.lt(h:Blk w g t cs):g<w.heap.size:=by
 rcases gp g w.heap.size with hlt | hge
 ·exact hlt
 unfold Blk at h;rw[sN hge] at h;cases h
theorem Blk.below(h:Blk w g t cs)(hb:Below B w w')(hg:g<B):Blk w' g t cs:=(hb.block g hg).trans h
theorem Blk.grow(h:Blk w g t cs)(hb:Grow w w'):Blk w' g t cs:=(hb.below.block g h.lt).trans h
theorem Blk.new(w:World)(t:TypeId)(cs:Array Value):Blk (w.alloc (.cells cs t)) w.heap.size t cs:=J0 w _
theorem Blk.new'(h:g=w.heap.size)(t:TypeId)(cs:Array Value):Blk (w.alloc (.cells cs t)) g t cs:=h ▸ Blk.new w t cs
theorem Blk.cell(h:Blk w g t cs)(i:Nat):w.cell? ⟨g,i,none⟩=cs[i]?:=AP w g i cs t (0,0) h
theorem Blk.frozen(h:Blk w g t cs)(i:Nat):w.frozen? ⟨g,i,none⟩=false:=by
 unfold Blk at h;simp[World.frozen?,h]
theorem Blk.aY(h:Blk w g t cs)(i:Nat)(u:Value):Blk (w.setCell ⟨g,i,none⟩ u) g t (cs.setIfInBounds i u):=by
 unfold Blk at h ⊢;simp[World.setCell,AQ,h]
theorem Blk.far(h:Blk w g t cs){p:Addr}(hp:g≠p.block)(u:Value):Blk (w.setCell p u) g t cs:=(C_ w p u g hp).trans h
theorem Blk.drew(h:Blk w g t cs):Blk w.drew g t cs:=h
theorem Blk.drewN(h:Blk w g t cs)(n:Nat):Blk (w.drewN n) g t cs:=h
theorem Blk.alloc(h:Blk w g t cs)(o:Obj):Blk (w.alloc o) g t cs:=h.grow ((Grow.refl w).alloc o)
end
section
open Go.RowKit
theorem Ds(b:List UInt8):(b_ b).length=b.length:=by simp[b_]
theorem Vp(a b:List UInt8):b_ (a++b)=b_ a++b_ b:=by simp[b_]
theorem iI(b:List UInt8):∀u∈b_ b,u.oneCell'=true:=by
 intro u hu;obtain⟨x,_,rfl⟩:=mI.1 hu;rfl
theorem wE(b:List UInt8)(j:Nat)(h:j<b.length):(b_ b)[j]?=some (.int .u8 (b[j].toNat:Int)):=by simp[b_,h]
theorem add_lit(b o j:Nat):(⟨b,o,none⟩:Addr).add j=⟨b,o+j,none⟩:=by unfold Addr.add;split<;>simp_all
theorem Vq{α:Type}(v:α):∀(l:List α) (o:Nat),o<l.length→(l.set o v).take (o+1)=l.take o++[v]
 | [],o,h=>by simp at h
 | x::l,0,_=>by simp
 | x::l,o+1,h=>by
  simp only[J1,NP,AR];rw[Vq v l o (by simpa using h)]
theorem Vr{α:Type}(v:α):∀(l:List α) (o k:Nat),o<k→(l.set o v).drop k=l.drop k
 | [],_,_,_=>by simp
 | x::l,0,k+1,_=>by simp
 | x::l,o+1,k+1,h=>by
  simp only[J1,List.drop_succ_cons];exact Vr v l o k (by omega)
theorem Ku(g:Nat)(e:TypeId):∀(vs:List Value) (w:World) (o:Nat) (cur:Array Value),w.heap[g]?=some (.cells cur e (0,0))→o+vs.length≤cur.size →
 (w.setCells g o vs).heap[g]?=some (.cells (cur.toList.take o++vs++cur.toList.drop (o+vs.length)).toArray e (0,0))
 | [],w,o,cur,hg,ho=>by
  simp only[World.setCells,oZ,bT,fX,sO,Array.toArray_toList];exact hg
 | v::r,w,o,cur,hg,ho=>by
  simp only[World.setCells];have h1:(w.setCell ⟨g,o,none⟩ v).heap[g]?=some (.cells (cur.setIfInBounds o v) e (0,0)):=by
   simp[World.setCell,AQ,hg]
  simp only[aU] at ho;rw[Ku g e r _ (o+1) _ h1 (by simp;omega)];have hl:o<cur.toList.length:=by simp;omega
  simp only[Array.toList_setIfInBounds,Vq v _ _ hl,Vr v _ o (o+1+r.length) (by omega),nv,AR,ql,aU];rw[show o+1+r.length=o+(r.length+1) from by omega]
theorem mJ(g:Nat)(R:Option Nat)(hR:R=some g):∀(vs:List Value) (w:World) (o:Nat),w.grownBy (w.setCells g o vs) R
 | [],w,_=>World.grownBy.refl w _
 | v::r,w,o=>by
  subst hR;have h1:w.grownBy (w.setCell ⟨g,o,none⟩ v) (some g):=⟨rfl,rfl,rfl,by simp[World.setCell],fun k _ hk=>C_ w ⟨g,o,none⟩ v k (fun e=>hk (by rw[e]))⟩;exact World.grownBy.trans h1 (mJ g _ rfl r _ (o+1))
section
variable {P:Program} {w:World}
theorem Src.ach{size:Nat}{tx e':TypeId}(hk:P.underlying tx=some (.slice e')){n:Nat}(h:Reads (bQ w lo hi) size A n news)
 (h1:∀u∈news,u.oneCell'=true):Src P size tx (.slice A n c) n news w:=by
 rcases AU n with h0 | h0
 ·subst h0;have hn:news=[]:=l5 (by simpa using h.1);subst hn;rcases A with _ | ad
  ·exact Src.ofNil w hk c
  exact Src.ofSlice w hk ad 0 c [] (by simp) (fun j u hu=>by simp at hu) h1
 obtain⟨bk,o,rfl,hc⟩:=h.2 h0;exact Src.ofSlice w hk ⟨bk,o,none⟩ n c news h.1 (fun j u hu=>by rw[add_lit];exact(hc j u hu).1) h1
theorem Vs{need old:Nat}(h:old<need)(hb:need≤140737488400000):Builtin.nextslicecap need old*1≤281474976710656:=by
 rw[sP];unfold Builtin.nextslicecap;split
 ·omega
 split
 ·omega
 rw[growBy_four]
 repeat' split
 all_goals omega
theorem aci(base:Nat)(t tx ty e:TypeId)(i:TypeInfo)(z:Value)(size bytes:Nat)(ht:P.underlying t=some (.slice e))(hi:P.info? e=some i)(hz:i.zero=some z)
 (hsize:i.size=size) (hby:i.bytes=bytes) (hzs:z.cells.size=size)
 (v:Value) (n:Nat) (xs:List Value) (hown:w.ownsRow base e size v n xs) (x:Value) (m:Nat) (news:List Value) (hs:Src P size tx x m news w)
 (hfit:∀old,old<n+m→Builtin.nextslicecap (n+m) old*bytes≤281474976710656) (h63:n+m≤maxLen) (hbase:base≤w.heap.size) :
 ∃A c w',(Builtin.append_ #[t,tx] ty #[v,x]).run P w=.ok (.slice A (n+m) c) w'∧w'.ownsRow base e size (.slice A (n+m) c) (n+m) (xs++news)∧w.grownBy w' v.ownBlock ∧
  (Value.ownBlock (.slice A (n+m) c)=v.ownBlock∨Value.ownBlock (.slice A (n+m) c)=some w.heap.size):=by
 subst hsize;subst hby
 have hsmall:n+m≤9223372036854775807:=by simp only[maxLen] at h63;omega
 have hlen:(xs++news).length=(n+m)*i.size:=by rw[bp,hown.1,hs.newsLen,ki]
 have grown:∀(old:Nat),old<n+m→∀(row:Option Nat),
  (w.drew.alloc (.cells ((xs++news).toArray++Builtin.zeroCells z.cells (grownCap w (n+m) old e-(n+m))) e)).ownsRow base e i.size
   (.slice (some ⟨w.heap.size,0,none⟩) (n+m) (grownCap w (n+m) old e)) (n+m) (xs++news) ∧
  w.grownBy (w.drew.alloc (.cells ((xs++news).toArray++Builtin.zeroCells z.cells (grownCap w (n+m) old e-(n+m))) e)) row:=by
  intro old ho row;have hge:=grownCap_ge w (n+m) old e;have hcm:grownCap w (n+m) old e≤maxLen:=grownCap_le_maxLen w (n+m) old e h63;refine⟨⟨hlen,.inr ⟨w.heap.size,_,_,rfl,hbase,J0 w.drew _,hge,hcm,?_,?_⟩⟩,⟨rfl,rfl,rfl,by simp,fun k hk _=>Below.heap_alloc w.drew _ k hk⟩⟩
  ·simp only[Array.size_append,NQ,size_zeroCells,hzs,hlen,← ki];congr 1;omega
  simp only[Array.toList_append,nv];rw[← nv,← hlen];exact List.take_left
 rcases hown.2 with ⟨rfl,rfl⟩ | ⟨g,cap,cur,rfl,hbg,hg,hnc,hcm,hcs,htake⟩
 ·have hx:xs=[]:=l5 (by simpa using hown.1);subst hx;by_cases hm:m=0
  ·subst hm;have hn:news=[]:=l5 (by simpa using hs.newsLen);subst hn;refine⟨none,0,w,?_,jb w base e _,⟨rfl,rfl,rfl,au _,fun _ _ _=>rfl⟩,.inl rfl⟩;have hc:=hs.cells;rcases hs.kind with ⟨e',hk⟩ | hk<;>simp[Builtin.append_,wj ht,wj hk,sizeOf,typeInfo,hi,hs.len,hc]
  have hr:=run_append_grow_src (P:=P) w t tx ty e i z ht hi hz none 0 0 [] (run_firstCells_none w.drew i.size 0 0 0) x m news hs (by omega) (by omega) (hfit _ (by omega));have hgr:=grown 0 (by omega) (Value.ownBlock (.slice none 0 0));exact⟨_,_,_,hr,hgr.1,hgr.2,.inr rfl⟩
 by_cases hroom:n+m≤cap
 ·have hcell:∀j,w.cell? ⟨g,j,none⟩=cur[j]?:=fun j=>AP w g j cur e (0,0) hg
  have hin:∀j,j<news.length→n*i.size+j<cur.size:=fun j hj=>by
   rw[hcs];rw[hs.newsLen] at hj;have:(n+m)*i.size≤cap*i.size:=gq _ hroom;rw[ki] at this;omega
  have hr:=run_append_room_src (P:=P) w t tx ty e i ht hi g 0 n cap x m news hs hroom
   (fun j hj=>by rw[hcell,eo];simp[hin j hj]) (fun j hj=>by simp[World.frozen?,hg])
  rw[eo] at hr;refine⟨_,_,_,hr,⟨hlen,.inr ⟨g,cap,(cur.toList.take (n*i.size)++news++cur.toList.drop (n*i.size+news.length)).toArray,rfl,hbg,Ku g e news w (n*i.size) cur hg ?_,hroom,hcm,?_,?_⟩⟩,?_,.inl rfl⟩
  ·have:(n+m)*i.size≤cap*i.size:=gq _ hroom;rw[ki] at this;rw[hcs,hs.newsLen];omega
  ·have:(n+m)*i.size≤cap*i.size:=gq _ hroom;rw[ki] at this;simp only[NQ,bp,dU,iw,xI,hs.newsLen,hcs];omega
  ·rw[htake,← hlen];exact List.take_left
  exact mJ g _ rfl news w (n*i.size)
 have holds:∀j u,xs[j]?=some u→w.cell? ((⟨g,0,none⟩:Addr).add j)=some u:=hown.cells (g:=g) rfl;have hr:=run_append_grow_src (P:=P) w t tx ty e i z ht hi hz (some ⟨g,0,none⟩) n cap xs (run_firstCells_some w.drew i.size n ⟨g,0,none⟩ n cap xs hown.1 (by simpa using holds)) x m news hs (by omega) (by omega) (hfit _ (by omega));have hgr:=grown cap (by omega) (Value.ownBlock (.slice (some ⟨g,0,none⟩) n cap));exact⟨_,_,_,hr,hgr.1,hgr.2,.inr rfl⟩
theorem Vt{o:Oper}(s x:Operand)(t tx:TypeId)
 (ho:o.op=.call { callee:=.builtin .append,args:=#[s,x],argTypes:=#[t,tx] })
 (base:Nat) (e:TypeId) (i:TypeInfo) (z:Value) (size bytes:Nat) (ht:P.underlying t=some (.slice e)) (hi:P.info? e=some i) (hz:i.zero=some z)
 (hsize:i.size=size) (hby:i.bytes=bytes) (hzs:z.cells.size=size)
 (v:Value) (n:Nat) (xs:List Value) (hv:a.eval s=v) (hown:w.ownsRow base e size v n xs) (u:Value) (m:Nat) (news:List Value) (hx:a.eval x=u) (hs:Src P size tx u m news w)
 (hfit:∀old,old<n+m→Builtin.nextslicecap (n+m) old*bytes≤281474976710656) (h63:n+m≤maxLen) (hbase:base≤w.heap.size)
 (h:∀A c w',w'.ownsRow base e size (.slice A (n+m) c) (n+m) (xs++news)→w.grownBy w' v.ownBlock →
  (Value.ownBlock (.slice A (n+m) c)=v.ownBlock∨Value.ownBlock (.slice A (n+m) c)=some w.heap.size)→K (a.put o.dst (.slice A (n+m) c)) w'):o.wp P a w K Q:=by
 obtain⟨A,c,w',hr,h2,h3,h4⟩:=aci (P:=P) (w:=w) base t tx o.type e i z size bytes ht hi hz hsize hby hzs v n xs hown u m news hs hfit h63 hbase;unfold Oper.wp execOp;simp only[ho,resolve,invoke,builtin,AV,Da,Db,List.map_toArray,fN,nW,hv,hx,hr];exact h A c w' h2 h3 h4
theorem Vu{o:Oper}(hgd:o.guard=none)(s x:Operand)(t tx:TypeId)
 (ho:o.op=.call { callee:=.builtin .append,args:=#[s,x],argTypes:=#[t,tx] })
 (base:Nat) (e:TypeId) (i:TypeInfo) (z:Value) (size bytes:Nat) (ht:P.underlying t=some (.slice e)) (hi:P.info? e=some i) (hz:i.zero=some z)
 (hsize:i.size=size) (hby:i.bytes=bytes) (hzs:z.cells.size=size)
 (v:Value) (n:Nat) (xs:List Value) (hv:a.eval s=v) (hown:w.ownsRow base e size v n xs) (u:Value) (m:Nat) (news:List Value) (hx:a.eval x=u) (hs:Src P size tx u m news w)
 (hfit:∀old,old<n+m→Builtin.nextslicecap (n+m) old*bytes≤281474976710656) (h63:n+m≤maxLen) (hbase:base≤w.heap.size)
 (h:∀A c w',w'.ownsRow base e size (.slice A (n+m) c) (n+m) (xs++news)→w.grownBy w' v.ownBlock →
  (Value.ownBlock (.slice A (n+m) c)=v.ownBlock∨Value.ownBlock (.slice A (n+m) c)=some w.heap.size)→wpList P ops Q rest (a.put o.dst (.slice A (n+m) c)) w'):wpList P ops Q (o::rest) a w:=
 wpList_plain hgd fun _ hK=>Vt s x t tx ho base e i z size bytes ht hi hz hsize hby hzs v n xs hv hown u m news hx hs hfit h63 hbase fun A c w' h2 h3 h4=>hK _ _ (h A c w' h2 h3 h4)
theorem Vv{o:Oper}(hgd:o.guard=none)(s x:Operand)(t tx:TypeId)
 (ho:o.op=.call { callee:=.builtin .append,args:=#[s,x],argTypes:=#[t,tx] })
 (base:Nat) (e:TypeId) (i:TypeInfo) (z:Value) (size bytes:Nat) (ht:P.underlying t=some (.slice e)) (hi:P.info? e=some i) (hz:i.zero=some z)
 (hsize:i.size=size) (hby:i.bytes=bytes) (hzs:z.cells.size=size)
 (v:Value) (n:Nat) (xs:List Value) (hv:a.eval s=v) (hown:w.ownsRow base e size v n xs) (u:Value) (m:Nat) (news:List Value) (hx:a.eval x=u) (hs:Src P size tx u m news w)
 (hfit:∀old,old<n+m→Builtin.nextslicecap (n+m) old*bytes≤281474976710656) (h63:n+m≤maxLen) (hbase:base≤w.heap.size)
 (h:∀A c w',w'.ownsRow base e size (.slice A (n+m) c) (n+m) (xs++news)→w.grownBy w' v.ownBlock →
  (Value.ownBlock (.slice A (n+m) c)=v.ownBlock∨Value.ownBlock (.slice A (n+m) c)=some w.heap.size)→K (a.put o.dst (.slice A (n+m) c)) w') :
 if Region.wanted o (yielded ops a.tmps)=true then Oper.wp P o a w K Q else E:=by
 have hw:Region.wanted o (yielded ops a.tmps)=true:=by simp[Region.wanted,hgd]
 rw[aD hw];exact Vt s x t tx ho base e i z size bytes ht hi hz hsize hby hzs v n xs hv hown u m news hx hs hfit h63 hbase h
theorem Bj{o:Oper}(hgd:o.guard=none)(s x:Operand)(t tx:TypeId)
 (ho:o.op=.call { callee:=.builtin .append,args:=#[s,x],argTypes:=#[t,tx] })
 (base:Nat) (e:TypeId) (i:TypeInfo) (z:Value) (size bytes:Nat) (ht:P.underlying t=some (.slice e)) (hi:P.info? e=some i) (hz:i.zero=some z)
 (hsize:i.size=size) (hby:i.bytes=bytes) (hzs:z.cells.size=size)
 (v:Value) (n:Nat) (xs:List Value) (hv:a.eval s=v) (hown:w.ownsRow base e size v n xs) (u:Value) (m:Nat) (news:List Value) (hx:a.eval x=u) (hs:Src P size tx u m news w)
 (hbytes:(n+m)*bytes≤140737488355328) (h63:n+m≤maxLen) (hbase:base≤w.heap.size)
 (h:∀A c w',w'.ownsRow base e size (.slice A (n+m) c) (n+m) (xs++news)→w.grownBy w' v.ownBlock →
  (Value.ownBlock (.slice A (n+m) c)=v.ownBlock∨Value.ownBlock (.slice A (n+m) c)=some w.heap.size)→wpList P ops Q rest (a.put o.dst (.slice A (n+m) c)) w'):wpList P ops Q (o::rest) a w:=
 Vu hgd s x t tx ho base e i z size bytes ht hi hz hsize hby hzs v n xs hv hown u m news hx hs (fun _ ho=>growslice_fits ho hbytes) h63 hbase h
theorem oa{o:Oper}(hgd:o.guard=none)(s x:Operand)(t tx:TypeId)
 (ho:o.op=.call { callee:=.builtin .append,args:=#[s,x],argTypes:=#[t,tx] })
 (base:Nat) (e:TypeId) (i:TypeInfo) (z:Value) (size bytes:Nat) (ht:P.underlying t=some (.slice e)) (hi:P.info? e=some i) (hz:i.zero=some z)
 (hsize:i.size=size) (hby:i.bytes=bytes) (hzs:z.cells.size=size)
 (v:Value) (n:Nat) (xs:List Value) (hv:a.eval s=v) (hown:w.ownsRow base e size v n xs) (u:Value) (m:Nat) (news:List Value) (hx:a.eval x=u) (hs:Src P size tx u m news w)
 (hbytes:(n+m)*bytes≤140737488355328) (h63:n+m≤maxLen) (hbase:base≤w.heap.size)
 (h:∀A c w',w'.ownsRow base e size (.slice A (n+m) c) (n+m) (xs++news)→w.grownBy w' v.ownBlock →
  (Value.ownBlock (.slice A (n+m) c)=v.ownBlock∨Value.ownBlock (.slice A (n+m) c)=some w.heap.size)→K (a.put o.dst (.slice A (n+m) c)) w') :
 if Region.wanted o (yielded ops a.tmps)=true then Oper.wp P o a w K Q else E:=
 Vv hgd s x t tx ho base e i z size bytes ht hi hz hsize hby hzs v n xs hv hown u m news hx hs (fun _ ho=>growslice_fits ho hbytes) h63 hbase h
end
end
section
open Go.RowKit
def le:List UInt8→Nat
 | []=>0
 | x::r=>x.toNat+256*le r
def kW(k n:Nat):List UInt8:=(List.range k).map fun i=>UInt8.ofNat (n / 256 ^ i)
theorem jJ(k n:Nat):(kW k n).length=k:=by simp[kW]
theorem acj(k n:Nat):kW (k+1) n=kW k n++[UInt8.ofNat (n / 256 ^ k)]:=by simp[kW,List.range_succ]
theorem py{α:Type}(l:List α)(k:Nat)(h:k<l.length):l.take (k+1)=l.take k++[l[k]]:=J2 h
theorem Oi(j:Nat):(2:Nat) ^ (8*j)=256 ^ j:=by rw[Nat.pow_mul]
theorem Oj(n j:Nat):((UInt8.ofNat (n / 256 ^ j)).toNat:Int)=((n / 256 ^ j % 256:Nat):Int):=by rw[Dc]
theorem Dt{α:Type}(g:α→Nat)(l:List α)(m k:Nat)(h:k<l.length):((l.take (k+1)).map g).foldl max m=max (((l.take k).map g).foldl max m) (g l[k]):=by
 rw[py l k h,l7,List.foldl_append];rfl
theorem Du(l:List Nat)(m k:Nat):l.foldl max m≤k↔m≤k∧∀x∈l,x≤k:=by
 induction l generalizing m with
 | nil=>simp
 | cons y l ih =>
  simp only[List.foldl_cons,ih,jI,forall_eq_or_imp];constructor
  ·rintro⟨h1,h2⟩;exact⟨by omega,by omega,h2⟩
  rintro⟨h1,h2,h3⟩;exact⟨by omega,h3⟩
theorem ze{α:Type}(g:α→List UInt8)(l:List α)(j:Nat)(h:j<l.length):((l.take (j+1)).map g).flatten=((l.take j).map g).flatten++g l[j]:=by
 rw[py l j h,l7,xJ];simp only[fN,nW,l8,Fz,oZ]
theorem zf{α:Type}(g:α→List UInt8)(l:List α)(j:Nat):((l.take j).map g).flatten.length≤(l.map g).flatten.length:=by
 have:l.map g=(l.take j).map g++(l.drop j).map g:=by rw[← l7,sO]
 rw[this,xJ,bp];omega
theorem Vw{α:Type}(g:α→List UInt8)(l:List α)(x:α)(h:x∈l):(g x).length≤(l.map g).flatten.length:=by
 obtain⟨a,b,rfl⟩:=List.append_of_mem h;simp;omega
theorem Vx{α:Type}(l:List α)(p:α→Bool):(l.attach.all fun x=>p x.1)=l.all p:=by rw[FA];simp
namespace V
def count:V→Nat
 | mk _ _ _ l f=>1+(l.attach.map fun x=>count x.1).sum+(f.attach.map fun x=>count x.1.2).sum
termination_by v=>SizeOf.sizeOf v
decreasing_by
 ·exact sV x.2
 exact sW x.2
theorem count_mk(k:Int)(n:Nat)(b:List UInt8)(l:List V)(f:List (ByteArray×V)):(mk k n b l f).count=1+(l.map count).sum+(f.map fun x=>x.2.count).sum:=by
 rw[count];simp only[Dd,De]
def most:V→Nat
 | mk _ _ _ l f=>(f.attach.map fun x=>most x.1.2).foldl max ((l.attach.map fun x=>most x.1).foldl max (max l.length f.length))
termination_by v=>SizeOf.sizeOf v
decreasing_by
 ·exact sV x.2
 exact sW x.2
theorem Ol(k:Int)(n:Nat)(b:List UInt8)(l:List V)(f:List (ByteArray×V)):(mk k n b l f).most=(f.map fun x=>x.2.most).foldl max ((l.map most).foldl max (max l.length f.length)):=by
 rw[most];simp only[Dd,De]
def depth:V→Nat
 | mk k _ _ l f=>(if k=7∨k=8 then 1 else 0)+(f.attach.map fun x=>depth x.1.2).foldl max ((l.attach.map fun x=>depth x.1).foldl max 0)
termination_by v=>SizeOf.sizeOf v
decreasing_by
 ·exact sV x.2
 exact sW x.2
theorem zg(k:Int)(n:Nat)(b:List UInt8)(l:List V)(f:List (ByteArray×V)):(mk k n b l f).depth=(if k=7∨k=8 then 1 else 0)+(f.map fun x=>x.2.depth).foldl max ((l.map depth).foldl max 0):=by
 rw[depth];simp only[Dd,De]
def item(s:ByteArray)(r:List UInt8):List UInt8:=UInt8.ofNat s.size::(s.data.toList++r)
def bytes:V→List UInt8
 | mk k n b l f=>UInt8.ofNat k.toNat ::
  (if k=2 then [UInt8.ofNat n] else if k=3∨k=4 then kW 8 n else if k=5∨k=6 then kW 2 b.length++b
   else if k=7 then UInt8.ofNat l.length::(l.attach.map fun x=>bytes x.1).flatten
   else if k=8 then UInt8.ofNat f.length::(f.attach.map fun x=>item x.1.1 (bytes x.1.2)).flatten else [])
termination_by v=>SizeOf.sizeOf v
decreasing_by
 ·exact sV x.2
 exact sW x.2
theorem xQ(k:Int)(n:Nat)(b:List UInt8)(l:List V)(f:List (ByteArray×V)):(mk k n b l f).bytes=UInt8.ofNat k.toNat ::
 (if k=2 then [UInt8.ofNat n] else if k=3∨k=4 then kW 8 n else if k=5∨k=6 then kW 2 b.length++b
  else if k=7 then UInt8.ofNat l.length::(l.map bytes).flatten
  else if k=8 then UInt8.ofNat f.length::(f.map fun x=>item x.1 x.2.bytes).flatten else []):=by
 rw[bytes];simp only[Dd,De]
def name(s:ByteArray):Bool:=decide (1≤s.size∧s.size≤32)&&s.data.toList.all (fun c=>decide (32≤c.toNat∧c.toNat≠46))&&Lib.validD s.data.toList
def own(k:Int)(n:Nat)(b:List UInt8)(nl nf:Nat):Bool:=
 decide (1≤k∧k≤8)&&decide (k=2∨k=3∨k=4∨n=0)&&decide (k=2→n≤1)&&decide (k=5∨k=6∨b.length=0)&&(decide (k≠5)||Lib.validD b)&&decide (k=7∨nl=0)&&decide (k=8∨nf=0)
def formed:V→Bool
 | mk k n b l f=>own k n b l.length f.length&&(l.attach.all fun x=>formed x.1)&&(f.attach.all fun x=>name x.1.1&&formed x.1.2)&&decide ((f.map Prod.fst).Nodup)
termination_by v=>SizeOf.sizeOf v
decreasing_by
 ·exact sV x.2
 exact sW x.2
theorem Vy(k:Int)(n:Nat)(b:List UInt8)(l:List V)(f:List (ByteArray×V)):(mk k n b l f).formed=(own k n b l.length f.length&&(l.all formed)&&(f.all fun x=>name x.1&&x.2.formed)&&decide ((f.map Prod.fst).Nodup)):=by
 rw[formed,Vx l formed,Vx f (fun x=>name x.1&&x.2.formed)]
theorem Om{k:Int}{n:Nat}{b:List UInt8}{l:List V}{f:List (ByteArray×V)}{x:V}(h:x∈l):x.depth≤(mk k n b l f).depth:=by
 rw[zg];have h1:=(Du (f.map fun x=>x.2.depth) ((l.map depth).foldl max 0) _).1 (au _);have h2:=(Du (l.map depth) 0 _).1 (au _);have:=h2.2 _ (List.mem_map_of_mem h);omega
theorem Oo{k:Int}{n:Nat}{b:List UInt8}{l:List V}{f:List (ByteArray×V)}{x:ByteArray×V}(h:x∈f):x.2.depth≤(mk k n b l f).depth:=by
 rw[zg];have h1:=(Du (f.map fun x=>x.2.depth) ((l.map depth).foldl max 0) _).1 (au _);have:=h1.2 _ (List.mem_map_of_mem (f:=fun x:ByteArray×V=>x.2.depth) h);omega
theorem Vz(l:List V):(mk 7 0 [] l []).depth=1+(l.map depth).foldl max 0:=by rw[zg];simp
theorem Oq(f:List (ByteArray×V)):(mk 8 0 [] [] f).depth=1+(f.map fun x=>x.2.depth).foldl max 0:=by rw[zg];simp
theorem VA(l:List V):(mk 7 0 [] l []).bytes=7::UInt8.ofNat l.length::(l.map bytes).flatten:=by rw[xQ];simp
theorem VB(f:List (ByteArray×V)):(mk 8 0 [] [] f).bytes=8::UInt8.ofNat f.length::(f.map fun x=>item x.1 x.2.bytes).flatten:=by rw[xQ];simp
theorem VC(s:ByteArray)(r:List UInt8):(item s r).length=1+s.size+r.length:=by
 simp only[item,aU,bp,xI];have:s.data.size=s.size:=rfl;omega
def good(v:V):Int:=if v.formed=false then 4 else if 64<v.most then 19 else if 16<v.depth then 3 else if 4096<v.bytes.length then 2 else 0
theorem VF{v:V}(h:v.formed=true):v=mk 1 0 [] [] []∨(∃n,n≤1∧v=mk 2 n [] [] [])∨(∃n,v=mk 3 n [] [] [])∨(∃n,v=mk 4 n [] [] []) ∨
 (∃b,Lib.validD b=true∧v=mk 5 0 b [] [])∨(∃b,v=mk 6 0 b [] [])∨(∃l,(∀x∈l,formed x=true)∧v=mk 7 0 [] l []) ∨
 (∃f:List (ByteArray×V),(∀x∈f,name x.1=true∧x.2.formed=true)∧(f.map Prod.fst).Nodup∧v=mk 8 0 [] [] f):=by
 obtain⟨k,n,b,l,f⟩:=v;rw[Vy] at h;simp only[own,ig,J3,iy,nY] at h;obtain⟨⟨⟨⟨⟨⟨⟨⟨⟨h1,h2⟩,h3⟩,h4⟩,h5⟩,h6⟩,h7⟩,hl⟩,hf⟩,hn⟩:=h;have hL:k≠7→l=[]:=fun hk=>l5 (by omega)
 have hF:k≠8→f=[]:=fun hk=>l5 (by omega)
 have hB:k≠5→k≠6→b=[]:=fun h1 h2=>l5 (by omega)
 have hN:k≠2→k≠3→k≠4→n=0:=fun h1 h2 h3=>by omega
 have hk:k=1∨k=2∨k=3∨k=4∨k=5∨k=6∨k=7∨k=8:=by omega
 rcases hk with rfl | rfl | rfl | rfl | rfl | rfl | rfl | rfl
 ·rw[hL (by decide),hF (by decide),hB (by decide) (by decide),hN (by decide) (by decide) (by decide)];exact .inl rfl
 ·rw[hL (by decide),hF (by decide),hB (by decide) (by decide)];exact .inr (.inl ⟨n,h3 rfl,rfl⟩)
 ·rw[hL (by decide),hF (by decide),hB (by decide) (by decide)];exact .inr (.inr (.inl ⟨n,rfl⟩))
 ·rw[hL (by decide),hF (by decide),hB (by decide) (by decide)];exact .inr (.inr (.inr (.inl ⟨n,rfl⟩)))
 ·rw[hL (by decide),hF (by decide),hN (by decide) (by decide) (by decide)];exact .inr (.inr (.inr (.inr (.inl ⟨b,h5.resolve_left (by decide),rfl⟩))))
 ·rw[hL (by decide),hF (by decide),hN (by decide) (by decide) (by decide)];exact .inr (.inr (.inr (.inr (.inr (.inl ⟨b,rfl⟩)))))
 ·rw[hF (by decide),hB (by decide) (by decide),hN (by decide) (by decide) (by decide)];exact .inr (.inr (.inr (.inr (.inr (.inr (.inl ⟨l,hl,rfl⟩))))))
 rw[hL (by decide),hB (by decide) (by decide),hN (by decide) (by decide) (by decide)];exact .inr (.inr (.inr (.inr (.inr (.inr (.inr ⟨f,hf,hn,rfl⟩))))))
end V
end
section
open Go.RowKit
theorem F6:(prog.info? 5).map (fun i=>(i.zero,i.size,i.bytes))=some (some (.int .u8 0),1,1):=by kernel_rfl
theorem fk:prog.underlying 23=some (.slice 5):=by kernel_rfl
theorem pz:prog.underlying 9=some .string:=by kernel_rfl
theorem ij{k:IntKind}{a b:Int}(h:a=b):Ending.returned (.int k a)=.returned (.int k b):=by rw[h]
theorem bh.at_{b:List UInt8}(h:bh w A b)(j:Nat)(hj:j<b.length):∃bk o,A=some ⟨bk,o,none⟩∧bk<w.heap.size∧w.cell? ⟨bk,o+j,none⟩=some (.int .u8 (b[j].toNat:Int)):=by
 obtain⟨bk,o,e,hc⟩:=h.2 (by omega);have:=hc j _ (wE b j hj);exact⟨bk,o,e,this.2.2,this.1⟩
def ack(w:World)(v v':Value):Prop:=v'.ownBlock=v.ownBlock∨∃g,v'.ownBlock=some g∧w.heap.size≤g
theorem Src.one(u:Value)(h1:u.oneCell'=true)(e:TypeId):Src prog 1 23 (.slice (some ⟨w.heap.size,0,none⟩) 1 1) 1 [u] (w.alloc (.cells #[u] e)):=
 Src.ofSlice _ fk ⟨w.heap.size,0,none⟩ 1 1 [u] rfl (cell_one_new w u e) (fun x hx=>by simp at hx;subst hx;exact h1)
theorem acm(b:List UInt8)(x:UInt8):b_ b++[.int .u8 (x.toNat:Int)]=b_ (b++[x]):=by simp[b_]
def Row(w:World)(base:Nat)(v:Value)(m:Nat)(xs:List UInt8):Prop:=w.ownsRow base 5 1 v m (b_ xs)
structure wF (w:World) (v:Value) (w':World) (v':Value):Prop where
 grow:w.grownBy w' v.ownBlock
 lies:ack w v v'
theorem wF.size(h:wF w v w' v'):w.heap.size≤w'.heap.size:=h.grow.size
theorem Row.alloc{xs:List UInt8}(h:Row w base v m xs)(o:Obj):Row (w.alloc o) base v m xs:=FC h o
theorem Row.drew{xs:List UInt8}(h:Row w base v m xs):Row w.drew base v m xs:=h
theorem Row.grow{xs:List UInt8}(h:Row w base v m xs)(hg:Grow w w'):Row w' base v m xs:=
 o_ h (row:=none) ⟨hg.os,hg.tape,hg.output,hg.size,fun k hk _=>hg.below.block k hk⟩ (by cases v.ownBlock<;>simp)
theorem wF.below{xs:List UInt8}(h:wF w v w' v')(hr:Row w base v m xs)(hb:base≤w.heap.size):Below base w w':=
 (jH base w).grown h.grow hb (fun k hk=>(bJ hr k hk).1)
theorem wF.blk(h:wF w v w' v')(hb:Blk w g t cs)(hne:v.ownBlock≠some g):Blk w' g t cs:=
 (h.grow.block g hb.lt (fun e=>hne e.symm)).trans hb
theorem Row.ne{xs:List UInt8}(h:Row w base v m xs)(hb:Blk w g t cs)(ht:t≠5):v.ownBlock≠some g:=by
 rcases h.2 with ⟨rfl,_⟩ | ⟨g',cap,cur,rfl,_,hh,_⟩
 ·simp[Value.ownBlock]
 intro he;have:g'=g:=by simpa [Value.ownBlock] using he
 subst this;unfold Blk at hb;rw[hh] at hb;injection hb with hb;injection hb with _ e;exact ht e.symm
theorem Row.made(cur:Array Value)(cap:Nat)(hm:cap≤maxLen)(hs:cur.size=cap):Row (w.alloc (.cells cur 5)) w.heap.size (.slice (some ⟨w.heap.size,0,none⟩) 0 cap) 0 []:=
 xK w cur cap (au _) hm (by omega)
theorem Row.reads{xs:List UInt8}(h:Row w base (.slice A m c) m xs):bh w A xs∧xs.length=m:=by
 have hl:xs.length=m:=by simpa [b_] using h.1
 refine⟨⟨by rw[Ds,sP],fun hn=>?_⟩,hl⟩;obtain⟨g,cap,hv,_,hlt⟩:=World.ownsRow.form h (by omega);have hA:A=some ⟨g,0,none⟩:=by injection hv
 subst hA;refine⟨g,0,rfl,fun j u hu=>⟨?_,aR _,hlt⟩⟩;rw[← add_lit];exact FE h (g:=g) rfl j u hu
section
variable {w:World} {ops:Array Oper} {rest:List Oper} {o:Oper} {a:Act} {Q:Exit→Act→World→Prop}
theorem gA(hgd:o.guard=none)(s x:Operand)(tx:TypeId)
 (ho:o.op=.call { callee:=.builtin .append,args:=#[s,x],argTypes:=#[23,tx] })
  {xs:List UInt8} (hv:a.eval s=.slice A m c) (hrow:Row w base (.slice A m c) m xs) (u:Value) (hx:a.eval x=u) (hs:Src prog 1 tx u ys.length (b_ ys) w)
 (hbytes:m+ys.length≤140737488400000) (hbase:base≤w.heap.size)
 (h:∀A' c' w',Row w' base (.slice A' (m+ys.length) c') (m+ys.length) (xs++ys)→wF w (.slice A m c) w' (.slice A' (m+ys.length) c')→wpList prog ops Q rest (a.put o.dst (.slice A' (m+ys.length) c')) w'):wpList prog ops Q (o::rest) a w:=by
 obtain⟨i0,hi0,hz0,hz1,hz2⟩:=info_parts F6;refine Vu hgd s x _ tx ho base 5 i0 _ 1 1 fk hi0 hz0 hz1 hz2 rfl _ m _ hv hrow u ys.length _ hx hs (fun _ ho=>Vs ho hbytes) (by simp only[maxLen];omega) hbase (fun A' c' w' h2 h3 h4=>h A' c' w' ?_ ⟨h3,?_⟩)
 ·unfold Row;rw[Vp];exact h2
 rcases h4 with h4 | h4
 ·exact .inl h4
 exact .inr ⟨_,h4,au _⟩
theorem pB(hgd:o.guard=none)(s x:Operand)(tx:TypeId)
 (ho:o.op=.call { callee:=.builtin .append,args:=#[s,x],argTypes:=#[23,tx] })
  {xs:List UInt8} (hv:a.eval s=.slice A m c) (hrow:Row w base (.slice A m c) m xs) (u:Value) (hx:a.eval x=u) (hs:Src prog 1 tx u ys.length (b_ ys) w)
 (hbytes:m+ys.length≤140737488400000) (hbase:base≤w.heap.size)
 (h:∀A' c' w',Row w' base (.slice A' (m+ys.length) c') (m+ys.length) (xs++ys)→wF w (.slice A m c) w' (.slice A' (m+ys.length) c')→K (a.put o.dst (.slice A' (m+ys.length) c')) w') :
 if Region.wanted o (yielded ops a.tmps)=true then Oper.wp prog o a w K Q else E:=by
 obtain⟨i0,hi0,hz0,hz1,hz2⟩:=info_parts F6;refine Vv hgd s x _ tx ho base 5 i0 _ 1 1 fk hi0 hz0 hz1 hz2 rfl _ m _ hv hrow u ys.length _ hx hs (fun _ ho=>Vs ho hbytes) (by simp only[maxLen];omega) hbase (fun A' c' w' h2 h3 h4=>h A' c' w' ?_ ⟨h3,?_⟩)
 ·unfold Row;rw[Vp];exact h2
 rcases h4 with h4 | h4
 ·exact .inl h4
 exact .inr ⟨_,h4,au _⟩
end
theorem lD(b:UInt8)(he:(b.toNat:Int)=e)(hb:Blk w g 5 #[.int .u8 e]):Src prog 1 23 (.slice (some ⟨g,0,none⟩) 1 1) [b].length (b_ [b]) w:=by
 refine Src.ofSlice w fk ⟨g,0,none⟩ 1 1 (b_ [b]) rfl (fun j u hu=>?_) (iI _);rw[add_lit,eo,hb.cell]
 match j,hu with
 | 0,hu=>simp[b_] at hu ⊢;rw[← hu,he]
theorem Kv(n size:Nat)(w:World)(_hn:n<18446744073709551616)(hs:size≤8) :
 Calls prog 152 #[.int .u64 n,.int .i64 size] w fun e w'=>∃A' c',e=.returned (.slice A' size c')∧Row w' w.heap.size (.slice A' size c') size (kW size n)∧Grow w w':=by
 obtain⟨i0,hi0,hz0,hz1,hz2⟩:=info_parts F6;have qs:=aa hi0;have qu:=aa hz0;have qw:=aa hz1;have qx:=aa hz2;clear hi0 hz0 hz1 hz2;go_enter func152,ntmps152;go_wp2_with fail;go_loopg [5,6] (size+1) (fun gk v' i wr=>∃(j:Nat) (A':Option Addr) (c':Nat),j≤size∧gk+j=size+1∧i=.int .i64 j∧v'=.slice A' j c'∧wr.ownsRow w.heap.size 5 1 (.slice A' j c') j (b_ (kW j n))∧Grow w wr);exact⟨0,none,0,by omega,by omega,rfl,rfl,jb _ _ _ _,Grow.refl _⟩;obtain⟨j,A',c',hj,hg,rfl,rfl,hown,hgr⟩:=hrel;obtain⟨gk',rfl⟩:=bz gk (by omega);have hz:=hgr.size;by_cases hlt:j<size
 ·have HO:=aa hown;have HG:=aa hgr;clear hown hgr;have hB:Hid (b_ (kW j n)++[.int .u8 ((n:Int) / 2 ^ (8*j) % 256)]=b_ (kW (j+1) n)):=by
   show _=_;rw[acj,← acm,Oj,← Oi];rfl
  go_wp2_with (at_builtin;refine Bj rfl (.tmp 12) (.tmp 19) _ _ rfl w.heap.size 5 i0 _ 1 1 fk qs.o qu.o qw.o qx.o rfl (.slice A' j c') j _ rfl (HO.o.alloc _) _ 1 _ rfl (Src.one _ rfl _) (by omega) (by simp only[maxLen];omega) (by simp;omega) ?_;intro A2 c2 w2 hown2 VG acn);rw[hB.o] at hown2;have HG2:=aa ((HG.o.alloc _).grown VG (fun k hk=>(HO.o.lt k hk).1));have HO2:=aa hown2;clear hown2 VG acn HG HO hB;go_wp2_with fail;go_roundg gk';exact⟨j+1,A2,c2,by omega,by omega,by go_num,rfl,HO2.o,HG2.o⟩;omega
 obtain rfl:j=size:=by omega
 have HO:=aa hown;have HG:=aa hgr;clear hown hgr hg hlt;go_wp2_with fail;go_ret;exact⟨A',c',rfl,HO.o,HG.o⟩
end
section
open Go.RowKit
abbrev thrown(e:Int):List PanicEntry:=[{ v:=.iface 29 (.int .i64 e),recovered:=false }]
theorem aco(b:List UInt8)(n:Nat):b_ (b.take n)=(b_ b).take n:=by simp[b_]
theorem acp(b:List UInt8)(n:Nat):b_ (b.drop n)=(b_ b).drop n:=by simp[b_]
theorem Reads.acq{n:Nat}(h:Reads C 1 A n xs)(k:Nat)(hk:k≤n):Reads C 1 A k (xs.take k):=by
 refine⟨by rw[dU,h.1,sP,sP];omega,fun hn=>?_⟩;obtain⟨bk,o,e,hc⟩:=h.2 (by omega);refine⟨bk,o,e,fun j u hu=>hc j u ?_⟩;rw[Df] at hu;split at hu
 ·exact hu
 cases hu
end
abbrev ah:=@Grow.refl
abbrev az:=@Blk.new
abbrev cM:=@Blk.new'
abbrev dX:=@IsV.mono
abbrev ej:=@wF.below
abbrev eU:=@bQ.below
abbrev eV:=@Reads.mono
abbrev eW:=@Src.ach
abbrev iP:=@V.xQ
abbrev mg:=@dW.open
abbrev oc:=@In.grow
abbrev sY:=@Row.ne
abbrev sZ:=@V.count_mk
abbrev tj:=@V.Vy
abbrev tq:=@V.VF
abbrev wG:=@Grow.trans
abbrev Dv:=@Grow.alloc
abbrev Dw:=@Row.grow
abbrev Bk:=@V.VB
abbrev Dx:=@V.VA
abbrev Dy:=@V.VC
section
open Go.RowKit
theorem Dz:prog.underlying 5=some (.int .u8):=by kernel_rfl
theorem rD{b:List UInt8}(c:Nat)(h:Reads (bQ w lo hi) 1 A b.length (b_ b)) :
 (convert 23 9 (.slice A b.length c)).run prog w=.ok (.string ⟨b.toArray⟩) w:=by
 rcases AU b.length with h0 | h0
 ·have:b=[]:=l5 h0;subst this;rcases A with _ | ad
  ·exact Lib.run_convert_nil_bytes w _ _ _ c fk Dz pz
  exact run_convert_bytes_back w _ _ _ ad c [] fk Dz pz (fun j hj=>absurd hj (by simp))
 obtain⟨bk,o,rfl,hc⟩:=h.2 h0;refine run_convert_bytes_back w _ _ _ _ c b fk Dz pz (fun j hj=>?_);rw[add_lit];exact(hc j _ (wE b j hj)).1
open Classical in
noncomputable def pC(a b:V):Bool:=decide (a=b)
theorem acr(a:V):pC a a=true:=by simp[pC]
theorem DA{a b:V}(h:a≠b):pC a b=false:=by simp[pC,h]
theorem Ot{a b:V}:pC a b=true↔a=b:=by simp[pC]
theorem Bl(a b:ByteArray):(a.toList==b.toList)=true↔a=b:=by rw[← beq_toListBytes];exact MapKept.bytes_beq a b
theorem dw{a b:Bool}(h:a=b):Ending.returned (.bool a)=.returned (.bool b):=by rw[h]
theorem VH{α:Type}{l l':List α}(hl:l.length=l'.length)(h:∀i (h1:i<l.length) (h2:i<l'.length),l[i]=l'[i]):l=l':=List.ext_getElem hl h
theorem acs(k k':Int)(n n':Nat)(b b':List UInt8)(l l':List V)(f f':List (ByteArray×V))(c c':Cv)(w:World)(hv:In w (.mk k n b l f) c)(hv':In w (.mk k' n' b' l' f') c')
 (hne:k≠k'∨n≠n'∨b≠b'∨l.length≠l'.length∨f.length≠f'.length) :
 Calls prog 26 #[c.agg,c'.agg] w fun e w'=>e=.returned (.bool false)∧Grow w w':=by
 obtain⟨aB,aL,aF,cB,cL,cF,rfl,h1,h2,h3,h4,h5,h6,h7,h8,h9,hb⟩:=hv.open;obtain⟨rE,uC,uD,rF,uE,uF,rfl,h1',h2',h3',h4',rG,h6',Kw,xR,Ky,hb'⟩:=hv'.open;have hc1:∀o1 o2:Obj,(convert 23 9 (.slice aB b.length cB)).run prog ((w.alloc o1).alloc o2)=.ok (.string ⟨b.toArray⟩) ((w.alloc o1).alloc o2):=fun o1 o2=>rD _ (hb.grow (((ah w).alloc o1).alloc o2))
 have hc2:∀o1 o2:Obj,(convert 23 9 (.slice rE b'.length rF)).run prog ((w.alloc o1).alloc o2)=.ok (.string ⟨b'.toArray⟩) ((w.alloc o1).alloc o2):=fun o1 o2=>rD _ (hb'.grow (((ah w).alloc o1).alloc o2))
 clear hv hv' hb hb' h1 h2 h3 h4 h5 h6 h7 h8 h9 h1' h2' h3' h4' rG h6' Kw xR Ky;by_cases e1:k=k'
 ·by_cases e2:n=n'
  ·by_cases e3:b=b'
   ·have od:=((hne.resolve_left (fun h=>h e1)).resolve_left (fun h=>h e2)).resolve_left (fun h=>h e3);clear hne;subst e1 e2 e3;by_cases e4:l.length=l'.length
    ·have e5:f.length≠f'.length:=od.resolve_left (fun h=>h e4);have t4:((l.length:Int) != (l'.length:Int))=false:=by simp[e4]
     have t5:((f.length:Int) != (f'.length:Int))=true:=by simp;omega
     clear od e4 e5;go_enter func26,ntmps26;go_wp2_with fail;go_ret;exact⟨rfl,((ah w).alloc _).alloc _⟩
    have t4:((l.length:Int) != (l'.length:Int))=true:=by simp;omega
    clear od e4;go_enter func26,ntmps26;go_wp2_with fail;go_ret;exact⟨rfl,((ah w).alloc _).alloc _⟩
   subst e1 e2;have t3:(b==b')=false:=by simpa using e3
   clear hne e3;go_enter func26,ntmps26;go_wp2_with fail;go_ret;exact⟨rfl,((ah w).alloc _).alloc _⟩
  subst e1;have t2:((n:Int) != (n':Int))=true:=by simp;omega
  clear hne e2;go_enter func26,ntmps26;go_wp2_with fail;go_ret;exact⟨rfl,((ah w).alloc _).alloc _⟩
 have t1:(k != k')=true:=by simpa using e1
 clear hne e1;go_enter func26,ntmps26;go_wp2_with fail;go_ret;exact⟨rfl,((ah w).alloc _).alloc _⟩
def Ou(x:V):Prop:=∀(y:V) (w:World) (c c':Cv),In w x c→In w y c' →
 Calls prog 26 #[c.agg,c'.agg] w fun e w'=>e=.returned (.bool (pC x y))∧Grow w w'
theorem acu(k:Int)(n:Nat)(b:List UInt8)(l l':List V)(f f':List (ByteArray×V))(c c':Cv)(w:World)(hv:In w (.mk k n b l f) c)(hv':In w (.mk k n b l' f') c')
 (hll:l.length=l'.length) (lF:f.length=f'.length) (hl:∀x∈l,Ou x) (hf:∀x∈f,Ou x.2) :
 Calls prog 26 #[c.agg,c'.agg] w fun e w'=>e=.returned (.bool (pC (.mk k n b l f) (.mk k n b l' f')))∧Grow w w':=by
 obtain⟨aB,aL,aF,cB,cL,cF,rfl,h1,h2,h3,h4,h5,h6,h7,h8,h9,hb⟩:=hv.open;obtain⟨rE,uC,uD,rF,uE,uF,rfl,h1',h2',h3',h4',rG,h6',Kw,xR,Ky,hb'⟩:=hv'.open;have hc1:∀o1 o2:Obj,(convert 23 9 (.slice aB b.length cB)).run prog ((w.alloc o1).alloc o2)=.ok (.string ⟨b.toArray⟩) ((w.alloc o1).alloc o2):=fun o1 o2=>rD _ (hb.grow (((ah w).alloc o1).alloc o2))
 have hc2:∀o1 o2:Obj,(convert 23 9 (.slice rE b.length rF)).run prog ((w.alloc o1).alloc o2)=.ok (.string ⟨b.toArray⟩) ((w.alloc o1).alloc o2):=fun o1 o2=>rD _ (hb'.grow (((ah w).alloc o1).alloc o2))
 have HV:=aa hv;have zh:=aa hv';have Hl:=aa hl;have Hf:=aa hf;have t4:((l.length:Int) != (l'.length:Int))=false:=by simp[hll]
 have t5:((f.length:Int) != (f'.length:Int))=false:=by simp[lF]
 have amZ:l.length≤l'.length:=by omega
 have am0:f.length≤f'.length:=by omega
 have Kz:=aa hll;have jg:=aa lF;clear hv hv' hb hb' h1 h2 h3 h4 h5 h6 h8 h1' h2' h3' h4' rG h6' xR hl hf hll lF;go_enter func26,ntmps26;go_wp2_with fail;clear hc1 hc2 t4 t5;go_loopg [5] (l.length+1) (fun gk i wr=>∃j:Nat,j≤l.length∧gk+j=l.length+1∧i=.int .i64 j∧(∀i (h1:i<l.length) (h2:i<l'.length),i<j→l[i]=l'[i])∧Grow w wr ∧
  Blk wr w.heap.size 27 (Cv.cells ⟨k,(n:Int),aB,b.length,cB,aL,l.length,cL,aF,f.length,cF⟩)∧Blk wr (w.heap.size+1) 27 (Cv.cells ⟨k,(n:Int),rE,b.length,rF,uC,l'.length,uE,uD,f'.length,uF⟩))
 exact⟨0,by omega,by omega,rfl,fun i _ _ h=>absurd h (by omega),((ah w).alloc _).alloc _,(az _ _ _).alloc _,cM (by simp) _ _⟩;obtain⟨j,hj,hg,rfl,heq,hw,hB,hB'⟩:=hrel;obtain⟨gk',rfl⟩:=bz gk (by omega);have hc3:=hB.cell;have Bn:=hB'.cell;have HW:=aa hw;have tu:=aa heq;have HB:=aa hB;have jh:=aa hB';by_cases hlt:j<l.length
 ·have hlt':j<l'.length:=by omega
  obtain⟨bk,o,x,ha,hbk,e0,e1,e2,e3,e4,hx⟩:=(HV.o.grow hw).fh j hlt;obtain⟨pD,o',x',ha',og,uG,xS,e2',e3',Bo,hx'⟩:=(zh.o.grow hw).fh j hlt';dsimp only at ha ha';subst ha ha';have HX:=aa hx;have xU:=aa hx';have tv:=aa (Hl.o _ (aS hlt));clear hw hx hx' hB hB' heq;have hz0:w.heap.size<wr.heap.size:=HB.o.lt;have hz1:w.heap.size+1<wr.heap.size:=jh.o.lt;by_cases he:l[j]=l'[j]
  ·have hs:pC l[j] l'[j]=true:=Ot.2 he;have HE:=aa he;clear he;go_wp2_with fail;go_region_held3 (fun w'=>∀b o,b<wr.heap.size→w'.cell? ⟨b,o,none⟩=wr.cell? ⟨b,o,none⟩) (first | exact fun _ _ _=>rfl | exact fun b o h=>hgr.below.cell (p:=⟨b,o,none⟩) h)
    (first | (go_at_call 26;refine(tv.o _ _ x x' (HX.o.grow (ah wr).drew) (xU.o.grow (ah wr).drew)).mono ?_;rintro e w2 ⟨rfl,hb2⟩;have hgr:Grow wr w2:=(ah wr).drew.trans hb2))
   have aJ:=aa hgr;clear hgr hb2;go_wp2_with fail;go_roundg gk';refine⟨j+1,by omega,by omega,by go_num,fun i h1 h2 h3=>?_,HW.o.trans aJ.o,HB.o.grow aJ.o,jh.o.grow aJ.o⟩;rcases gp i j with h | h
   ·exact tu.o i h1 h2 h
   obtain rfl:i=j:=by omega
   exact HE.o;omega
  have hs:pC l[j] l'[j]=false:=DA he;have HE:=aa he;clear he;go_wp2_with fail;go_region_held3 (fun w'=>∀b o,b<wr.heap.size→w'.cell? ⟨b,o,none⟩=wr.cell? ⟨b,o,none⟩) (first | exact fun _ _ _=>rfl | exact fun b o h=>hgr.below.cell (p:=⟨b,o,none⟩) h)
   (first | (go_at_call 26;refine(tv.o _ _ x x' (HX.o.grow (ah wr).drew) (xU.o.grow (ah wr).drew)).mono ?_;rintro e w2 ⟨rfl,hb2⟩;have hgr:Grow wr w2:=(ah wr).drew.trans hb2))
  have aJ:=aa hgr;clear hgr hb2;go_wp2_with fail;go_ret;refine⟨dw (DA (fun h=>HE.o ?_)).symm,HW.o.trans aJ.o⟩;injection h with _ _ _ h _;subst h;rfl
 obtain rfl:j=l.length:=by omega
 have hll:l=l':=VH Kz.o (fun i h1 h2=>tu.o i h1 h2 h1);clear hw hB hB' heq tu;go_wp2_with fail;go_loopg [6] (f.length+1) (fun gk i wr=>∃j:Nat,j≤f.length∧gk+j=f.length+1∧i=.int .i64 j∧(∀i (h1:i<f.length) (h2:i<f'.length),i<j→f[i]=f'[i])∧Grow w wr ∧
  Blk wr w.heap.size 27 (Cv.cells ⟨k,(n:Int),aB,b.length,cB,aL,l.length,cL,aF,f.length,cF⟩)∧Blk wr (w.heap.size+1) 27 (Cv.cells ⟨k,(n:Int),rE,b.length,rF,uC,l'.length,uE,uD,f'.length,uF⟩))
 exact⟨0,by omega,by omega,rfl,fun i _ _ h=>absurd h (by omega),HW.o,HB.o,jh.o⟩;obtain⟨j,hj,hg,rfl,heq,hw,hB,hB'⟩:=hrel;obtain⟨gk',rfl⟩:=bz gk (by omega);clear hc3 Bn;have iz:=hB.cell;have am1:=hB'.cell;have HW:=aa hw;have tu:=aa heq;have HB:=aa hB;have jh:=aa hB';have HLq:=aa hll;clear hll;by_cases hlt:j<f.length
 ·have hlt':j<f'.length:=by omega
  obtain⟨bk,o,x,ha,hbk,es,ik,e0,e1,e2,e3,e4,hx⟩:=(HV.o.grow hw).gX j hlt;obtain⟨pD,o',x',ha',og,es',DC,uG,xS,e2',e3',Bo,hx'⟩:=(zh.o.grow hw).gX j hlt';dsimp only at ha ha';subst ha ha';have HX:=aa hx;have xU:=aa hx';have VI:=aa (Hf.o _ (aS hlt));have hz0:w.heap.size<wr.heap.size:=HB.o.lt;have hz1:w.heap.size+1<wr.heap.size:=jh.o.lt;clear hw hx hx' hB hB' heq ik DC;by_cases hn:f[j].1=f'[j].1
  ·have rH:(f[j].1.toList==f'[j].1.toList)=true:=(Bl _ _).2 hn;have qy:(f[j].1.toList != f'[j].1.toList)=false:=by rw[bne,rH];rfl
   have HN:=aa hn;clear hn;by_cases he:f[j].2=f'[j].2
   ·have hs:pC f[j].2 f'[j].2=true:=Ot.2 he;have HE:=aa he;clear he;go_wp2_with fail;go_region_held3 (fun w'=>∀b o,b<wr.heap.size→w'.cell? ⟨b,o,none⟩=wr.cell? ⟨b,o,none⟩) (first | exact fun _ _ _=>rfl | exact fun b o h=>hgr.below.cell (p:=⟨b,o,none⟩) h)
     (first | (go_at_call 26;refine(VI.o _ _ x x' (HX.o.grow (ah wr).drew) (xU.o.grow (ah wr).drew)).mono ?_;rintro e w2 ⟨rfl,hb2⟩;have hgr:Grow wr w2:=(ah wr).drew.trans hb2))
    have aJ:=aa hgr;clear hgr hb2;go_wp2_with fail;go_roundg gk';refine⟨j+1,by omega,by omega,by go_num,fun i h1 h2 h3=>?_,HW.o.trans aJ.o,HB.o.grow aJ.o,jh.o.grow aJ.o⟩;rcases gp i j with h | h
    ·exact tu.o i h1 h2 h
    obtain rfl:i=j:=by omega
    exact Prod.ext HN.o HE.o;omega
   have hs:pC f[j].2 f'[j].2=false:=DA he;have HE:=aa he;clear he;go_wp2_with fail;go_region_held3 (fun w'=>∀b o,b<wr.heap.size→w'.cell? ⟨b,o,none⟩=wr.cell? ⟨b,o,none⟩) (first | exact fun _ _ _=>rfl | exact fun b o h=>hgr.below.cell (p:=⟨b,o,none⟩) h)
    (first | (go_at_call 26;refine(VI.o _ _ x x' (HX.o.grow (ah wr).drew) (xU.o.grow (ah wr).drew)).mono ?_;rintro e w2 ⟨rfl,hb2⟩;have hgr:Grow wr w2:=(ah wr).drew.trans hb2))
   have aJ:=aa hgr;clear hgr hb2;go_wp2_with fail;go_ret;refine⟨dw (DA (fun h=>HE.o ?_)).symm,HW.o.trans aJ.o⟩;injection h with _ _ _ _ h;subst h;rfl
  have rH:(f[j].1.toList==f'[j].1.toList)=false:=by
   rw[J7];exact fun h=>hn ((Bl _ _).1 h)
  have qy:(f[j].1.toList != f'[j].1.toList)=true:=by rw[bne,rH];rfl
  have HN:=aa hn;clear hn;go_wp2_with fail;go_quiet (fail);go_wp2_with fail;go_ret;refine⟨dw (DA (fun h=>HN.o ?_)).symm,HW.o.drewN _⟩;injection h with _ _ _ _ h;subst h;rfl
 obtain rfl:j=f.length:=by omega
 have lF:f=f':=VH jg.o (fun i h1 h2=>tu.o i h1 h2 h1);have HFq:=aa lF;clear hw hB hB' heq tu lF;go_wp2_with fail;go_ret;exact⟨dw (by rw[HLq.o,HFq.o,acr]),HW.o⟩
theorem VJ(x:V):Ou x:=by
 induction x using V.ind with
 | h k n b l f hl hf =>
  intro y w c c' hv hv';obtain⟨k',n',b',l',f'⟩:=y;by_cases hne:k≠k'∨n≠n'∨b≠b'∨l.length≠l'.length∨f.length≠f'.length
  ·refine(acs k k' n n' b b' l l' f f' c c' w hv hv' hne).mono ?_;rintro e w' ⟨rfl,hg⟩;refine⟨dw (DA (fun h=>?_)).symm,hg⟩;injection h with h1 h2 h3 h4 h5;subst h1 h2 h3 h4 h5;simp at hne
  have h1:k=k':=AY fun h=>hne (.inl h)
  have h2:n=n':=AY fun h=>hne (.inr (.inl h))
  have h3:b=b':=AY fun h=>hne (.inr (.inr (.inl h)))
  have h4:l.length=l'.length:=AY fun h=>hne (.inr (.inr (.inr (.inl h))))
  have h5:f.length=f'.length:=AY fun h=>hne (.inr (.inr (.inr (.inr h))))
  clear hne;subst h1 h2 h3;exact acu k n b l l' f f' c c' w hv hv' h4 h5 hl hf
theorem In.KA(w:World):In w V.zero Cv.zero:=by
 unfold In V.zero;rw[IsV];exact⟨rfl,rfl,rfl,rfl,rfl,by omega,by omega,by omega,by simp,by simp,by simp,by simp,by simp,by simp,⟨rfl,fun h=>absurd h (by simp)⟩,fun i h=>absurd h (by simp),fun i h=>absurd h (by simp)⟩
end
section
open Go.RowKit
theorem DD{α:Type}(g:α→Nat)(l:List α)(j:Nat)(h:j<l.length):((l.take (j+1)).map g).sum=((l.take j).map g).sum+g l[j]:=by
 rw[py l j h,l7,J8];simp
theorem Bp{α:Type}(g:α→Nat)(l:List α)(j:Nat):((l.take j).map g).sum≤(l.map g).sum:=by
 have:l.map g=(l.take j).map g++(l.drop j).map g:=by rw[← l7,sO]
 rw[this,J8];omega
theorem V.F7(v:V):1≤v.count:=by obtain⟨k,n,b,l,f⟩:=v;rw[sZ];omega
theorem Ov{k:IntKind}{a b:Int}{p q:Bool}(h:a=b)(h':p=q):Ending.returned (.tuple #[.int k a,.bool p])=.returned (.tuple #[.int k b,.bool q]):=by rw[h,h']
def acv(w:World)(n:Nat)(left:Int)(e:Ending)(w':World):Prop:=
 ∃r:Int,e=.returned (.tuple #[.int .i64 r,.bool (decide ((n:Int)<left))])∧((n:Int)<left→r=left-n)∧Grow w w'
theorem VK(v:V):∀(left:Int) (w:World) (c:Cv),1≤left→left≤20000→In w v c →
 Calls prog 34 #[c.agg,.int .i64 left] w (acv w v.count left):=by
 induction v using V.ind with
 | h k n b l f hl hf =>
  intro left w c tz hl2 hv;have HV:=aa hv;obtain⟨aB,aL,aF,cB,cL,cF,rfl,h1,h2,h3,h4,h5,h6,h7,h8,h9,hb⟩:=hv.open;have Hl:=aa hl;have Hf:=aa hf;rw[sZ];obtain⟨SL,DG⟩:∃SL,SL=(l.map V.count).sum:=⟨_,rfl⟩;obtain⟨SF,Ow⟩:∃SF,SF=(f.map fun x=>x.2.count).sum:=⟨_,rfl⟩;rw[← DG,← Ow];have rI:=aa DG;have Ox:=aa Ow;clear hb h1 h2 h3 hl hf h4 h5 hv DG Ow;go_enter func34,ntmps34;go_wp2_with fail;go_loopg [1,6] (l.length+1) (fun gk t i wr=>∃(j:Nat) (T:Int),j≤l.length∧gk+j=l.length+1∧i=.int .i64 j∧t=.int .i64 T∧0≤T∧T≤left∧T+1+((((l.take j).map V.count).sum:Nat):Int)=left∧Grow w wr ∧
   Blk wr w.heap.size 27 (Cv.cells ⟨k,(n:Int),aB,b.length,cB,aL,l.length,cL,aF,f.length,cF⟩))
  exact⟨0,left-1,by omega,by omega,rfl,rfl,by omega,by omega,by simp,(ah w).alloc _,az _ _ _⟩;obtain⟨j,T,hj,hg,rfl,rfl,hT0,F8,rJ,hw,hB⟩:=hrel;obtain⟨gk',rfl⟩:=bz gk (by omega);have hc3:=hB.cell;have HW:=aa hw;have HB:=aa hB;have gi:=aa rJ;clear rJ;by_cases hgo:j<l.length∧0<T
  ·obtain⟨hlt,hTp⟩:=hgo;obtain⟨bk,o,x,ha,hbk,e0,e1,e2,e3,e4,hx⟩:=(HV.o.grow hw).fh j hlt;dsimp only at ha;subst ha;have hs:=DD V.count l j hlt;have HS:=aa hs;have hle:=Bp V.count l (j+1);rw[hs,← rI.o] at hle;have HX:=aa hx;have DI:=V.F7 l[j];have HC:=aa (Hl.o _ (aS hlt) T wr x (by omega) (by omega) hx);clear hw hx hB hs;go_wp2_with fail;refine HC.o.mono ?_;rintro e w2 ⟨r,rfl,hr,hb2⟩;have aJ:=aa hb2;clear hb2;have iz:=(HB.o.grow aJ.o).cell;by_cases dO:((l[j].count:Nat):Int)<T
   ·have hd:decide (((l[j].count:Nat):Int)<T)=true:=cj dO;have HR:=aa (hr dO);clear hr;go_wp2_with fail;go_roundg gk';have h1:=HR.o;have h2:=gi.o;have h3:=HS.o;exact⟨j+1,r,by omega,by omega,by go_num,rfl,by omega,by omega,by rw[h3];push_cast;omega,HW.o.trans aJ.o,HB.o.grow aJ.o⟩;omega
   have hd:decide (((l[j].count:Nat):Int)<T)=false:=cm dO;clear hr;go_wp2_with fail;go_ret2;have h2:=gi.o;have hfin:¬ (((1+SL+SF:Nat):Int)<left):=by push_cast;omega
   exact⟨0,Ov rfl (cm hfin).symm,fun h=>absurd h hfin,HW.o.trans aJ.o⟩
  have hpost:∃T':Int,T'=T∧((T'+1+(SL:Int)=left)∨(T'=0∧left≤1+(SL:Int))):=by
   have h2:=gi.o;by_cases hlt:j<l.length
   ·have h0:T=0:=by omega
    have hle:=Bp V.count l j;rw[← rI.o] at hle;exact⟨T,rfl,.inr ⟨h0,by omega⟩⟩
   obtain rfl:j=l.length:=by omega
   rw[fT,← rI.o] at h2;exact⟨T,rfl,.inl h2⟩
  obtain⟨T',rfl,hpost⟩:=hpost;have HP:=aa hpost;clear hw hB hpost;by_cases hjl:j<l.length
  all_goals
   have hT':j<l.length→T'≤0:=fun h=>by omega
   clear hgo
   first
   | (have h:=hT' hjl;clear hT')
   | clear hT'
   go_wp2_with fail
   go_loopg [1,9] (f.length+1) (fun gk t i wr=>∃(j:Nat) (T:Int),j≤f.length∧gk+j=f.length+1∧i=.int .i64 j∧t=.int .i64 T∧0≤T∧T≤left∧((T+1+(SL:Int)+((((f.take j).map fun x=>x.2.count).sum:Nat):Int)=left)∨(T=0∧left≤1+(SL:Int)))∧Grow w wr ∧
    Blk wr w.heap.size 27 (Cv.cells ⟨k,(n:Int),aB,b.length,cB,aL,l.length,cL,aF,f.length,cF⟩))
   exact⟨0,T',by omega,by omega,rfl,rfl,by omega,by omega,by simpa using HP.o,HW.o,HB.o⟩
   obtain⟨j,T,hj,hg,rfl,rfl,hT0,F8,rJ,hw,hB⟩:=hrel
   obtain⟨gk',rfl⟩:=bz gk (by omega)
   clear hc3
   have F9:=hB.cell
   have HW:=aa hw
   have HB:=aa hB
   have gi:=aa rJ
   clear rJ
   by_cases hgo:j<f.length∧0<T
   ·obtain⟨hlt,hTp⟩:=hgo
    have VL:=aa (gi.o.resolve_right (fun h=>by omega))
    obtain⟨bk,o,x,ha,hbk,es,ik,e0,e1,e2,e3,e4,hx⟩:=(HV.o.grow hw).gX j hlt
    dsimp only at ha
    subst ha
    have hs:=DD (fun x:ByteArray×V=>x.2.count) f j hlt
    have HS:=aa hs
    have hle:=Bp (fun x:ByteArray×V=>x.2.count) f (j+1)
    rw[hs,← Ox.o] at hle
    have HX:=aa hx
    have DI:=V.F7 f[j].2
    have HC:=aa (Hf.o _ (aS hlt) T wr x (by omega) (by omega) hx)
    clear hw hx hB hs es ik
    go_wp2_with fail
    refine HC.o.mono ?_
    rintro e w2 ⟨r,rfl,hr,hb2⟩
    have aJ:=aa hb2
    clear hb2
    have iz:=(HB.o.grow aJ.o).cell
    by_cases dO:((f[j].2.count:Nat):Int)<T
    ·have hd:decide (((f[j].2.count:Nat):Int)<T)=true:=cj dO
     have HR:=aa (hr dO)
     clear hr
     go_wp2_with fail
     go_roundg gk'
     have h1:=HR.o
     have h2:=VL.o
     have h3:=HS.o
     exact⟨j+1,r,by omega,by omega,by go_num,rfl,by omega,by omega,.inl (by rw[h3];push_cast;omega),HW.o.trans aJ.o,HB.o.grow aJ.o⟩
     omega
    have hd:decide (((f[j].2.count:Nat):Int)<T)=false:=cm dO
    clear hr
    go_wp2_with fail
    go_ret2
    have h2:=VL.o
    have hfin:¬ (((1+SL+SF:Nat):Int)<left):=by push_cast;omega
    exact⟨0,Ov rfl (cm hfin).symm,fun h=>absurd h hfin,HW.o.trans aJ.o⟩
   have hpost:(T=left-((1+SL+SF:Nat):Int))∨(T=0∧¬ (((1+SL+SF:Nat):Int)<left)):=by
    rcases gi.o with h2 | h2
    ·by_cases hlt:j<f.length
     ·have h0:T=0:=by omega
      have hle:=Bp (fun x:ByteArray×V=>x.2.count) f (j+1)
      rw[DD _ _ _ hlt,← Ox.o] at hle
      have DI:=V.F7 f[j].2
      exact .inr ⟨h0,by push_cast;omega⟩
     obtain rfl:j=f.length:=by omega
     rw[fT,← Ox.o] at h2
     exact .inl (by push_cast;omega)
    exact .inr ⟨h2.1,by push_cast;omega⟩
   have zi:=aa hpost
   clear hw hB hpost
   by_cases hjf:j<f.length
   all_goals
    have hT':j<f.length→T≤0:=fun h=>by omega
    clear hgo
    first
    | (have h:=hT' hjf;clear hT')
    | clear hT'
    go_wp2_with fail
    go_ret2
    refine⟨T,Ov rfl ?_,fun h=>?_,HW.o⟩
    ·rcases zi.o with h | h
     ·rw[h];exact decide_eq_decide.2 ⟨fun h=>by omega,fun h=>by omega⟩
     rw[cm (Int.not_lt.2 h.2),h.1];rfl
    rcases zi.o with h' | h'
    ·exact h'
    exact absurd h (Int.not_lt.2 h'.2)
abbrev js(A:Option Addr)(n cap:Nat):Cv:=⟨7,0,none,0,0,A,n,cap,none,0,0⟩
def InL(w:World)(A:Option Addr)(cap:Nat)(vs:List V):Prop:=In w (.mk 7 0 [] vs []) (js A vs.length cap)
theorem InL.grow{cap:Nat}{vs:List V}(h:InL w A cap vs)(hg:Grow w w'):InL w' A cap vs:=oc h hg
theorem acw(vs:List V)(A:Option Addr)(cap:Nat)(w:World)(hv:InL w A cap vs) :
 Calls prog 15 #[.slice A vs.length cap] w fun e w'=>e=.returned (.bool (decide (20000≤(vs.map V.count).sum)))∧Grow w w':=by
 have hl:=mg hv;obtain⟨_,_,_,_,_,_,_,_,_,_,_,_,_,hlen,_,_,_⟩:=hl;have HV:=aa hv;clear hv;go_enter func15,ntmps15;go_wp2_with fail;go_loopg [3,4] (vs.length+1) (fun gk t i wr=>∃(j:Nat) (T:Int),j≤vs.length∧gk+j=vs.length+1∧i=.int .i64 j∧t=.int .i64 T∧1≤T∧T≤20000∧T+((((vs.take j).map V.count).sum:Nat):Int)=20000∧Grow w wr);exact⟨0,20000,by omega,by omega,rfl,rfl,by omega,by omega,by simp,ah w⟩;obtain⟨j,T,hj,hg,rfl,rfl,hT0,F8,rJ,hw⟩:=hrel;obtain⟨gk',rfl⟩:=bz gk (by omega);have HW:=aa hw;have gi:=aa rJ;clear rJ;by_cases hlt:j<vs.length
 ·obtain⟨bk,o,x,ha,hbk,e0,e1,e2,e3,e4,hx⟩:=In.fh (HV.o.grow hw) j hlt;dsimp only at ha;subst ha;have hs:=DD V.count vs j hlt;have HS:=aa hs;have hle:=Bp V.count vs (j+1);rw[hs] at hle;have DI:=V.F7 vs[j];have HC:=aa (VK vs[j] T wr x (by omega) (by omega) hx);clear hw hx hs;go_wp2_with fail;refine HC.o.mono ?_;rintro e w2 ⟨r,rfl,hr,hb2⟩;have aJ:=aa hb2;clear hb2;by_cases dO:((vs[j].count:Nat):Int)<T
  ·have hd:decide (((vs[j].count:Nat):Int)<T)=true:=cj dO;have HR:=aa (hr dO);clear hr;go_wp2_with fail;go_roundg gk';have h1:=HR.o;have h2:=gi.o;have h3:=HS.o;exact⟨j+1,r,by omega,by omega,by go_num,rfl,by omega,by omega,by rw[h3];push_cast;omega,HW.o.trans aJ.o⟩;omega
  have hd:decide (((vs[j].count:Nat):Int)<T)=false:=cm dO;clear hr;go_wp2_with fail;go_ret;have h2:=gi.o;exact⟨dw (cj (by omega)).symm,HW.o.trans aJ.o⟩
 obtain rfl:j=vs.length:=by omega
 have h2:=gi.o;rw[fT] at h2;have H2:=aa h2;clear hw h2;go_wp2_with fail;go_ret;have h2:=H2.o;exact⟨dw (cm (by omega)).symm,HW.o⟩
end
abbrev Br:=@V.F7
section
open Go.RowKit Go.Shelf
theorem acx(x0 x1 x2 x3 x4 x5 x6 x7:UInt8)(bk o n cap:Nat)(w:World)(hn:8≤n)
 (c0:w.cell? ⟨bk,o,none⟩=some (.int .u8 (x0.toNat:Int)))
 (c1:w.cell? ⟨bk,o+1,none⟩=some (.int .u8 (x1.toNat:Int)))
 (c2:w.cell? ⟨bk,o+2,none⟩=some (.int .u8 (x2.toNat:Int)))
 (c3:w.cell? ⟨bk,o+3,none⟩=some (.int .u8 (x3.toNat:Int)))
 (c4:w.cell? ⟨bk,o+4,none⟩=some (.int .u8 (x4.toNat:Int)))
 (c5:w.cell? ⟨bk,o+5,none⟩=some (.int .u8 (x5.toNat:Int)))
 (c6:w.cell? ⟨bk,o+6,none⟩=some (.int .u8 (x6.toNat:Int)))
 (c7:w.cell? ⟨bk,o+7,none⟩=some (.int .u8 (x7.toNat:Int))) :
 Calls prog 129 #[.slice (some ⟨bk,o,none⟩) n cap] w fun e w'=>e=.returned (.int .u64 (Lib.leNat [x0,x1,x2,x3,x4,x5,x6,x7]))∧∃q,w'=w.drewN q:=by
 have h0:=x0.toNat_lt;have h1:=x1.toNat_lt;have h2:=x2.toNat_lt;have h3:=x3.toNat_lt;have h4:=x4.toNat_lt;have h5:=x5.toNat_lt;have h6:=x6.toNat_lt;have h7:=x7.toNat_lt;have hv:((Lib.leNat [x0,x1,x2,x3,x4,x5,x6,x7]:Nat):Int)=(x0.toNat:Int)+(x1.toNat:Int)*256+(x2.toNat:Int)*65536+(x3.toNat:Int)*16777216+(x4.toNat:Int)*4294967296+(x5.toNat:Int)*1099511627776+(x6.toNat:Int)*281474976710656+(x7.toNat:Int)*72057594037927936:=by
  simp only[Lib.leNat];push_cast;omega
 go_enter func129,ntmps129;go_wp2_with fail;go_quiet (fail);go_wp2;go_ret;refine⟨?_,_,rfl⟩;simp (disch:=omega) only[u64_or8,u64_or16,u64_or24,u64_or32,u64_or40,u64_or48,u64_or56];rw[hv];rfl
end
def gB(cf:Nat→Int):Nat→Nat→Nat→Nat
 | 0,i,_=>i
 | g+1,i,j=>if i<j then (if cf ((i+j) / 2)<0 then gB cf g ((i+j) / 2+1) j else gB cf g i ((i+j) / 2)) else i
theorem wH{cf:Nat→Int}(h:j≤i):gB cf g i j=i:=by
 cases g with
 | zero=>rfl
 | succ g=>rw[gB,ak (by omega)]
theorem DJ{cf:Nat→Int}(h:i<j)(hc:cf ((i+j) / 2)<0):gB cf (g+1) i j=gB cf g ((i+j) / 2+1) j:=by rw[gB,aD h,aD hc]
theorem DK{cf:Nat→Int}(h:i<j)(hc:¬ cf ((i+j) / 2)<0):gB cf (g+1) i j=gB cf g i ((i+j) / 2):=by rw[gB,aD h,ak hc]
theorem qz{cf:Nat→Int}:∀(g g' i j:Nat),j-i≤g→j-i≤g'→gB cf g i j=gB cf g' i j
 | 0,g',i,j,h,h'=>by rw[wH (by omega),wH (by omega)]
 | g+1,0,i,j,h,h'=>by rw[wH (by omega),wH (by omega)]
 | g+1,g'+1,i,j,h,h'=>by
  by_cases hij:i<j
  ·by_cases hc:cf ((i+j) / 2)<0
   ·rw[DJ hij hc,DJ hij hc];exact qz g g' _ _ (by omega) (by omega)
   rw[DK hij hc,DK hij hc];exact qz g g' _ _ (by omega) (by omega)
  rw[wH (by omega),wH (by omega)]
def il(cf:Nat→Int)(n:Nat):Nat:=gB cf n 0 n
theorem Oy{cf:Nat→Int}:∀(g i j:Nat),i≤j→i≤gB cf g i j∧gB cf g i j≤j
 | 0,i,j,h=>by rw[gB];omega
 | g+1,i,j,h=>by
  by_cases hij:i<j
  ·by_cases hc:cf ((i+j) / 2)<0
   ·rw[DJ hij hc];have:=Oy (cf:=cf) g ((i+j) / 2+1) j (by omega);omega
   rw[DK hij hc];have:=Oy (cf:=cf) g i ((i+j) / 2) (by omega);omega
  rw[wH (by omega)];omega
theorem DM(cf:Nat→Int)(n:Nat):il cf n≤n:=(Oy n 0 n (by omega)).2
def gj(cf:Nat→Int)(n:Nat):Bool:=decide (il cf n<n)&&cf (il cf n)==0
def rK(w:World)(A:Option Addr)(z n:Nat)(cs:Nat→Array Value):Prop:=
 ∀j,j<n→∃bk o,A=some ⟨bk,o,none⟩∧bk<w.heap.size∧∀i v,(cs j)[i]?=some v→w.cell? ⟨bk,o+j*z+i,none⟩=some v
theorem rK.grow{n:Nat}{cs:Nat→Array Value}(h:rK w A z n cs)(hg:Grow w w'):rK w' A z n cs:=fun j hj=>by
 obtain⟨bk,o,ha,hb,hc⟩:=h j hj;exact⟨bk,o,ha,bG hb hg.size,fun i v hv=>(hg.below.cell hb).trans (hc i v hv)⟩
structure Cc where
 nm:ByteArray
 dA:Option Addr
 dn:Nat
 dc:Nat
 xA:Option Addr
 xn:Nat
 xc:Nat
abbrev Cc.cells(c:Cc):Array Value:=#[.string c.nm,.slice c.dA c.dn c.dc,.slice c.xA c.xn c.xc]
structure Ix where
 name:ByteArray
 path:ByteArray
 uniq:Bool
abbrev Ix.cells(c:Ix):Array Value:=#[.string c.name,.string c.path,.bool c.uniq]
theorem acy(l:List UInt8):Lib.bytesOf (l.map fun b=>(b.toNat:Int))=l:=by
 induction l with
 | nil=>rfl
 | cons x l ih=>simp only[Lib.bytesOf,fN,ma] at ih ⊢;rw[ih];simp
theorem VM{b:List UInt8}(c:Nat)(h:bh w A b):(Extern.Bytes.bytesOf (.slice A b.length c)).run prog w=.ok ⟨b.toArray⟩ w:=by
 rcases A with _ | ad
 ·rcases AU b.length with h0 | h0
  ·have:b=[]:=l5 h0;subst this;rfl
  obtain⟨_,_,e,_⟩:=h.2 h0;cases e
 have hl:=Lib.run_loadBytesX (P:=prog) w (b.map fun x=>(x.toNat:Int)) ad .empty (fun j x hj=>by
  rw[sS] at hj
  cases hb:b[j]? with
  | none=>rw[hb] at hj;cases hj
  | some y =>
   rw[hb] at hj;have hjl:j<b.length:=(jd.1 hb).1;obtain⟨bk,o,e,hc⟩:=h.2 (by omega);injection e with e;subst e;rw[add_lit]
   cases hj
   exact(hc j _ (by rw[b_,sS,hb];rfl)).1)
 rw[dE,acy] at hl;show (Extern.Bytes.loadBytes ad b.length .empty).run prog w=_;rw[hl];simp
theorem acz{B:Option Addr}{a b:List UInt8}(c d:Nat)(h:bh w A a)(g:bh w B b) :
 (Extern.BytealgCompare.compare #[.slice A a.length c,.slice B b.length d]).run prog w=.ok (.int .i64 (Lib.compareBytes a b)) w:=by
 change Sem.run prog (do pure (goInt (Extern.BytealgCompare.cmp (← Extern.Bytes.bytesOf (.slice A a.length c)) (← Extern.Bytes.bytesOf (.slice B b.length d))))) w=_;simp only[AV,VM c h,VM d g,Da,Result.andThen];rw[Lib.cmp_eq];rfl
theorem Oz(a b:List UInt8)(A B:Option Addr)(c d:Nat)(w:World)(h:bh w A a)(g:bh w B b) :
 Calls prog 54 #[.slice A a.length c,.slice B b.length d] w fun e w'=>e=.returned (.int .i64 (Lib.compareBytes a b))∧w'=w:=by
 go_enter func54,ntmps54;go_wp2_with fail;rw[run_callFunc_extern (P:=prog) (f:=99) (fn:=f99) (by kernel_rfl) (by kernel_rfl) (by kernel_rfl) (by kernel_rfl) (e:=Extern.BytealgCompare.compare) (by kernel_rfl),acz c d h g];simp only[Result.andThen];rw[Kn];go_wp2_with fail;go_ret;exact⟨rfl,rfl⟩
theorem OA{k:IntKind}{a b:Int}{p q:Bool}(h:a=b)(h':p=q):Ending.returned (.tuple #[.int k a,.bool p])=.returned (.tuple #[.int k b,.bool q]):=by rw[h,h']
theorem acA(n:Nat)(cf:Nat→Int)(el:Nat→Cc)(A:Option Addr)(cap:Nat)(u:Value)(w:World)(hn:n≤140737488355328)(hrow:rK w A 3 n (fun j=>(el j).cells))
 (zj:∀j,j<n→∀w',Grow w w'→Calls prog 163 #[.agg (el j).cells,u] w' fun e w''=>e=.returned (.int .i64 (cf j))∧Grow w' w'') :
 Calls prog 162 #[.slice A n cap,u,.func (.func 163) #[] #[]] w fun e w'=>e=.returned (.tuple #[.int .i64 (il cf n:Nat),.bool (gj cf n)])∧Grow w w':=by
 have fK:=aa hrow;have zk:=aa zj;have hle0:=DM cf n;obtain⟨R,hR⟩:∃R,il cf n=R:=⟨_,rfl⟩;obtain⟨T,hT⟩:∃T,gj cf n=T:=⟨_,rfl⟩;rw[hR] at hle0 ⊢;rw[hT];have zm:=aa hT;have HR:=aa hR;clear hrow zj hR hT;go_enter func162,ntmps162;go_wp2_with fail;go_loopg [9,10,11] (n+1) (fun gk i j hh wr=>∃a b:Nat,a≤b∧b≤n∧b-a≤gk∧i=.int .i64 a∧j=.int .i64 b∧gB cf n a b=R∧Grow w wr);exact⟨0,n,by omega,by omega,by omega,rfl,rfl,HR.o,ah w⟩;obtain⟨a,b,hab,F_,ji,rfl,rfl,hbs,hwr⟩:=hrel;have fL:=aa hwr;have ax:=aa hbs;clear hwr hbs;by_cases hlt:a<b
 ·obtain⟨gk',rfl⟩:=bz gk (by omega);obtain⟨h,hh⟩:∃h,(a+b) / 2=h:=⟨_,rfl⟩;have Ga:a≤h:=by omega
  have zn:h<b:=by omega
  have hhi:((a:Int)+(b:Int)) / 2=(h:Int):=by omega
  have uH:h<n:=by omega
  obtain⟨bk,o,ha,hbk,hc⟩:=(fK.o.grow fL.o) h uH;subst ha;have e0:wr.cell? ⟨bk,o+h*3,none⟩=some (.string (el h).nm):=by simpa using hc 0 _ rfl
  have e1:wr.cell? ⟨bk,o+h*3+1,none⟩=some (.slice (el h).dA (el h).dn (el h).dc):=by simpa using hc 1 _ rfl
  have e2:wr.cell? ⟨bk,o+h*3+2,none⟩=some (.slice (el h).xA (el h).xn (el h).xc):=by simpa using hc 2 _ rfl
  have HC:=aa (zk.o h uH wr fL.o);have HH:=aa hh;obtain⟨z,hz⟩:∃z,cf h=z:=⟨_,rfl⟩;rw[hz] at HC;have HZ:=aa hz;clear hc hbk hh hz;go_wp2_with fail;refine HC.o.mono ?_;rintro e w2 ⟨rfl,hg2⟩;have HG2:=aa (fL.o.trans hg2);clear hg2;by_cases hneg:z<0
  ·have Bt:=aa (show gB cf n (h+1) b=R by rw[← ax.o,qz n ((b-a-1)+1) a b (by omega) (by omega),DJ hlt (by rw[HH.o,HZ.o];exact hneg),HH.o];exact qz _ _ _ _ (by omega) (by omega));go_wp2_with fail;go_roundg gk';exact⟨h+1,b,by omega,F_,by omega,by go_num,rfl,Bt.o,HG2.o⟩;omega
  have tA:=aa (show gB cf n a h=R by rw[← ax.o,qz n ((b-a-1)+1) a b (by omega) (by omega),DK hlt (by rw[HH.o,HZ.o];exact hneg),HH.o];exact qz _ _ _ _ (by omega) (by omega));go_wp2_with fail;go_roundg gk';exact⟨a,h,by omega,by omega,by omega,rfl,rfl,tA.o,HG2.o⟩;omega
 obtain rfl:a=b:=by omega
 obtain rfl:R=a:=by rw[← ax.o,wH (au _)]
 by_cases qA:R<n
 ·obtain⟨bk,o,ha,hbk,hc⟩:=(fK.o.grow fL.o) R qA;subst ha;have e0:wr.cell? ⟨bk,o+R*3,none⟩=some (.string (el R).nm):=by simpa using hc 0 _ rfl
  have e1:wr.cell? ⟨bk,o+R*3+1,none⟩=some (.slice (el R).dA (el R).dn (el R).dc):=by simpa using hc 1 _ rfl
  have e2:wr.cell? ⟨bk,o+R*3+2,none⟩=some (.slice (el R).xA (el R).xn (el R).xc):=by simpa using hc 2 _ rfl
  have HC:=aa (zk.o R qA wr fL.o);obtain⟨z,hz⟩:∃z,cf R=z:=⟨_,rfl⟩;rw[hz] at HC;have HZ:=aa hz;clear hc hbk hz hlt;go_wp2_with fail;refine HC.o.mono ?_;rintro e w2 ⟨rfl,hg2⟩;have HG2:=aa (fL.o.trans hg2);clear hg2;go_wp2_with fail;go_ret2;exact⟨OA rfl (by rw[← zm.o];unfold gj;rw[HR.o,HZ.o,cj qA,pc]),HG2.o⟩
 obtain rfl:T=false:=by rw[← zm.o];unfold gj;rw[HR.o,cm qA];rfl
 go_wp2_with fail;go_ret2;exact⟨rfl,fL.o⟩
theorem acB(n:Nat)(cf:Nat→Int)(el:Nat→Ix)(A:Option Addr)(cap:Nat)(u:Value)(w:World)(hn:n≤140737488355328)(hrow:rK w A 3 n (fun j=>(el j).cells))
 (zj:∀j,j<n→∀w',Grow w w'→Calls prog 171 #[.agg (el j).cells,u] w' fun e w''=>e=.returned (.int .i64 (cf j))∧Grow w' w'') :
 Calls prog 170 #[.slice A n cap,u,.func (.func 171) #[] #[]] w fun e w'=>e=.returned (.tuple #[.int .i64 (il cf n:Nat),.bool (gj cf n)])∧Grow w w':=by
 have fK:=aa hrow;have zk:=aa zj;have hle0:=DM cf n;obtain⟨R,hR⟩:∃R,il cf n=R:=⟨_,rfl⟩;obtain⟨T,hT⟩:∃T,gj cf n=T:=⟨_,rfl⟩;rw[hR] at hle0 ⊢;rw[hT];have zm:=aa hT;have HR:=aa hR;clear hrow zj hR hT;go_enter func170,ntmps170;go_wp2_with fail;go_loopg [9,10,11] (n+1) (fun gk i j hh wr=>∃a b:Nat,a≤b∧b≤n∧b-a≤gk∧i=.int .i64 a∧j=.int .i64 b∧gB cf n a b=R∧Grow w wr);exact⟨0,n,by omega,by omega,by omega,rfl,rfl,HR.o,ah w⟩;obtain⟨a,b,hab,F_,ji,rfl,rfl,hbs,hwr⟩:=hrel;have fL:=aa hwr;have ax:=aa hbs;clear hwr hbs;by_cases hlt:a<b
 ·obtain⟨gk',rfl⟩:=bz gk (by omega);obtain⟨h,hh⟩:∃h,(a+b) / 2=h:=⟨_,rfl⟩;have Ga:a≤h:=by omega
  have zn:h<b:=by omega
  have hhi:((a:Int)+(b:Int)) / 2=(h:Int):=by omega
  have uH:h<n:=by omega
  obtain⟨bk,o,ha,hbk,hc⟩:=(fK.o.grow fL.o) h uH;subst ha;have e0:wr.cell? ⟨bk,o+h*3,none⟩=some (.string (el h).name):=by simpa using hc 0 _ rfl
  have e1:wr.cell? ⟨bk,o+h*3+1,none⟩=some (.string (el h).path):=by simpa using hc 1 _ rfl
  have e2:wr.cell? ⟨bk,o+h*3+2,none⟩=some (.bool (el h).uniq):=by simpa using hc 2 _ rfl
  have HC:=aa (zk.o h uH wr fL.o);have HH:=aa hh;obtain⟨z,hz⟩:∃z,cf h=z:=⟨_,rfl⟩;rw[hz] at HC;have HZ:=aa hz;clear hc hbk hh hz;go_wp2_with fail;refine HC.o.mono ?_;rintro e w2 ⟨rfl,hg2⟩;have HG2:=aa (fL.o.trans hg2);clear hg2;by_cases hneg:z<0
  ·have Bt:=aa (show gB cf n (h+1) b=R by rw[← ax.o,qz n ((b-a-1)+1) a b (by omega) (by omega),DJ hlt (by rw[HH.o,HZ.o];exact hneg),HH.o];exact qz _ _ _ _ (by omega) (by omega));go_wp2_with fail;go_roundg gk';exact⟨h+1,b,by omega,F_,by omega,by go_num,rfl,Bt.o,HG2.o⟩;omega
  have tA:=aa (show gB cf n a h=R by rw[← ax.o,qz n ((b-a-1)+1) a b (by omega) (by omega),DK hlt (by rw[HH.o,HZ.o];exact hneg),HH.o];exact qz _ _ _ _ (by omega) (by omega));go_wp2_with fail;go_roundg gk';exact⟨a,h,by omega,by omega,by omega,rfl,rfl,tA.o,HG2.o⟩;omega
 obtain rfl:a=b:=by omega
 obtain rfl:R=a:=by rw[← ax.o,wH (au _)]
 by_cases qA:R<n
 ·obtain⟨bk,o,ha,hbk,hc⟩:=(fK.o.grow fL.o) R qA;subst ha;have e0:wr.cell? ⟨bk,o+R*3,none⟩=some (.string (el R).name):=by simpa using hc 0 _ rfl
  have e1:wr.cell? ⟨bk,o+R*3+1,none⟩=some (.string (el R).path):=by simpa using hc 1 _ rfl
  have e2:wr.cell? ⟨bk,o+R*3+2,none⟩=some (.bool (el R).uniq):=by simpa using hc 2 _ rfl
  have HC:=aa (zk.o R qA wr fL.o);obtain⟨z,hz⟩:∃z,cf R=z:=⟨_,rfl⟩;rw[hz] at HC;have HZ:=aa hz;clear hc hbk hz hlt;go_wp2_with fail;refine HC.o.mono ?_;rintro e w2 ⟨rfl,hg2⟩;have HG2:=aa (fL.o.trans hg2);clear hg2;go_wp2_with fail;go_ret2;exact⟨OA rfl (by rw[← zm.o];unfold gj;rw[HR.o,HZ.o,cj qA,pc]),HG2.o⟩
 obtain rfl:T=false:=by rw[← zm.o];unfold gj;rw[HR.o,cm qA];rfl
 go_wp2_with fail;go_ret2;exact⟨rfl,fL.o⟩
theorem acC(n:Nat)(cf:Nat→Int)(el:Nat→Cv)(A:Option Addr)(cap:Nat)(u:Value)(w:World)(hn:n≤140737488355328)(hrow:rK w A 5 n (fun j=>(el j).cells))
 (zj:∀j,j<n→∀w',Grow w w'→Calls prog 167 #[.agg (el j).cells,u] w' fun e w''=>e=.returned (.int .i64 (cf j))∧Grow w' w'') :
 Calls prog 166 #[.slice A n cap,u,.func (.func 167) #[] #[]] w fun e w'=>e=.returned (.tuple #[.int .i64 (il cf n:Nat),.bool (gj cf n)])∧Grow w w':=by
 have fK:=aa hrow;have zk:=aa zj;have hle0:=DM cf n;obtain⟨R,hR⟩:∃R,il cf n=R:=⟨_,rfl⟩;obtain⟨T,hT⟩:∃T,gj cf n=T:=⟨_,rfl⟩;rw[hR] at hle0 ⊢;rw[hT];have zm:=aa hT;have HR:=aa hR;clear hrow zj hR hT;go_enter func166,ntmps166;go_wp2_with fail;go_loopg [9,10,11] (n+1) (fun gk i j hh wr=>∃a b:Nat,a≤b∧b≤n∧b-a≤gk∧i=.int .i64 a∧j=.int .i64 b∧gB cf n a b=R∧Grow w wr);exact⟨0,n,by omega,by omega,by omega,rfl,rfl,HR.o,ah w⟩;obtain⟨a,b,hab,F_,ji,rfl,rfl,hbs,hwr⟩:=hrel;have fL:=aa hwr;have ax:=aa hbs;clear hwr hbs;by_cases hlt:a<b
 ·obtain⟨gk',rfl⟩:=bz gk (by omega);obtain⟨h,hh⟩:∃h,(a+b) / 2=h:=⟨_,rfl⟩;have Ga:a≤h:=by omega
  have zn:h<b:=by omega
  have hhi:((a:Int)+(b:Int)) / 2=(h:Int):=by omega
  have uH:h<n:=by omega
  obtain⟨bk,o,ha,hbk,hc⟩:=(fK.o.grow fL.o) h uH;subst ha;have e0:wr.cell? ⟨bk,o+h*5,none⟩=some (.int .i64 (el h).k):=by simpa using hc 0 _ rfl
  have e1:wr.cell? ⟨bk,o+h*5+1,none⟩=some (.int .u64 (el h).n):=by simpa using hc 1 _ rfl
  have e2:wr.cell? ⟨bk,o+h*5+2,none⟩=some (.slice (el h).aB (el h).nB (el h).cB):=by simpa using hc 2 _ rfl
  have e3:wr.cell? ⟨bk,o+h*5+3,none⟩=some (.slice (el h).aL (el h).nL (el h).cL):=by simpa using hc 3 _ rfl
  have e4:wr.cell? ⟨bk,o+h*5+4,none⟩=some (.slice (el h).aF (el h).nF (el h).cF):=by simpa using hc 4 _ rfl
  have HC:=aa (zk.o h uH wr fL.o);have HH:=aa hh;obtain⟨z,hz⟩:∃z,cf h=z:=⟨_,rfl⟩;rw[hz] at HC;have HZ:=aa hz;clear hc hbk hh hz;go_wp2_with fail;refine HC.o.mono ?_;rintro e w2 ⟨rfl,hg2⟩;have HG2:=aa (fL.o.trans hg2);clear hg2;by_cases hneg:z<0
  ·have Bt:=aa (show gB cf n (h+1) b=R by rw[← ax.o,qz n ((b-a-1)+1) a b (by omega) (by omega),DJ hlt (by rw[HH.o,HZ.o];exact hneg),HH.o];exact qz _ _ _ _ (by omega) (by omega));go_wp2_with fail;go_roundg gk';exact⟨h+1,b,by omega,F_,by omega,by go_num,rfl,Bt.o,HG2.o⟩;omega
  have tA:=aa (show gB cf n a h=R by rw[← ax.o,qz n ((b-a-1)+1) a b (by omega) (by omega),DK hlt (by rw[HH.o,HZ.o];exact hneg),HH.o];exact qz _ _ _ _ (by omega) (by omega));go_wp2_with fail;go_roundg gk';exact⟨a,h,by omega,by omega,by omega,rfl,rfl,tA.o,HG2.o⟩;omega
 obtain rfl:a=b:=by omega
 obtain rfl:R=a:=by rw[← ax.o,wH (au _)]
 by_cases qA:R<n
 ·obtain⟨bk,o,ha,hbk,hc⟩:=(fK.o.grow fL.o) R qA;subst ha;have e0:wr.cell? ⟨bk,o+R*5,none⟩=some (.int .i64 (el R).k):=by simpa using hc 0 _ rfl
  have e1:wr.cell? ⟨bk,o+R*5+1,none⟩=some (.int .u64 (el R).n):=by simpa using hc 1 _ rfl
  have e2:wr.cell? ⟨bk,o+R*5+2,none⟩=some (.slice (el R).aB (el R).nB (el R).cB):=by simpa using hc 2 _ rfl
  have e3:wr.cell? ⟨bk,o+R*5+3,none⟩=some (.slice (el R).aL (el R).nL (el R).cL):=by simpa using hc 3 _ rfl
  have e4:wr.cell? ⟨bk,o+R*5+4,none⟩=some (.slice (el R).aF (el R).nF (el R).cF):=by simpa using hc 4 _ rfl
  have HC:=aa (zk.o R qA wr fL.o);obtain⟨z,hz⟩:∃z,cf R=z:=⟨_,rfl⟩;rw[hz] at HC;have HZ:=aa hz;clear hc hbk hz hlt;go_wp2_with fail;refine HC.o.mono ?_;rintro e w2 ⟨rfl,hg2⟩;have HG2:=aa (fL.o.trans hg2);clear hg2;go_wp2_with fail;go_ret2;exact⟨OA rfl (by rw[← zm.o];unfold gj;rw[HR.o,HZ.o,cj qA,pc]),HG2.o⟩
 obtain rfl:T=false:=by rw[← zm.o];unfold gj;rw[HR.o,cm qA];rfl
 go_wp2_with fail;go_ret2;exact⟨rfl,fL.o⟩
section
open V
structure Rq where
 aM:Int
 aw:ByteArray
 index:ByteArray
 path:ByteArray
 unique:Bool
 key:V
 low:V
 high:V
 doc:V
 n:Int
structure Rp where
 e:Int
 n:Int
 ag:List V
 eX:Int
def Rp.zero:Rp:=⟨0,0,[],0⟩
abbrev b9(d:Int)(c i p:ByteArray)(u:Bool)(k l h x:Cv)(n:Int):Array Value:=
 #[.int .i64 d,.string c,.string i,.string p,.bool u,.int .i64 k.k,.int .u64 k.n,.slice k.aB k.nB k.cB,.slice k.aL k.nL k.cL,.slice k.aF k.nF k.cF,
  .int .i64 l.k,.int .u64 l.n,.slice l.aB l.nB l.cB,.slice l.aL l.nL l.cL,.slice l.aF l.nF l.cF,.int .i64 h.k,.int .u64 h.n,.slice h.aB h.nB h.cB,.slice h.aL h.nL h.cL,.slice h.aF h.nF h.cF,
  .int .i64 x.k,.int .u64 x.n,.slice x.aB x.nB x.cB,.slice x.aL x.nL x.cL,.slice x.aF x.nF x.cF,.int .i64 n]
abbrev cS(e n:Int)(A:Option Addr)(l c:Nat)(k:Int):Array Value:=#[.int .i64 e,.int .i64 n,.slice A l c,.int .i64 k]
abbrev OB:Array Value:=#[.int .i64 0,.string ⟨#[]⟩,.string ⟨#[]⟩,.string ⟨#[]⟩,.bool false,.int .i64 0,.int .u64 0,.slice none 0 0,.slice none 0 0,.slice none 0 0,.int .i64 0,.int .u64 0,.slice none 0 0,.slice none 0 0,.slice none 0 0,.int .i64 0,.int .u64 0,.slice none 0 0,.slice none 0 0,.slice none 0 0,.int .i64 0,.int .u64 0,.slice none 0 0,.slice none 0 0,.slice none 0 0,.int .i64 0]
end
theorem jK(e:Int)(w:World):Calls prog 114 #[.bool true,.int .i64 e] w fun e w'=>e=.returned (.tuple #[])∧w=w':=by
 go_enter func114,ntmps114;go_wp2;go_end0;exact⟨rfl,rfl⟩
theorem oh(e:Int)(w:World):Calls prog 114 #[.bool false,.int .i64 e] w fun r w'=>r=.panicked (thrown e)∧w=w':=by
 go_enter func114,ntmps114;go_wp2;exact⟨rfl,rfl,rfl⟩
theorem DN(w:World):Calls prog 119 #[.int .i64 0] w fun e w'=>e=.returned (.tuple #[])∧w=w':=by
 go_enter func119,ntmps119;go_wp2_with fail;refine(jK 0 w).mono ?_;rintro e w' ⟨rfl,rfl⟩;go_wp2_with fail;go_end0;exact⟨rfl,rfl⟩
theorem DR(e:Int)(he:e≠0)(w:World):Calls prog 119 #[.int .i64 e] w fun r w'=>r=.panicked (thrown e)∧w=w':=by
 have om:(e==0)=false:=by simpa using he
 clear he;go_enter func119,ntmps119;go_wp2_with fail;refine(oh e w).mono ?_;rintro r w' ⟨rfl,rfl⟩;go_wp2_with fail;exact⟨rfl,rfl,rfl⟩
end Go.Proofs.YtndjopkdbdcmdaaGreatDoor
