/- Part 1 of the proof of pfinds_card. -/
import Derived.Test.YtndjopkdbdcmdaaGreatDoorPfi0
import Derived.WalkKit
import Derived.WalkSpells
import Derived.WalkLawsBesides
import Derived.Deep.LoopGhost
import Derived.Deep.AppendLies
import Derived.Deep.Draws
import Derived.Deep.AppendSrc
import Derived.Maps.AppendAt
import Derived.Lib.AppendStr
import Derived.Laws.BitsAllLaws
import Derived.Laws.Bits64
import Derived.Lib.ValidU
import Derived.Test.YtndjopkdbdcmdaaGreatDoorRows
import Derived.Laws.IdiomStrings
import Derived.MapKept
import Derived.Lib.BufferRead
import Derived.Deep.QuietTactic
import Derived.BigQuiet
import Derived.Shelf.Unicode.WordAny
import Derived.Deep.DeepBigQuietO
import Derived.Laws.FloatArith
import Derived.KernelRfl
import Derived.Shelf.SlSortCmp.KitK
import Derived.Test.YtndjopkdbdcmdaaGreatDoorProg
import Derived.Lib.BytesEntry
import Derived.Lib.Bytealg
set_option linter.unusedVariables false
set_option linter.unusedSimpArgs false
set_option maxRecDepth 100000
set_option maxHeartbeats 12800000
open Go.Proofs.Tryz
namespace Go.Proofs.YtndjopkdbdcmdaaGreatDoor
section
open Go.RowKit
theorem aa{p:Prop}(h:p):Hid p:=h
inductive V where
 | mk (k:Int) (n:Nat) (b:List UInt8) (l:List V) (f:List (ByteArray×V))
namespace V
def k:V→Int | mk k _ _ _ _=>k
def n:V→Nat | mk _ n _ _ _=>n
def b:V→List UInt8 | mk _ _ b _ _=>b
def l:V→List V | mk _ _ _ l _=>l
def f:V→List (ByteArray×V) | mk _ _ _ _ f=>f
def zero:V:=mk 0 0 [] [] []
theorem rR{k:Int}{n:Nat}{b:List UInt8}{l:List V}{f:List (ByteArray×V)}{x:V}(h:x∈l):SizeOf.sizeOf x<SizeOf.sizeOf (mk k n b l f):=by
 have:=vC h;simp only[mk.sizeOf_spec];omega
theorem rS{k:Int}{n:Nat}{b:List UInt8}{l:List V}{f:List (ByteArray×V)}{x:ByteArray×V}(h:x∈f):SizeOf.sizeOf x.2<SizeOf.sizeOf (mk k n b l f):=by
 have:=vC h;obtain⟨s,y⟩:=x;simp only[mk.sizeOf_spec,Prod.mk.sizeOf_spec] at *;omega
theorem ind{p:V→Prop}(h:∀k n b l f,(∀x∈l,p x)→(∀x∈f,p x.2)→p (mk k n b l f))(v:V):p v:=by
 match v with
 | mk k n b l f=>exact h k n b l f (fun x _=>ind h x) (fun x _=>ind h x.2)
termination_by SizeOf.sizeOf v
decreasing_by
 ·exact rR ‹_›
 exact rS ‹_›
end V
structure Cv where
 k:Int
 n:Int
 aB:Option Addr
 nB:Nat
 cB:Nat
 aL:Option Addr
 nL:Nat
 cL:Nat
 aF:Option Addr
 nF:Nat
 cF:Nat
abbrev Cv.cells(c:Cv):Array Value:=#[.int .i64 c.k,.int .u64 c.n,.slice c.aB c.nB c.cB,.slice c.aL c.nL c.cL,.slice c.aF c.nF c.cF]
abbrev Cv.agg(c:Cv):Value:=.agg c.cells
abbrev Cv.zero:Cv:=⟨0,0,none,0,0,none,0,0,none,0,0⟩
def Reads(C:Addr→Value→Prop)(size:Nat)(A:Option Addr)(n:Nat)(xs:List Value):Prop:=
 xs.length=n*size∧(0<n→∃bk o,A=some ⟨bk,o,none⟩∧∀j u,xs[j]?=some u→C ⟨bk,o+j,none⟩ u)
def bT(b:List UInt8):List Value:=b.map fun x=>.int .u8 (x.toNat:Int)
def kE(C:Addr→Value→Prop)(bk o:Nat)(c:Cv):Prop:=
 C ⟨bk,o,none⟩ (.int .i64 c.k)∧C ⟨bk,o+1,none⟩ (.int .u64 c.n)∧C ⟨bk,o+2,none⟩ (.slice c.aB c.nB c.cB)∧C ⟨bk,o+3,none⟩ (.slice c.aL c.nL c.cL)∧C ⟨bk,o+4,none⟩ (.slice c.aF c.nF c.cF)
def IsV(C:Addr→Value→Prop):V→Cv→Prop
 | .mk k n b l f,c=>c.k=k∧c.n=(n:Int)∧c.nB=b.length∧c.nL=l.length∧c.nF=f.length ∧
  -9223372036854775808≤k∧k≤9223372036854775807∧n<18446744073709551616 ∧
  b.length≤c.cB∧b.length≤140737488355328∧l.length≤c.cL∧l.length≤140737488355328∧f.length≤c.cF∧f.length≤140737488355328 ∧
  Reads C 1 c.aB b.length (bT b) ∧
  (∀i (h:i<l.length),∃bk o x,c.aL=some ⟨bk,o,none⟩∧kE C bk (o+i*5) x∧IsV C l[i] x) ∧
  (∀i (h:i<f.length),∃bk o x,c.aF=some ⟨bk,o,none⟩∧C ⟨bk,o+i*6,none⟩ (.string f[i].1)∧f[i].1.size≤140737488355328∧kE C bk (o+i*6+1) x∧IsV C f[i].2 x)
termination_by v=>SizeOf.sizeOf v
decreasing_by
 ·exact V.rR (aW _)
 exact V.rS (aW _)
def bK(w:World)(lo hi:Nat)(p:Addr)(u:Value):Prop:=w.cell? p=some u∧lo≤p.block∧p.block<hi
theorem Reads.mono{C C':Addr→Value→Prop}(h:∀p u,C p u→C' p u){size:Nat}{A:Option Addr}{n:Nat}{xs:List Value}(hr:Reads C size A n xs):Reads C' size A n xs:=
 ⟨hr.1,fun hn=>by obtain⟨bk,o,e,hc⟩:=hr.2 hn;exact⟨bk,o,e,fun j u hu=>h _ _ (hc j u hu)⟩⟩
theorem kE.mono{C C':Addr→Value→Prop}(h:∀p u,C p u→C' p u){bk o:Nat}{c:Cv}(hc:kE C bk o c):kE C' bk o c:=
 ⟨h _ _ hc.1,h _ _ hc.2.1,h _ _ hc.2.2.1,h _ _ hc.2.2.2.1,h _ _ hc.2.2.2.2⟩
theorem IsV.mono{C C':Addr→Value→Prop}(h:∀p u,C p u→C' p u)(v:V):∀c,IsV C v c→IsV C' v c:=by
 induction v using V.ind with
 | h k n b l f hl hf =>
  intro c hv;rw[IsV] at hv ⊢;obtain⟨e1,e2,e3,e4,e5,h1,h2,h3,h4,h5,h6,h7,h8,h9,hb,hL,hF⟩:=hv;refine⟨e1,e2,e3,e4,e5,h1,h2,h3,h4,h5,h6,h7,h8,h9,hb.mono h,fun i hi=>?_,fun i hi=>?_⟩
  ·obtain⟨bk,o,x,e,k0,kv⟩:=hL i hi;exact⟨bk,o,x,e,k0.mono h,hl _ (aW _) _ kv⟩
  obtain⟨bk,o,x,e,ks,kz,k0,kv⟩:=hF i hi;exact⟨bk,o,x,e,h _ _ ks,kz,k0.mono h,hf _ (aW _) _ kv⟩
theorem bK.below{w w':World}{B lo hi lo' hi':Nat}(hb:Below B w w')(h0:lo'≤lo)(h1:hi≤B)(h2:hi≤hi')(p:Addr)(u:Value)(h:bK w lo hi p u):bK w' lo' hi' p u:=
 ⟨(hb.cell (df h.2.2 h1)).trans h.1,bn h0 h.2.1,df h.2.2 h2⟩
def Grow(w w':World):Prop:=Below w.heap.size w w'
theorem Grow.below{w w':World}(h:Grow w w'):Below w.heap.size w w':=h
theorem Grow.refl(w:World):Grow w w:=jZ _ _
theorem Grow.size{w w':World}(h:Grow w w'):w.heap.size≤w'.heap.size:=Below.size h
theorem Grow.trans{a b c:World}(h:Grow a b)(k:Grow b c):Grow a c:=cU h (eJ k h.size)
theorem Grow.alloc{a w:World}(h:Grow a w)(o:Obj):Grow a (w.alloc o):=oH h h.size o
theorem Grow.drew{a w:World}(h:Grow a w):Grow a w.drew:=Am h
theorem Grow.drewN{a w:World}(h:Grow a w)(n:Nat):Grow a (w.drewN n):=⟨h.os,h.tape,h.output,h.size,h.block⟩
theorem Grow.setCell{a w:World}(h:Grow a w){p:Addr}(hp:a.heap.size≤p.block)(u:Value):Grow a (w.setCell p u):=Below.setCell h hp u
theorem Grow.grown{a w w':World}{row:Option Nat}(h:Grow a w)(hg:w.grownBy w' row)(hr:∀k,row=some k→a.heap.size≤k):Grow a w':=Below.grown h hg h.size hr
def In(w:World)(v:V)(c:Cv):Prop:=IsV (bK w 0 w.heap.size) v c
theorem In.grow{w w':World}{v:V}{c:Cv}(h:In w v c)(hb:Grow w w'):In w' v c:=
 IsV.mono (bK.below hb.below (ay _) (ay _) hb.size) v c h
def bA(w:World)(A:Option Addr)(b:List UInt8):Prop:=Reads (bK w 0 w.heap.size) 1 A b.length (bT b)
theorem bA.grow{w w':World}{A:Option Addr}{b:List UInt8}(h:bA w A b)(hb:Grow w w'):bA w' A b:=
 Reads.mono (bK.below hb.below (ay _) (ay _) hb.size) h
def eN(w:World)(hi:Nat)(v:V)(c:Cv):Prop:=IsV (bK w 0 hi) v c
theorem eN.below{w w':World}{B hi hi':Nat}{v:V}{c:Cv}(h:eN w hi v c)(hb:Below B w w')(h1:hi≤B)(h2:hi≤hi'):eN w' hi' v c:=
 IsV.mono (bK.below hb (ay _) h1 h2) v c h
theorem In.under{w:World}{v:V}{c:Cv}(h:In w v c):eN w w.heap.size v c:=h
theorem eN.lL{w:World}{hi:Nat}{v:V}{c:Cv}(h:eN w hi v c)(hz:hi≤w.heap.size):In w v c:=IsV.mono (bK.below (jZ hi w) (ay _) (ay _) hz) v c h
theorem eN.open{w:World}{hi:Nat}{k:Int}{n:Nat}{b:List UInt8}{l:List V}{f:List (ByteArray×V)}{c:Cv}(h:eN w hi (.mk k n b l f) c) :
 ∃(aB aL aF:Option Addr) (cB cL cF:Nat),c=⟨k,(n:Int),aB,b.length,cB,aL,l.length,cL,aF,f.length,cF⟩ ∧
  -9223372036854775808≤k∧k≤9223372036854775807∧n<18446744073709551616 ∧
  b.length≤cB∧b.length≤140737488355328∧l.length≤cL∧l.length≤140737488355328∧f.length≤cF∧f.length≤140737488355328∧Reads (bK w 0 hi) 1 aB b.length (bT b):=by
 unfold eN at h;rw[IsV] at h;obtain⟨c1,c2,aB,c3,cB,aL,c4,cL,aF,c5,cF⟩:=c;obtain⟨e1,e2,e3,e4,e5,h1,h2,h3,h4,h5,h6,h7,h8,h9,hb,hL,hF⟩:=h;dsimp only at *;subst e1 e2 e3 e4 e5;exact⟨aB,aL,aF,cB,cL,cF,rfl,h1,h2,h3,h4,h5,h6,h7,h8,h9,hb⟩
theorem eN.fO{w:World}{hi:Nat}{k:Int}{n:Nat}{b:List UInt8}{l:List V}{f:List (ByteArray×V)}{c:Cv}(h:eN w hi (.mk k n b l f) c)(i:Nat)(hil:i<l.length) :
 ∃bk o x,c.aL=some ⟨bk,o,none⟩∧bk<hi∧w.cell? ⟨bk,o+i*5,none⟩=some (.int .i64 x.k)∧w.cell? ⟨bk,o+i*5+1,none⟩=some (.int .u64 x.n) ∧
  w.cell? ⟨bk,o+i*5+2,none⟩=some (.slice x.aB x.nB x.cB)∧w.cell? ⟨bk,o+i*5+3,none⟩=some (.slice x.aL x.nL x.cL) ∧
  w.cell? ⟨bk,o+i*5+4,none⟩=some (.slice x.aF x.nF x.cF)∧eN w hi l[i] x:=by
 unfold eN at h;rw[IsV] at h;obtain⟨e1,e2,e3,e4,e5,h1,h2,h3,h4,h5,h6,h7,h8,h9,hb,hL,hF⟩:=h;obtain⟨bk,o,x,e,⟨k0,k1,k2,k3,k4⟩,kv⟩:=hL i hil;exact⟨bk,o,x,e,k0.2.2,k0.1,k1.1,k2.1,k3.1,k4.1,kv⟩
theorem eN.iF{w:World}{hi:Nat}{k:Int}{n:Nat}{b:List UInt8}{l:List V}{f:List (ByteArray×V)}{c:Cv}(h:eN w hi (.mk k n b l f) c)(i:Nat)(hif:i<f.length) :
 ∃bk o x,c.aF=some ⟨bk,o,none⟩∧bk<hi∧w.cell? ⟨bk,o+i*6,none⟩=some (.string f[i].1)∧f[i].1.size≤140737488355328 ∧
  w.cell? ⟨bk,o+i*6+1,none⟩=some (.int .i64 x.k)∧w.cell? ⟨bk,o+i*6+1+1,none⟩=some (.int .u64 x.n) ∧
  w.cell? ⟨bk,o+i*6+1+2,none⟩=some (.slice x.aB x.nB x.cB)∧w.cell? ⟨bk,o+i*6+1+3,none⟩=some (.slice x.aL x.nL x.cL) ∧
  w.cell? ⟨bk,o+i*6+1+4,none⟩=some (.slice x.aF x.nF x.cF)∧eN w hi f[i].2 x:=by
 unfold eN at h;rw[IsV] at h;obtain⟨e1,e2,e3,e4,e5,h1,h2,h3,h4,h5,h6,h7,h8,h9,hb,hL,hF⟩:=h;obtain⟨bk,o,x,e,ks,kz,⟨k0,k1,k2,k3,k4⟩,kv⟩:=hF i hif;exact⟨bk,o,x,e,ks.2.2,ks.1,kz,k0.1,k1.1,k2.1,k3.1,k4.1,kv⟩
theorem In.open{w:World}{k:Int}{n:Nat}{b:List UInt8}{l:List V}{f:List (ByteArray×V)}{c:Cv}(h:In w (.mk k n b l f) c) :
 ∃(aB aL aF:Option Addr) (cB cL cF:Nat),c=⟨k,(n:Int),aB,b.length,cB,aL,l.length,cL,aF,f.length,cF⟩ ∧
  -9223372036854775808≤k∧k≤9223372036854775807∧n<18446744073709551616 ∧
  b.length≤cB∧b.length≤140737488355328∧l.length≤cL∧l.length≤140737488355328∧f.length≤cF∧f.length≤140737488355328∧bA w aB b:=eN.open h
theorem In.fO{w:World}{k:Int}{n:Nat}{b:List UInt8}{l:List V}{f:List (ByteArray×V)}{c:Cv}(h:In w (.mk k n b l f) c)(i:Nat)(hi:i<l.length) :
 ∃bk o x,c.aL=some ⟨bk,o,none⟩∧bk<w.heap.size∧w.cell? ⟨bk,o+i*5,none⟩=some (.int .i64 x.k)∧w.cell? ⟨bk,o+i*5+1,none⟩=some (.int .u64 x.n) ∧
  w.cell? ⟨bk,o+i*5+2,none⟩=some (.slice x.aB x.nB x.cB)∧w.cell? ⟨bk,o+i*5+3,none⟩=some (.slice x.aL x.nL x.cL) ∧
  w.cell? ⟨bk,o+i*5+4,none⟩=some (.slice x.aF x.nF x.cF)∧In w l[i] x:=eN.fO h i hi
theorem In.iF{w:World}{k:Int}{n:Nat}{b:List UInt8}{l:List V}{f:List (ByteArray×V)}{c:Cv}(h:In w (.mk k n b l f) c)(i:Nat)(hi:i<f.length) :
 ∃bk o x,c.aF=some ⟨bk,o,none⟩∧bk<w.heap.size∧w.cell? ⟨bk,o+i*6,none⟩=some (.string f[i].1)∧f[i].1.size≤140737488355328 ∧
  w.cell? ⟨bk,o+i*6+1,none⟩=some (.int .i64 x.k)∧w.cell? ⟨bk,o+i*6+1+1,none⟩=some (.int .u64 x.n) ∧
  w.cell? ⟨bk,o+i*6+1+2,none⟩=some (.slice x.aB x.nB x.cB)∧w.cell? ⟨bk,o+i*6+1+3,none⟩=some (.slice x.aL x.nL x.cL) ∧
  w.cell? ⟨bk,o+i*6+1+4,none⟩=some (.slice x.aF x.nF x.cF)∧In w f[i].2 x:=eN.iF h i hi
def Blk(w:World)(g:Nat)(t:TypeId)(cs:Array Value):Prop:=w.heap[g]?=some (.cells cs t (0,0))
theorem Blk.lt{w:World}{g:Nat}{t:TypeId}{cs:Array Value}(h:Blk w g t cs):g<w.heap.size:=by
 rcases fh g w.heap.size with hlt | hge
 ·exact hlt
 unfold Blk at h;rw[tD hge] at h;cases h
theorem Blk.below{w w':World}{g:Nat}{t:TypeId}{cs:Array Value}{B:Nat}(h:Blk w g t cs)(hb:Below B w w')(hg:g<B):Blk w' g t cs:=(hb.block g hg).trans h
theorem Blk.grow{w w':World}{g:Nat}{t:TypeId}{cs:Array Value}(h:Blk w g t cs)(hb:Grow w w'):Blk w' g t cs:=(hb.below.block g h.lt).trans h
theorem Blk.new(w:World)(t:TypeId)(cs:Array Value):Blk (w.alloc (.cells cs t)) w.heap.size t cs:=J0 w _
theorem Blk.new'{w:World}{g:Nat}(h:g=w.heap.size)(t:TypeId)(cs:Array Value):Blk (w.alloc (.cells cs t)) g t cs:=h ▸ Blk.new w t cs
theorem Blk.cell{w:World}{g:Nat}{t:TypeId}{cs:Array Value}(h:Blk w g t cs)(i:Nat):w.cell? ⟨g,i,none⟩=cs[i]?:=vD w g i cs t (0,0) h
theorem Blk.frozen{w:World}{g:Nat}{t:TypeId}{cs:Array Value}(h:Blk w g t cs)(i:Nat):w.frozen? ⟨g,i,none⟩=false:=by
 unfold Blk at h;simp[World.frozen?,h]
theorem Blk.bf{w:World}{g:Nat}{t:TypeId}{cs:Array Value}(h:Blk w g t cs)(i:Nat)(u:Value):Blk (w.setCell ⟨g,i,none⟩ u) g t (cs.setIfInBounds i u):=by
 unfold Blk at h ⊢;simp[World.setCell,Ff,h]
theorem Blk.far{w:World}{g:Nat}{t:TypeId}{cs:Array Value}(h:Blk w g t cs){p:Addr}(hp:g≠p.block)(u:Value):Blk (w.setCell p u) g t cs:=(Ap w p u g hp).trans h
theorem Blk.drew{w:World}{g:Nat}{t:TypeId}{cs:Array Value}(h:Blk w g t cs):Blk w.drew g t cs:=h
theorem Blk.drewN{w:World}{g:Nat}{t:TypeId}{cs:Array Value}(h:Blk w g t cs)(n:Nat):Blk (w.drewN n) g t cs:=h
theorem Blk.alloc{w:World}{g:Nat}{t:TypeId}{cs:Array Value}(h:Blk w g t cs)(o:Obj):Blk (w.alloc o) g t cs:=h.grow ((Grow.refl w).alloc o)
end
section
open Go.RowKit
theorem FP(b:List UInt8):(bT b).length=b.length:=by simp[bT]
theorem UB(a b:List UInt8):bT (a++b)=bT a++bT b:=by simp[bT]
theorem i6(b:List UInt8):∀u∈bT b,u.oneCell'=true:=by
 intro u hu;obtain⟨x,_,rfl⟩:=j3.1 hu;rfl
theorem xf(b:List UInt8)(j:Nat)(h:j<b.length):(bT b)[j]?=some (.int .u8 (b[j].toNat:Int)):=by simp[bT,h]
theorem add_lit(b o j:Nat):(⟨b,o,none⟩:Addr).add j=⟨b,o+j,none⟩:=by unfold Addr.add;split<;>simp_all
theorem UC{α:Type}(v:α):∀(l:List α) (o:Nat),o<l.length→(l.set o v).take (o+1)=l.take o++[v]
 | [],o,h=>by simp at h
 | x::l,0,_=>by simp
 | x::l,o+1,h=>by
  simp only[J1,NG,CL];rw[UC v l o (by simpa using h)]
theorem UD{α:Type}(v:α):∀(l:List α) (o k:Nat),o<k→(l.set o v).drop k=l.drop k
 | [],_,_,_=>by simp
 | x::l,0,k+1,_=>by simp
 | x::l,o+1,k+1,h=>by
  simp only[J1,List.drop_succ_cons];exact UD v l o k (by omega)
theorem N_(g:Nat)(e:TypeId):∀(vs:List Value) (w:World) (o:Nat) (cur:Array Value),w.heap[g]?=some (.cells cur e (0,0))→o+vs.length≤cur.size →
 (w.setCells g o vs).heap[g]?=some (.cells (cur.toList.take o++vs++cur.toList.drop (o+vs.length)).toArray e (0,0))
 | [],w,o,cur,hg,ho=>by
  simp only[World.setCells,ml,bz,gf,qq,Array.toArray_toList];exact hg
 | v::r,w,o,cur,hg,ho=>by
  simp only[World.setCells];have h1:(w.setCell ⟨g,o,none⟩ v).heap[g]?=some (.cells (cur.setIfInBounds o v) e (0,0)):=by
   simp[World.setCell,Ff,hg]
  simp only[aT] at ho;rw[N_ g e r _ (o+1) _ h1 (by simp;omega)];have hl:o<cur.toList.length:=by simp;omega
  simp only[Array.toList_setIfInBounds,UC v _ _ hl,UD v _ o (o+1+r.length) (by omega),nQ,CL,pE,aT];rw[show o+1+r.length=o+(r.length+1) from by omega]
theorem jF(g:Nat)(R:Option Nat)(hR:R=some g):∀(vs:List Value) (w:World) (o:Nat),w.grownBy (w.setCells g o vs) R
 | [],w,_=>World.grownBy.refl w _
 | v::r,w,o=>by
  subst hR;have h1:w.grownBy (w.setCell ⟨g,o,none⟩ v) (some g):=⟨rfl,rfl,rfl,by simp[World.setCell],fun k _ hk=>Ap w ⟨g,o,none⟩ v k (fun e=>hk (by rw[e]))⟩;exact World.grownBy.trans h1 (jF g _ rfl r _ (o+1))
section
variable {P:Program} {w:World}
theorem Src.abx{size:Nat}{tx e':TypeId}(hk:P.underlying tx=some (.slice e')){lo hi:Nat}{A:Option Addr}{n c:Nat}{news:List Value}(h:Reads (bK w lo hi) size A n news)
 (h1:∀u∈news,u.oneCell'=true):Src P size tx (.slice A n c) n news w:=by
 rcases Aq n with h0 | h0
 ·subst h0;have hn:news=[]:=lC (by simpa using h.1);subst hn;rcases A with _ | ad
  ·exact Src.ofNil w hk c
  exact Src.ofSlice w hk ad 0 c [] (by simp) (fun j u hu=>by simp at hu) h1
 obtain⟨bk,o,rfl,hc⟩:=h.2 h0;exact Src.ofSlice w hk ⟨bk,o,none⟩ n c news h.1 (fun j u hu=>by rw[add_lit];exact(hc j u hu).1) h1
theorem UE{need old:Nat}(h:old<need)(hb:need≤140737488400000):Builtin.nextslicecap need old*1≤281474976710656:=by
 rw[rM];unfold Builtin.nextslicecap;split
 ·omega
 split
 ·omega
 rw[growBy_four]
 repeat' split
 all_goals omega
theorem aby(base:Nat)(t tx ty e:TypeId)(i:TypeInfo)(z:Value)(size bytes:Nat)(ht:P.underlying t=some (.slice e))(hi:P.info? e=some i)(hz:i.zero=some z)
 (hsize:i.size=size) (hby:i.bytes=bytes) (hzs:z.cells.size=size)
 (v:Value) (n:Nat) (xs:List Value) (hown:w.ownsRow base e size v n xs) (x:Value) (m:Nat) (news:List Value) (hs:Src P size tx x m news w)
 (hfit:∀old,old<n+m→Builtin.nextslicecap (n+m) old*bytes≤281474976710656) (h63:n+m≤maxLen) (hbase:base≤w.heap.size) :
 ∃A c w',(Builtin.append_ #[t,tx] ty #[v,x]).run P w=.ok (.slice A (n+m) c) w'∧w'.ownsRow base e size (.slice A (n+m) c) (n+m) (xs++news)∧w.grownBy w' v.ownBlock ∧
  (Value.ownBlock (.slice A (n+m) c)=v.ownBlock∨Value.ownBlock (.slice A (n+m) c)=some w.heap.size):=by
 subst hsize;subst hby
 have hsmall:n+m≤9223372036854775807:=by simp only[maxLen] at h63;omega
 have hlen:(xs++news).length=(n+m)*i.size:=by rw[bG,hown.1,hs.newsLen,mn]
 have grown:∀(old:Nat),old<n+m→∀(row:Option Nat),
  (w.drew.alloc (.cells ((xs++news).toArray++Builtin.zeroCells z.cells (grownCap w (n+m) old e-(n+m))) e)).ownsRow base e i.size
   (.slice (some ⟨w.heap.size,0,none⟩) (n+m) (grownCap w (n+m) old e)) (n+m) (xs++news) ∧
  w.grownBy (w.drew.alloc (.cells ((xs++news).toArray++Builtin.zeroCells z.cells (grownCap w (n+m) old e-(n+m))) e)) row:=by
  intro old ho row;have hge:=grownCap_ge w (n+m) old e;have hcm:grownCap w (n+m) old e≤maxLen:=grownCap_le_maxLen w (n+m) old e h63;refine⟨⟨hlen,.inr ⟨w.heap.size,_,_,rfl,hbase,J0 w.drew _,hge,hcm,?_,?_⟩⟩,⟨rfl,rfl,rfl,by simp,fun k hk _=>Below.heap_alloc w.drew _ k hk⟩⟩
  ·simp only[NH,J2,size_zeroCells,hzs,hlen,← mn];congr 1;omega
  simp only[NI,nQ];rw[← nQ,← hlen];exact List.take_left
 rcases hown.2 with ⟨rfl,rfl⟩ | ⟨g,cap,cur,rfl,hbg,hg,hnc,hcm,hcs,htake⟩
 ·have hx:xs=[]:=lC (by simpa using hown.1);subst hx;by_cases hm:m=0
  ·subst hm;have hn:news=[]:=lC (by simpa using hs.newsLen);subst hn;refine⟨none,0,w,?_,iY w base e _,⟨rfl,rfl,rfl,ay _,fun _ _ _=>rfl⟩,.inl rfl⟩;have hc:=hs.cells;rcases hs.kind with ⟨e',hk⟩ | hk<;>simp[Builtin.append_,wX ht,wX hk,sizeOf,typeInfo,hi,hs.len,hc]
  have hr:=run_append_grow_src (P:=P) w t tx ty e i z ht hi hz none 0 0 [] (run_firstCells_none w.drew i.size 0 0 0) x m news hs (by omega) (by omega) (hfit _ (by omega));have hgr:=grown 0 (by omega) (Value.ownBlock (.slice none 0 0));exact⟨_,_,_,hr,hgr.1,hgr.2,.inr rfl⟩
 by_cases hroom:n+m≤cap
 ·have hcell:∀j,w.cell? ⟨g,j,none⟩=cur[j]?:=fun j=>vD w g j cur e (0,0) hg
  have hin:∀j,j<news.length→n*i.size+j<cur.size:=fun j hj=>by
   rw[hcs];rw[hs.newsLen] at hj;have:(n+m)*i.size≤cap*i.size:=iB _ hroom;rw[mn] at this;omega
  have hr:=run_append_room_src (P:=P) w t tx ty e i ht hi g 0 n cap x m news hs hroom
   (fun j hj=>by rw[hcell,dY];simp[hin j hj]) (fun j hj=>by simp[World.frozen?,hg])
  rw[dY] at hr;refine⟨_,_,_,hr,⟨hlen,.inr ⟨g,cap,(cur.toList.take (n*i.size)++news++cur.toList.drop (n*i.size+news.length)).toArray,rfl,hbg,N_ g e news w (n*i.size) cur hg ?_,hroom,hcm,?_,?_⟩⟩,?_,.inl rfl⟩
  ·have:(n+m)*i.size≤cap*i.size:=iB _ hroom;rw[mn] at this;rw[hcs,hs.newsLen];omega
  ·have:(n+m)*i.size≤cap*i.size:=iB _ hroom;rw[mn] at this;simp only[J2,bG,dS,iM,yJ,hs.newsLen,hcs];omega
  ·rw[htake,← hlen];exact List.take_left
  exact jF g _ rfl news w (n*i.size)
 have holds:∀j u,xs[j]?=some u→w.cell? ((⟨g,0,none⟩:Addr).add j)=some u:=hown.cells (g:=g) rfl;have hr:=run_append_grow_src (P:=P) w t tx ty e i z ht hi hz (some ⟨g,0,none⟩) n cap xs (NJ w.drew i.size n ⟨g,0,none⟩ n cap xs hown.1 (by simpa using holds)) x m news hs (by omega) (by omega) (hfit _ (by omega));have hgr:=grown cap (by omega) (Value.ownBlock (.slice (some ⟨g,0,none⟩) n cap));exact⟨_,_,_,hr,hgr.1,hgr.2,.inr rfl⟩
theorem UF{o:Oper}{a:Act}{K:Act→World→Prop}{Q:Exit→Act→World→Prop}(s x:Operand)(t tx:TypeId)
 (ho:o.op=.call { callee:=.builtin .append,args:=#[s,x],argTypes:=#[t,tx] })
 (base:Nat) (e:TypeId) (i:TypeInfo) (z:Value) (size bytes:Nat) (ht:P.underlying t=some (.slice e)) (hi:P.info? e=some i) (hz:i.zero=some z)
 (hsize:i.size=size) (hby:i.bytes=bytes) (hzs:z.cells.size=size)
 (v:Value) (n:Nat) (xs:List Value) (hv:a.eval s=v) (hown:w.ownsRow base e size v n xs) (u:Value) (m:Nat) (news:List Value) (hx:a.eval x=u) (hs:Src P size tx u m news w)
 (hfit:∀old,old<n+m→Builtin.nextslicecap (n+m) old*bytes≤281474976710656) (h63:n+m≤maxLen) (hbase:base≤w.heap.size)
 (h:∀A c w',w'.ownsRow base e size (.slice A (n+m) c) (n+m) (xs++news)→w.grownBy w' v.ownBlock →
  (Value.ownBlock (.slice A (n+m) c)=v.ownBlock∨Value.ownBlock (.slice A (n+m) c)=some w.heap.size)→K (a.put o.dst (.slice A (n+m) c)) w'):o.wp P a w K Q:=by
 obtain⟨A,c,w',hr,h2,h3,h4⟩:=aby (P:=P) (w:=w) base t tx o.type e i z size bytes ht hi hz hsize hby hzs v n xs hown u m news hs hfit h63 hbase;unfold Oper.wp execOp;simp only[ho,resolve,invoke,builtin,Ar,CM,CN,List.map_toArray,fH,pF,hv,hx,hr];exact h A c w' h2 h3 h4
theorem UG{ops:Array Oper}{rest:List Oper}{o:Oper}{a:Act}{Q:Exit→Act→World→Prop}(hgd:o.guard=none)(s x:Operand)(t tx:TypeId)
 (ho:o.op=.call { callee:=.builtin .append,args:=#[s,x],argTypes:=#[t,tx] })
 (base:Nat) (e:TypeId) (i:TypeInfo) (z:Value) (size bytes:Nat) (ht:P.underlying t=some (.slice e)) (hi:P.info? e=some i) (hz:i.zero=some z)
 (hsize:i.size=size) (hby:i.bytes=bytes) (hzs:z.cells.size=size)
 (v:Value) (n:Nat) (xs:List Value) (hv:a.eval s=v) (hown:w.ownsRow base e size v n xs) (u:Value) (m:Nat) (news:List Value) (hx:a.eval x=u) (hs:Src P size tx u m news w)
 (hfit:∀old,old<n+m→Builtin.nextslicecap (n+m) old*bytes≤281474976710656) (h63:n+m≤maxLen) (hbase:base≤w.heap.size)
 (h:∀A c w',w'.ownsRow base e size (.slice A (n+m) c) (n+m) (xs++news)→w.grownBy w' v.ownBlock →
  (Value.ownBlock (.slice A (n+m) c)=v.ownBlock∨Value.ownBlock (.slice A (n+m) c)=some w.heap.size)→wpList P ops Q rest (a.put o.dst (.slice A (n+m) c)) w'):wpList P ops Q (o::rest) a w:=
 wpList_plain hgd fun _ hK=>UF s x t tx ho base e i z size bytes ht hi hz hsize hby hzs v n xs hv hown u m news hx hs hfit h63 hbase fun A c w' h2 h3 h4=>hK _ _ (h A c w' h2 h3 h4)
theorem UH{ops:Array Oper}{o:Oper}{a:Act}{K:Act→World→Prop}{Q:Exit→Act→World→Prop}{E:Prop}(hgd:o.guard=none)(s x:Operand)(t tx:TypeId)
 (ho:o.op=.call { callee:=.builtin .append,args:=#[s,x],argTypes:=#[t,tx] })
 (base:Nat) (e:TypeId) (i:TypeInfo) (z:Value) (size bytes:Nat) (ht:P.underlying t=some (.slice e)) (hi:P.info? e=some i) (hz:i.zero=some z)
 (hsize:i.size=size) (hby:i.bytes=bytes) (hzs:z.cells.size=size)
 (v:Value) (n:Nat) (xs:List Value) (hv:a.eval s=v) (hown:w.ownsRow base e size v n xs) (u:Value) (m:Nat) (news:List Value) (hx:a.eval x=u) (hs:Src P size tx u m news w)
 (hfit:∀old,old<n+m→Builtin.nextslicecap (n+m) old*bytes≤281474976710656) (h63:n+m≤maxLen) (hbase:base≤w.heap.size)
 (h:∀A c w',w'.ownsRow base e size (.slice A (n+m) c) (n+m) (xs++news)→w.grownBy w' v.ownBlock →
  (Value.ownBlock (.slice A (n+m) c)=v.ownBlock∨Value.ownBlock (.slice A (n+m) c)=some w.heap.size)→K (a.put o.dst (.slice A (n+m) c)) w') :
 if Region.wanted o (yielded ops a.tmps)=true then Oper.wp P o a w K Q else E:=by
 have hw:Region.wanted o (yielded ops a.tmps)=true:=by simp[Region.wanted,hgd]
 rw[aw hw];exact UF s x t tx ho base e i z size bytes ht hi hz hsize hby hzs v n xs hv hown u m news hx hs hfit h63 hbase h
theorem xg{ops:Array Oper}{rest:List Oper}{o:Oper}{a:Act}{Q:Exit→Act→World→Prop}(hgd:o.guard=none)(s x:Operand)(t tx:TypeId)
 (ho:o.op=.call { callee:=.builtin .append,args:=#[s,x],argTypes:=#[t,tx] })
 (base:Nat) (e:TypeId) (i:TypeInfo) (z:Value) (size bytes:Nat) (ht:P.underlying t=some (.slice e)) (hi:P.info? e=some i) (hz:i.zero=some z)
 (hsize:i.size=size) (hby:i.bytes=bytes) (hzs:z.cells.size=size)
 (v:Value) (n:Nat) (xs:List Value) (hv:a.eval s=v) (hown:w.ownsRow base e size v n xs) (u:Value) (m:Nat) (news:List Value) (hx:a.eval x=u) (hs:Src P size tx u m news w)
 (hbytes:(n+m)*bytes≤140737488355328) (h63:n+m≤maxLen) (hbase:base≤w.heap.size)
 (h:∀A c w',w'.ownsRow base e size (.slice A (n+m) c) (n+m) (xs++news)→w.grownBy w' v.ownBlock →
  (Value.ownBlock (.slice A (n+m) c)=v.ownBlock∨Value.ownBlock (.slice A (n+m) c)=some w.heap.size)→wpList P ops Q rest (a.put o.dst (.slice A (n+m) c)) w'):wpList P ops Q (o::rest) a w:=
 UG hgd s x t tx ho base e i z size bytes ht hi hz hsize hby hzs v n xs hv hown u m news hx hs (fun _ ho=>J3 ho hbytes) h63 hbase h
theorem jg{ops:Array Oper}{o:Oper}{a:Act}{K:Act→World→Prop}{Q:Exit→Act→World→Prop}{E:Prop}(hgd:o.guard=none)(s x:Operand)(t tx:TypeId)
 (ho:o.op=.call { callee:=.builtin .append,args:=#[s,x],argTypes:=#[t,tx] })
 (base:Nat) (e:TypeId) (i:TypeInfo) (z:Value) (size bytes:Nat) (ht:P.underlying t=some (.slice e)) (hi:P.info? e=some i) (hz:i.zero=some z)
 (hsize:i.size=size) (hby:i.bytes=bytes) (hzs:z.cells.size=size)
 (v:Value) (n:Nat) (xs:List Value) (hv:a.eval s=v) (hown:w.ownsRow base e size v n xs) (u:Value) (m:Nat) (news:List Value) (hx:a.eval x=u) (hs:Src P size tx u m news w)
 (hbytes:(n+m)*bytes≤140737488355328) (h63:n+m≤maxLen) (hbase:base≤w.heap.size)
 (h:∀A c w',w'.ownsRow base e size (.slice A (n+m) c) (n+m) (xs++news)→w.grownBy w' v.ownBlock →
  (Value.ownBlock (.slice A (n+m) c)=v.ownBlock∨Value.ownBlock (.slice A (n+m) c)=some w.heap.size)→K (a.put o.dst (.slice A (n+m) c)) w') :
 if Region.wanted o (yielded ops a.tmps)=true then Oper.wp P o a w K Q else E:=
 UH hgd s x t tx ho base e i z size bytes ht hi hz hsize hby hzs v n xs hv hown u m news hx hs (fun _ ho=>J3 ho hbytes) h63 hbase h
end
end
section
open Go.RowKit
def le:List UInt8→Nat
 | []=>0
 | x::r=>x.toNat+256*le r
def j5(k n:Nat):List UInt8:=(List.range k).map fun i=>UInt8.ofNat (n / 256 ^ i)
theorem jG(k n:Nat):(j5 k n).length=k:=by simp[j5]
theorem UJ(k n:Nat):j5 (k+1) n=j5 k n++[UInt8.ofNat (n / 256 ^ k)]:=by simp[j5,List.range_succ]
theorem mv{α:Type}(l:List α)(k:Nat)(h:k<l.length):l.take (k+1)=l.take k++[l[k]]:=J4 h
theorem Oa(j:Nat):(2:Nat) ^ (8*j)=256 ^ j:=by rw[Nat.pow_mul]
theorem Ob(n j:Nat):((UInt8.ofNat (n / 256 ^ j)).toNat:Int)=((n / 256 ^ j % 256:Nat):Int):=by rw[Au]
theorem C6{α:Type}(g:α→Nat)(l:List α)(m k:Nat)(h:k<l.length):((l.take (k+1)).map g).foldl max m=max (((l.take k).map g).foldl max m) (g l[k]):=by
 rw[mv l k h,nR,List.foldl_append];rfl
theorem C7(l:List Nat)(m k:Nat):l.foldl max m≤k↔m≤k∧∀x∈l,x≤k:=by
 induction l generalizing m with
 | nil=>simp
 | cons y l ih =>
  simp only[J5,ih,je,forall_eq_or_imp];constructor
  ·rintro⟨h1,h2⟩;exact⟨by omega,by omega,h2⟩
  rintro⟨h1,h2,h3⟩;exact⟨by omega,h3⟩
theorem yQ{α:Type}(g:α→List UInt8)(l:List α)(j:Nat)(h:j<l.length):((l.take (j+1)).map g).flatten=((l.take j).map g).flatten++g l[j]:=by
 rw[mv l j h,nR,Av];simp only[fH,pF,mo,J6,ml]
theorem yR{α:Type}(g:α→List UInt8)(l:List α)(j:Nat):((l.take j).map g).flatten.length≤(l.map g).flatten.length:=by
 have:l.map g=(l.take j).map g++(l.drop j).map g:=by rw[← nR,qq]
 rw[this,Av,bG];omega
theorem UK{α:Type}(g:α→List UInt8)(l:List α)(x:α)(h:x∈l):(g x).length≤(l.map g).flatten.length:=by
 obtain⟨a,b,rfl⟩:=List.append_of_mem h;simp;omega
theorem UL{α:Type}(l:List α)(p:α→Bool):(l.attach.all fun x=>p x.1)=l.all p:=by rw[Fg];simp
namespace V
def count:V→Nat
 | mk _ _ _ l f=>1+(l.attach.map fun x=>count x.1).sum+(f.attach.map fun x=>count x.1.2).sum
termination_by v=>SizeOf.sizeOf v
decreasing_by
 ·exact rR x.2
 exact rS x.2
theorem count_mk(k:Int)(n:Nat)(b:List UInt8)(l:List V)(f:List (ByteArray×V)):(mk k n b l f).count=1+(l.map count).sum+(f.map fun x=>x.2.count).sum:=by
 rw[count];simp only[CO,CP]
def most:V→Nat
 | mk _ _ _ l f=>(f.attach.map fun x=>most x.1.2).foldl max ((l.attach.map fun x=>most x.1).foldl max (max l.length f.length))
termination_by v=>SizeOf.sizeOf v
decreasing_by
 ·exact rR x.2
 exact rS x.2
theorem Oc(k:Int)(n:Nat)(b:List UInt8)(l:List V)(f:List (ByteArray×V)):(mk k n b l f).most=(f.map fun x=>x.2.most).foldl max ((l.map most).foldl max (max l.length f.length)):=by
 rw[most];simp only[CO,CP]
def depth:V→Nat
 | mk k _ _ l f=>(if k=7∨k=8 then 1 else 0)+(f.attach.map fun x=>depth x.1.2).foldl max ((l.attach.map fun x=>depth x.1).foldl max 0)
termination_by v=>SizeOf.sizeOf v
decreasing_by
 ·exact rR x.2
 exact rS x.2
theorem yS(k:Int)(n:Nat)(b:List UInt8)(l:List V)(f:List (ByteArray×V)):(mk k n b l f).depth=(if k=7∨k=8 then 1 else 0)+(f.map fun x=>x.2.depth).foldl max ((l.map depth).foldl max 0):=by
 rw[depth];simp only[CO,CP]
def item(s:ByteArray)(r:List UInt8):List UInt8:=UInt8.ofNat s.size::(s.data.toList++r)
def bytes:V→List UInt8
 | mk k n b l f=>UInt8.ofNat k.toNat ::
  (if k=2 then [UInt8.ofNat n] else if k=3∨k=4 then j5 8 n else if k=5∨k=6 then j5 2 b.length++b
   else if k=7 then UInt8.ofNat l.length::(l.attach.map fun x=>bytes x.1).flatten
   else if k=8 then UInt8.ofNat f.length::(f.attach.map fun x=>item x.1.1 (bytes x.1.2)).flatten else [])
termination_by v=>SizeOf.sizeOf v
decreasing_by
 ·exact rR x.2
 exact rS x.2
theorem xh(k:Int)(n:Nat)(b:List UInt8)(l:List V)(f:List (ByteArray×V)):(mk k n b l f).bytes=UInt8.ofNat k.toNat ::
 (if k=2 then [UInt8.ofNat n] else if k=3∨k=4 then j5 8 n else if k=5∨k=6 then j5 2 b.length++b
  else if k=7 then UInt8.ofNat l.length::(l.map bytes).flatten
  else if k=8 then UInt8.ofNat f.length::(f.map fun x=>item x.1 x.2.bytes).flatten else []):=by
 rw[bytes];simp only[CO,CP]
def name(s:ByteArray):Bool:=decide (1≤s.size∧s.size≤32)&&s.data.toList.all (fun c=>decide (32≤c.toNat∧c.toNat≠46))&&Lib.validD s.data.toList
def own(k:Int)(n:Nat)(b:List UInt8)(nl nf:Nat):Bool:=
 decide (1≤k∧k≤8)&&decide (k=2∨k=3∨k=4∨n=0)&&decide (k=2→n≤1)&&decide (k=5∨k=6∨b.length=0)&&(decide (k≠5)||Lib.validD b)&&decide (k=7∨nl=0)&&decide (k=8∨nf=0)
def formed:V→Bool
 | mk k n b l f=>own k n b l.length f.length&&(l.attach.all fun x=>formed x.1)&&(f.attach.all fun x=>name x.1.1&&formed x.1.2)&&decide ((f.map Prod.fst).Nodup)
termination_by v=>SizeOf.sizeOf v
decreasing_by
 ·exact rR x.2
 exact rS x.2
theorem UM(k:Int)(n:Nat)(b:List UInt8)(l:List V)(f:List (ByteArray×V)):(mk k n b l f).formed=(own k n b l.length f.length&&(l.all formed)&&(f.all fun x=>name x.1&&x.2.formed)&&decide ((f.map Prod.fst).Nodup)):=by
 rw[formed,UL l formed,UL f (fun x=>name x.1&&x.2.formed)]
theorem Od{k:Int}{n:Nat}{b:List UInt8}{l:List V}{f:List (ByteArray×V)}{x:V}(h:x∈l):x.depth≤(mk k n b l f).depth:=by
 rw[yS];have h1:=(C7 (f.map fun x=>x.2.depth) ((l.map depth).foldl max 0) _).1 (ay _);have h2:=(C7 (l.map depth) 0 _).1 (ay _);have:=h2.2 _ (NK h);omega
theorem Oe{k:Int}{n:Nat}{b:List UInt8}{l:List V}{f:List (ByteArray×V)}{x:ByteArray×V}(h:x∈f):x.2.depth≤(mk k n b l f).depth:=by
 rw[yS];have h1:=(C7 (f.map fun x=>x.2.depth) ((l.map depth).foldl max 0) _).1 (ay _);have:=h1.2 _ (NK (f:=fun x:ByteArray×V=>x.2.depth) h);omega
theorem UN(l:List V):(mk 7 0 [] l []).depth=1+(l.map depth).foldl max 0:=by rw[yS];simp
theorem Og(f:List (ByteArray×V)):(mk 8 0 [] [] f).depth=1+(f.map fun x=>x.2.depth).foldl max 0:=by rw[yS];simp
theorem UO(l:List V):(mk 7 0 [] l []).bytes=7::UInt8.ofNat l.length::(l.map bytes).flatten:=by rw[xh];simp
theorem UQ(f:List (ByteArray×V)):(mk 8 0 [] [] f).bytes=8::UInt8.ofNat f.length::(f.map fun x=>item x.1 x.2.bytes).flatten:=by rw[xh];simp
theorem UR(s:ByteArray)(r:List UInt8):(item s r).length=1+s.size+r.length:=by
 simp only[item,aT,bG,yJ];have:s.data.size=s.size:=rfl;omega
def good(v:V):Int:=if v.formed=false then 4 else if 64<v.most then 19 else if 16<v.depth then 3 else if 4096<v.bytes.length then 2 else 0
theorem FQ{v:V}(h:v.formed=true):v=mk 1 0 [] [] []∨(∃n,n≤1∧v=mk 2 n [] [] [])∨(∃n,v=mk 3 n [] [] [])∨(∃n,v=mk 4 n [] [] []) ∨
 (∃b,Lib.validD b=true∧v=mk 5 0 b [] [])∨(∃b,v=mk 6 0 b [] [])∨(∃l,(∀x∈l,formed x=true)∧v=mk 7 0 [] l []) ∨
 (∃f:List (ByteArray×V),(∀x∈f,name x.1=true∧x.2.formed=true)∧(f.map Prod.fst).Nodup∧v=mk 8 0 [] [] f):=by
 obtain⟨k,n,b,l,f⟩:=v;rw[UM] at h;simp only[own,il,J7,iC,nS] at h;obtain⟨⟨⟨⟨⟨⟨⟨⟨⟨h1,h2⟩,h3⟩,h4⟩,h5⟩,h6⟩,h7⟩,hl⟩,hf⟩,hn⟩:=h;have hL:k≠7→l=[]:=fun hk=>lC (by omega)
 have hF:k≠8→f=[]:=fun hk=>lC (by omega)
 have hB:k≠5→k≠6→b=[]:=fun h1 h2=>lC (by omega)
 have hN:k≠2→k≠3→k≠4→n=0:=fun h1 h2 h3=>by omega
 have hk:k=1∨k=2∨k=3∨k=4∨k=5∨k=6∨k=7∨k=8:=by omega
 rcases hk with rfl | rfl | rfl | rfl | rfl | rfl | rfl | rfl
 ·rw[hL (by decide),hF (by decide),hB (by decide) (by decide),hN (by decide) (by decide) (by decide)];exact .inl rfl
 ·rw[hL (by decide),hF (by decide),hB (by decide) (by decide)];exact .inr (.inl ⟨n,h3 rfl,rfl⟩)
 ·rw[hL (by decide),hF (by decide),hB (by decide) (by decide)];exact .inr (.inr (.inl ⟨n,rfl⟩))
 ·rw[hL (by decide),hF (by decide),hB (by decide) (by decide)];exact .inr (.inr (.inr (.inl ⟨n,rfl⟩)))
 ·rw[hL (by decide),hF (by decide),hN (by decide) (by decide) (by decide)];exact .inr (.inr (.inr (.inr (.inl ⟨b,h5.resolve_left (by decide),rfl⟩))))
 ·rw[hL (by decide),hF (by decide),hN (by decide) (by decide) (by decide)];exact .inr (.inr (.inr (.inr (.inr (.inl ⟨b,rfl⟩)))))
 ·rw[hF (by decide),hB (by decide) (by decide),hN (by decide) (by decide) (by decide)];exact .inr (.inr (.inr (.inr (.inr (.inr (.inl ⟨l,hl,rfl⟩))))))
 rw[hL (by decide),hB (by decide) (by decide),hN (by decide) (by decide) (by decide)];exact .inr (.inr (.inr (.inr (.inr (.inr (.inr ⟨f,hf,hn,rfl⟩))))))
end V
end
section
open Go.RowKit
theorem FR:(prog.info? 5).map (fun i=>(i.zero,i.size,i.bytes))=some (some (.int .u8 0),1,1):=by kernel_rfl
theorem eH:prog.underlying 23=some (.slice 5):=by kernel_rfl
theorem qz:prog.underlying 9=some .string:=by kernel_rfl
theorem cA{k:IntKind}{a b:Int}(h:a=b):Ending.returned (.int k a)=.returned (.int k b):=by rw[h]
theorem bA.at_{w:World}{A:Option Addr}{b:List UInt8}(h:bA w A b)(j:Nat)(hj:j<b.length):∃bk o,A=some ⟨bk,o,none⟩∧bk<w.heap.size∧w.cell? ⟨bk,o+j,none⟩=some (.int .u8 (b[j].toNat:Int)):=by
 obtain⟨bk,o,e,hc⟩:=h.2 (by omega);have:=hc j _ (xf b j hj);exact⟨bk,o,e,this.2.2,this.1⟩
def abz(w:World)(v v':Value):Prop:=v'.ownBlock=v.ownBlock∨∃g,v'.ownBlock=some g∧w.heap.size≤g
theorem Src.one{w:World}(u:Value)(h1:u.oneCell'=true)(e:TypeId):Src prog 1 23 (.slice (some ⟨w.heap.size,0,none⟩) 1 1) 1 [u] (w.alloc (.cells #[u] e)):=
 Src.ofSlice _ eH ⟨w.heap.size,0,none⟩ 1 1 [u] rfl (cell_one_new w u e) (fun x hx=>by simp at hx;subst hx;exact h1)
theorem abA(b:List UInt8)(x:UInt8):bT b++[.int .u8 (x.toNat:Int)]=bT (b++[x]):=by simp[bT]
def Row(w:World)(base:Nat)(v:Value)(m:Nat)(xs:List UInt8):Prop:=w.ownsRow base 5 1 v m (bT xs)
structure vM (w:World) (v:Value) (w':World) (v':Value):Prop where
 grow:w.grownBy w' v.ownBlock
 lies:abz w v v'
theorem vM.size{w w':World}{v v':Value}(h:vM w v w' v'):w.heap.size≤w'.heap.size:=h.grow.size
theorem Row.alloc{w:World}{base m:Nat}{v:Value}{xs:List UInt8}(h:Row w base v m xs)(o:Obj):Row (w.alloc o) base v m xs:=Fh h o
theorem Row.drew{w:World}{base m:Nat}{v:Value}{xs:List UInt8}(h:Row w base v m xs):Row w.drew base v m xs:=h
theorem Row.grow{w w':World}{base m:Nat}{v:Value}{xs:List UInt8}(h:Row w base v m xs)(hg:Grow w w'):Row w' base v m xs:=
 oI h (row:=none) ⟨hg.os,hg.tape,hg.output,hg.size,fun k hk _=>hg.below.block k hk⟩ (by cases v.ownBlock<;>simp)
theorem vM.below{w w':World}{base m:Nat}{v v':Value}{xs:List UInt8}(h:vM w v w' v')(hr:Row w base v m xs)(hb:base≤w.heap.size):Below base w w':=
 (jZ base w).grown h.grow hb (fun k hk=>(bO hr k hk).1)
theorem vM.blk{w w':World}{v v':Value}(h:vM w v w' v'){g:Nat}{t:TypeId}{cs:Array Value}(hb:Blk w g t cs)(hne:v.ownBlock≠some g):Blk w' g t cs:=
 (h.grow.block g hb.lt (fun e=>hne e.symm)).trans hb
theorem Row.ne{w:World}{base m:Nat}{v:Value}{xs:List UInt8}(h:Row w base v m xs){g:Nat}{t:TypeId}{cs:Array Value}(hb:Blk w g t cs)(ht:t≠5):v.ownBlock≠some g:=by
 rcases h.2 with ⟨rfl,_⟩ | ⟨g',cap,cur,rfl,_,hh,_⟩
 ·simp[Value.ownBlock]
 intro he;have:g'=g:=by simpa [Value.ownBlock] using he
 subst this;unfold Blk at hb;rw[hh] at hb;injection hb with hb;injection hb with _ e;exact ht e.symm
theorem Row.made{w:World}(cur:Array Value)(cap:Nat)(hm:cap≤maxLen)(hs:cur.size=cap):Row (w.alloc (.cells cur 5)) w.heap.size (.slice (some ⟨w.heap.size,0,none⟩) 0 cap) 0 []:=
 tE w cur cap (ay _) hm (by omega)
theorem Row.reads{w:World}{base m:Nat}{A:Option Addr}{c:Nat}{xs:List UInt8}(h:Row w base (.slice A m c) m xs):bA w A xs∧xs.length=m:=by
 have hl:xs.length=m:=by simpa [bT] using h.1
 refine⟨⟨by rw[FP,rM],fun hn=>?_⟩,hl⟩;obtain⟨g,cap,hv,_,hlt⟩:=World.ownsRow.form h (by omega);have hA:A=some ⟨g,0,none⟩:=by injection hv
 subst hA;refine⟨g,0,rfl,fun j u hu=>⟨?_,ba _,hlt⟩⟩;rw[← add_lit];exact J8 h (g:=g) rfl j u hu
section
variable {w:World} {ops:Array Oper} {rest:List Oper} {o:Oper} {a:Act} {Q:Exit→Act→World→Prop}
theorem gy(hgd:o.guard=none)(s x:Operand)(tx:TypeId)
 (ho:o.op=.call { callee:=.builtin .append,args:=#[s,x],argTypes:=#[23,tx] })
 {base m:Nat} {A:Option Addr} {c:Nat} {xs ys:List UInt8} (hv:a.eval s=.slice A m c) (hrow:Row w base (.slice A m c) m xs) (u:Value) (hx:a.eval x=u) (hs:Src prog 1 tx u ys.length (bT ys) w)
 (hbytes:m+ys.length≤140737488400000) (hbase:base≤w.heap.size)
 (h:∀A' c' w',Row w' base (.slice A' (m+ys.length) c') (m+ys.length) (xs++ys)→vM w (.slice A m c) w' (.slice A' (m+ys.length) c')→wpList prog ops Q rest (a.put o.dst (.slice A' (m+ys.length) c')) w'):wpList prog ops Q (o::rest) a w:=by
 obtain⟨i0,hi0,hz0,hz1,hz2⟩:=info_parts FR;refine UG hgd s x _ tx ho base 5 i0 _ 1 1 eH hi0 hz0 hz1 hz2 rfl _ m _ hv hrow u ys.length _ hx hs (fun _ ho=>UE ho hbytes) (by simp only[maxLen];omega) hbase (fun A' c' w' h2 h3 h4=>h A' c' w' ?_ ⟨h3,?_⟩)
 ·unfold Row;rw[UB];exact h2
 rcases h4 with h4 | h4
 ·exact .inl h4
 exact .inr ⟨_,h4,ay _⟩
theorem oJ{K:Act→World→Prop}{E:Prop}(hgd:o.guard=none)(s x:Operand)(tx:TypeId)
 (ho:o.op=.call { callee:=.builtin .append,args:=#[s,x],argTypes:=#[23,tx] })
 {base m:Nat} {A:Option Addr} {c:Nat} {xs ys:List UInt8} (hv:a.eval s=.slice A m c) (hrow:Row w base (.slice A m c) m xs) (u:Value) (hx:a.eval x=u) (hs:Src prog 1 tx u ys.length (bT ys) w)
 (hbytes:m+ys.length≤140737488400000) (hbase:base≤w.heap.size)
 (h:∀A' c' w',Row w' base (.slice A' (m+ys.length) c') (m+ys.length) (xs++ys)→vM w (.slice A m c) w' (.slice A' (m+ys.length) c')→K (a.put o.dst (.slice A' (m+ys.length) c')) w') :
 if Region.wanted o (yielded ops a.tmps)=true then Oper.wp prog o a w K Q else E:=by
 obtain⟨i0,hi0,hz0,hz1,hz2⟩:=info_parts FR;refine UH hgd s x _ tx ho base 5 i0 _ 1 1 eH hi0 hz0 hz1 hz2 rfl _ m _ hv hrow u ys.length _ hx hs (fun _ ho=>UE ho hbytes) (by simp only[maxLen];omega) hbase (fun A' c' w' h2 h3 h4=>h A' c' w' ?_ ⟨h3,?_⟩)
 ·unfold Row;rw[UB];exact h2
 rcases h4 with h4 | h4
 ·exact .inl h4
 exact .inr ⟨_,h4,ay _⟩
end
theorem kG{w:World}{g:Nat}{e:Int}(b:UInt8)(he:(b.toNat:Int)=e)(hb:Blk w g 5 #[.int .u8 e]):Src prog 1 23 (.slice (some ⟨g,0,none⟩) 1 1) [b].length (bT [b]) w:=by
 refine Src.ofSlice w eH ⟨g,0,none⟩ 1 1 (bT [b]) rfl (fun j u hu=>?_) (i6 _);rw[add_lit,dY,hb.cell]
 match j,hu with
 | 0,hu=>simp[bT] at hu ⊢;rw[← hu,he]
theorem Ky(n size:Nat)(w:World)(_hn:n<18446744073709551616)(hs:size≤8) :
 Calls prog 152 #[.int .u64 n,.int .i64 size] w fun e w'=>∃A' c',e=.returned (.slice A' size c')∧Row w' w.heap.size (.slice A' size c') size (j5 size n)∧Grow w w':=by
 obtain⟨i0,hi0,hz0,hz1,hz2⟩:=info_parts FR;have gU:=aa hi0;have gV:=aa hz0;have gW:=aa hz1;have gX:=aa hz2;clear hi0 hz0 hz1 hz2;go_enter func152,ntmps152;go_wp2_with fail;go_loopg [5,6] (size+1) (fun gk v' i wr=>∃(j:Nat) (A':Option Addr) (c':Nat),j≤size∧gk+j=size+1∧i=.int .i64 j∧v'=.slice A' j c'∧wr.ownsRow w.heap.size 5 1 (.slice A' j c') j (bT (j5 j n))∧Grow w wr);exact⟨0,none,0,by omega,by omega,rfl,rfl,iY _ _ _ _,Grow.refl _⟩;obtain⟨j,A',c',hj,hg,rfl,rfl,hown,hgr⟩:=hrel;obtain⟨gk',rfl⟩:=bS gk (by omega);have hz:=hgr.size;by_cases hlt:j<size
 ·have HO:=aa hown;have HG:=aa hgr;clear hown hgr;have hB:Hid (bT (j5 j n)++[.int .u8 ((n:Int) / 2 ^ (8*j) % 256)]=bT (j5 (j+1) n)):=by
   show _=_;rw[UJ,← abA,Ob,← Oa];rfl
  go_wp2_with (at_builtin;refine xg rfl (.tmp 12) (.tmp 19) _ _ rfl w.heap.size 5 i0 _ 1 1 eH gU.o gV.o gW.o gX.o rfl (.slice A' j c') j _ rfl (HO.o.alloc _) _ 1 _ rfl (Src.one _ rfl _) (by omega) (by simp only[maxLen];omega) (by simp;omega) ?_;intro A2 c2 w2 hown2 UT abB);rw[hB.o] at hown2;have HG2:=aa ((HG.o.alloc _).grown UT (fun k hk=>(HO.o.lt k hk).1));have HO2:=aa hown2;clear hown2 UT abB HG HO hB;go_wp2_with fail;go_roundg gk';exact⟨j+1,A2,c2,by omega,by omega,by go_num,rfl,HO2.o,HG2.o⟩;omega
 obtain rfl:j=size:=by omega
 have HO:=aa hown;have HG:=aa hgr;clear hown hgr hg hlt;go_wp2_with fail;go_ret;exact⟨A',c',rfl,HO.o,HG.o⟩
end
section
open Go.RowKit
abbrev thrown(e:Int):List PanicEntry:=[{ v:=.iface 29 (.int .i64 e),recovered:=false }]
theorem abC(b:List UInt8)(n:Nat):bT (b.drop n)=(bT b).drop n:=by simp[bT]
end
abbrev ah:=@Grow.refl
abbrev aD:=@Blk.new
abbrev cX:=@Blk.new'
abbrev eI:=@vM.below
abbrev fk:=@bK.below
abbrev eX:=@Reads.mono
abbrev fw:=@IsV.mono
abbrev fe:=@Src.abx
abbrev i7:=@V.xh
abbrev mz:=@eN.open
abbrev oK:=@In.grow
abbrev qA:=@Row.ne
abbrev tO:=@Grow.trans
abbrev rT:=@V.UM
abbrev rU:=@V.FQ
abbrev tP:=@V.count_mk
abbrev yT:=@Grow.alloc
abbrev C8:=@Row.grow
abbrev AK:=@V.UQ
abbrev C9:=@V.UO
abbrev C_:=@V.UR
section
open Go.RowKit
theorem Da:prog.underlying 5=some (.int .u8):=by kernel_rfl
theorem qB{w:World}{A:Option Addr}{b:List UInt8}{lo hi:Nat}(c:Nat)(h:Reads (bK w lo hi) 1 A b.length (bT b)) :
 (convert 23 9 (.slice A b.length c)).run prog w=.ok (.string ⟨b.toArray⟩) w:=by
 rcases Aq b.length with h0 | h0
 ·have:b=[]:=lC h0;subst this;rcases A with _ | ad
  ·exact Lib.run_convert_nil_bytes w _ _ _ c eH Da qz
  exact run_convert_bytes_back w _ _ _ ad c [] eH Da qz (fun j hj=>absurd hj (by simp))
 obtain⟨bk,o,rfl,hc⟩:=h.2 h0;refine run_convert_bytes_back w _ _ _ _ c b eH Da qz (fun j hj=>?_);rw[add_lit];exact(hc j _ (xf b j hj)).1
open Classical in
noncomputable def mA(a b:V):Bool:=decide (a=b)
theorem UU(a:V):mA a a=true:=by simp[mA]
theorem Db{a b:V}(h:a≠b):mA a b=false:=by simp[mA,h]
theorem Oh{a b:V}:mA a b=true↔a=b:=by simp[mA]
theorem yU(a b:ByteArray):(a.toList==b.toList)=true↔a=b:=by rw[← beq_toListBytes];exact MapKept.bytes_beq a b
theorem dE{a b:Bool}(h:a=b):Ending.returned (.bool a)=.returned (.bool b):=by rw[h]
theorem UW{α:Type}{l l':List α}(hl:l.length=l'.length)(h:∀i (h1:i<l.length) (h2:i<l'.length),l[i]=l'[i]):l=l':=List.ext_getElem hl h
theorem abD(k k':Int)(n n':Nat)(b b':List UInt8)(l l':List V)(f f':List (ByteArray×V))(c c':Cv)(w:World)(hv:In w (.mk k n b l f) c)(hv':In w (.mk k' n' b' l' f') c')
 (hne:k≠k'∨n≠n'∨b≠b'∨l.length≠l'.length∨f.length≠f'.length) :
 Calls prog 26 #[c.agg,c'.agg] w fun e w'=>e=.returned (.bool false)∧Grow w w':=by
 obtain⟨aB,aL,aF,cB,cL,cF,rfl,h1,h2,h3,h4,h5,h6,h7,h8,h9,hb⟩:=hv.open;obtain⟨qC,tQ,tR,qD,tS,tT,rfl,h1',h2',h3',h4',qE,h6',Kz,xk,KA,hb'⟩:=hv'.open;have hc1:∀o1 o2:Obj,(convert 23 9 (.slice aB b.length cB)).run prog ((w.alloc o1).alloc o2)=.ok (.string ⟨b.toArray⟩) ((w.alloc o1).alloc o2):=fun o1 o2=>qB _ (hb.grow (((ah w).alloc o1).alloc o2))
 have hc2:∀o1 o2:Obj,(convert 23 9 (.slice qC b'.length qD)).run prog ((w.alloc o1).alloc o2)=.ok (.string ⟨b'.toArray⟩) ((w.alloc o1).alloc o2):=fun o1 o2=>qB _ (hb'.grow (((ah w).alloc o1).alloc o2))
 clear hv hv' hb hb' h1 h2 h3 h4 h5 h6 h7 h8 h9 h1' h2' h3' h4' qE h6' Kz xk KA;by_cases e1:k=k'
 ·by_cases e2:n=n'
  ·by_cases e3:b=b'
   ·have nT:=((hne.resolve_left (fun h=>h e1)).resolve_left (fun h=>h e2)).resolve_left (fun h=>h e3);clear hne;subst e1 e2 e3;by_cases e4:l.length=l'.length
    ·have e5:f.length≠f'.length:=nT.resolve_left (fun h=>h e4);have t4:((l.length:Int) != (l'.length:Int))=false:=by simp[e4]
     have t5:((f.length:Int) != (f'.length:Int))=true:=by simp;omega
     clear nT e4 e5;go_enter func26,ntmps26;go_wp2_with fail;go_ret;exact⟨rfl,((ah w).alloc _).alloc _⟩
    have t4:((l.length:Int) != (l'.length:Int))=true:=by simp;omega
    clear nT e4;go_enter func26,ntmps26;go_wp2_with fail;go_ret;exact⟨rfl,((ah w).alloc _).alloc _⟩
   subst e1 e2;have t3:(b==b')=false:=by simpa using e3
   clear hne e3;go_enter func26,ntmps26;go_wp2_with fail;go_ret;exact⟨rfl,((ah w).alloc _).alloc _⟩
  subst e1;have t2:((n:Int) != (n':Int))=true:=by simp;omega
  clear hne e2;go_enter func26,ntmps26;go_wp2_with fail;go_ret;exact⟨rfl,((ah w).alloc _).alloc _⟩
 have t1:(k != k')=true:=by simpa using e1
 clear hne e1;go_enter func26,ntmps26;go_wp2_with fail;go_ret;exact⟨rfl,((ah w).alloc _).alloc _⟩
def Oi(x:V):Prop:=∀(y:V) (w:World) (c c':Cv),In w x c→In w y c' →
 Calls prog 26 #[c.agg,c'.agg] w fun e w'=>e=.returned (.bool (mA x y))∧Grow w w'
theorem abE(k:Int)(n:Nat)(b:List UInt8)(l l':List V)(f f':List (ByteArray×V))(c c':Cv)(w:World)(hv:In w (.mk k n b l f) c)(hv':In w (.mk k n b l' f') c')
 (hll:l.length=l'.length) (mB:f.length=f'.length) (hl:∀x∈l,Oi x) (hf:∀x∈f,Oi x.2) :
 Calls prog 26 #[c.agg,c'.agg] w fun e w'=>e=.returned (.bool (mA (.mk k n b l f) (.mk k n b l' f')))∧Grow w w':=by
 obtain⟨aB,aL,aF,cB,cL,cF,rfl,h1,h2,h3,h4,h5,h6,h7,h8,h9,hb⟩:=hv.open;obtain⟨qC,tQ,tR,qD,tS,tT,rfl,h1',h2',h3',h4',qE,h6',Kz,xk,KA,hb'⟩:=hv'.open;have hc1:∀o1 o2:Obj,(convert 23 9 (.slice aB b.length cB)).run prog ((w.alloc o1).alloc o2)=.ok (.string ⟨b.toArray⟩) ((w.alloc o1).alloc o2):=fun o1 o2=>qB _ (hb.grow (((ah w).alloc o1).alloc o2))
 have hc2:∀o1 o2:Obj,(convert 23 9 (.slice qC b.length qD)).run prog ((w.alloc o1).alloc o2)=.ok (.string ⟨b.toArray⟩) ((w.alloc o1).alloc o2):=fun o1 o2=>qB _ (hb'.grow (((ah w).alloc o1).alloc o2))
 have HV:=aa hv;have yV:=aa hv';have Hl:=aa hl;have Hf:=aa hf;have t4:((l.length:Int) != (l'.length:Int))=false:=by simp[hll]
 have t5:((f.length:Int) != (f'.length:Int))=false:=by simp[mB]
 have alR:l.length≤l'.length:=by omega
 have alS:f.length≤f'.length:=by omega
 have KC:=aa hll;have jt:=aa mB;clear hv hv' hb hb' h1 h2 h3 h4 h5 h6 h8 h1' h2' h3' h4' qE h6' xk hl hf hll mB;go_enter func26,ntmps26;go_wp2_with fail;clear hc1 hc2 t4 t5;go_loopg [5] (l.length+1) (fun gk i wr=>∃j:Nat,j≤l.length∧gk+j=l.length+1∧i=.int .i64 j∧(∀i (h1:i<l.length) (h2:i<l'.length),i<j→l[i]=l'[i])∧Grow w wr ∧
  Blk wr w.heap.size 27 (Cv.cells ⟨k,(n:Int),aB,b.length,cB,aL,l.length,cL,aF,f.length,cF⟩)∧Blk wr (w.heap.size+1) 27 (Cv.cells ⟨k,(n:Int),qC,b.length,qD,tQ,l'.length,tS,tR,f'.length,tT⟩))
 exact⟨0,by omega,by omega,rfl,fun i _ _ h=>absurd h (by omega),((ah w).alloc _).alloc _,(aD _ _ _).alloc _,cX (by simp) _ _⟩;obtain⟨j,hj,hg,rfl,heq,hw,hB,hB'⟩:=hrel;obtain⟨gk',rfl⟩:=bS gk (by omega);have hc3:=hB.cell;have AO:=hB'.cell;have HW:=aa hw;have gY:=aa heq;have HB:=aa hB;have jH:=aa hB';by_cases hlt:j<l.length
 ·have hlt':j<l'.length:=by omega
  obtain⟨bk,o,x,ha,hbk,e0,e1,e2,e3,e4,hx⟩:=(HV.o.grow hw).fO j hlt;obtain⟨tU,o',x',ha',vN,Dc,FT,e2',e3',FU,hx'⟩:=(yV.o.grow hw).fO j hlt';dsimp only at ha ha';subst ha ha';have HX:=aa hx;have qF:=aa hx';have vO:=aa (Hl.o _ (aW hlt));clear hw hx hx' hB hB' heq;have hz0:w.heap.size<wr.heap.size:=HB.o.lt;have hz1:w.heap.size+1<wr.heap.size:=jH.o.lt;by_cases he:l[j]=l'[j]
  ·have hs:mA l[j] l'[j]=true:=Oh.2 he;have HE:=aa he;clear he;go_wp2_with fail;go_region_held3 (fun w'=>∀b o,b<wr.heap.size→w'.cell? ⟨b,o,none⟩=wr.cell? ⟨b,o,none⟩) (first | exact fun _ _ _=>rfl | exact fun b o h=>hgr.below.cell (p:=⟨b,o,none⟩) h)
    (first | (go_at_call 26;refine(vO.o _ _ x x' (HX.o.grow (ah wr).drew) (qF.o.grow (ah wr).drew)).mono ?_;rintro e w2 ⟨rfl,hb2⟩;have hgr:Grow wr w2:=(ah wr).drew.trans hb2))
   have aH:=aa hgr;clear hgr hb2;go_wp2_with fail;go_roundg gk';refine⟨j+1,by omega,by omega,by go_num,fun i h1 h2 h3=>?_,HW.o.trans aH.o,HB.o.grow aH.o,jH.o.grow aH.o⟩;rcases fh i j with h | h
   ·exact gY.o i h1 h2 h
   obtain rfl:i=j:=by omega
   exact HE.o;omega
  have hs:mA l[j] l'[j]=false:=Db he;have HE:=aa he;clear he;go_wp2_with fail;go_region_held3 (fun w'=>∀b o,b<wr.heap.size→w'.cell? ⟨b,o,none⟩=wr.cell? ⟨b,o,none⟩) (first | exact fun _ _ _=>rfl | exact fun b o h=>hgr.below.cell (p:=⟨b,o,none⟩) h)
   (first | (go_at_call 26;refine(vO.o _ _ x x' (HX.o.grow (ah wr).drew) (qF.o.grow (ah wr).drew)).mono ?_;rintro e w2 ⟨rfl,hb2⟩;have hgr:Grow wr w2:=(ah wr).drew.trans hb2))
  have aH:=aa hgr;clear hgr hb2;go_wp2_with fail;go_ret;refine⟨dE (Db (fun h=>HE.o ?_)).symm,HW.o.trans aH.o⟩;injection h with _ _ _ h _;subst h;rfl
 obtain rfl:j=l.length:=by omega
 have hll:l=l':=UW KC.o (fun i h1 h2=>gY.o i h1 h2 h1);clear hw hB hB' heq gY;go_wp2_with fail;go_loopg [6] (f.length+1) (fun gk i wr=>∃j:Nat,j≤f.length∧gk+j=f.length+1∧i=.int .i64 j∧(∀i (h1:i<f.length) (h2:i<f'.length),i<j→f[i]=f'[i])∧Grow w wr ∧
  Blk wr w.heap.size 27 (Cv.cells ⟨k,(n:Int),aB,b.length,cB,aL,l.length,cL,aF,f.length,cF⟩)∧Blk wr (w.heap.size+1) 27 (Cv.cells ⟨k,(n:Int),qC,b.length,qD,tQ,l'.length,tS,tR,f'.length,tT⟩))
 exact⟨0,by omega,by omega,rfl,fun i _ _ h=>absurd h (by omega),HW.o,HB.o,jH.o⟩;obtain⟨j,hj,hg,rfl,heq,hw,hB,hB'⟩:=hrel;obtain⟨gk',rfl⟩:=bS gk (by omega);clear hc3 AO;have gz:=hB.cell;have alT:=hB'.cell;have HW:=aa hw;have gY:=aa heq;have HB:=aa hB;have jH:=aa hB';have HLq:=aa hll;clear hll;by_cases hlt:j<f.length
 ·have hlt':j<f'.length:=by omega
  obtain⟨bk,o,x,ha,hbk,es,im,e0,e1,e2,e3,e4,hx⟩:=(HV.o.grow hw).iF j hlt;obtain⟨tU,o',x',ha',vN,es',Dd,Dc,FT,e2',e3',FU,hx'⟩:=(yV.o.grow hw).iF j hlt';dsimp only at ha ha';subst ha ha';have HX:=aa hx;have qF:=aa hx';have UX:=aa (Hf.o _ (aW hlt));have hz0:w.heap.size<wr.heap.size:=HB.o.lt;have hz1:w.heap.size+1<wr.heap.size:=jH.o.lt;clear hw hx hx' hB hB' heq im Dd;by_cases hn:f[j].1=f'[j].1
  ·have tV:(f[j].1.toList==f'[j].1.toList)=true:=(yU _ _).2 hn;have rV:(f[j].1.toList != f'[j].1.toList)=false:=by rw[bne,tV];rfl
   have HN:=aa hn;clear hn;by_cases he:f[j].2=f'[j].2
   ·have hs:mA f[j].2 f'[j].2=true:=Oh.2 he;have HE:=aa he;clear he;go_wp2_with fail;go_region_held3 (fun w'=>∀b o,b<wr.heap.size→w'.cell? ⟨b,o,none⟩=wr.cell? ⟨b,o,none⟩) (first | exact fun _ _ _=>rfl | exact fun b o h=>hgr.below.cell (p:=⟨b,o,none⟩) h)
     (first | (go_at_call 26;refine(UX.o _ _ x x' (HX.o.grow (ah wr).drew) (qF.o.grow (ah wr).drew)).mono ?_;rintro e w2 ⟨rfl,hb2⟩;have hgr:Grow wr w2:=(ah wr).drew.trans hb2))
    have aH:=aa hgr;clear hgr hb2;go_wp2_with fail;go_roundg gk';refine⟨j+1,by omega,by omega,by go_num,fun i h1 h2 h3=>?_,HW.o.trans aH.o,HB.o.grow aH.o,jH.o.grow aH.o⟩;rcases fh i j with h | h
    ·exact gY.o i h1 h2 h
    obtain rfl:i=j:=by omega
    exact Prod.ext HN.o HE.o;omega
   have hs:mA f[j].2 f'[j].2=false:=Db he;have HE:=aa he;clear he;go_wp2_with fail;go_region_held3 (fun w'=>∀b o,b<wr.heap.size→w'.cell? ⟨b,o,none⟩=wr.cell? ⟨b,o,none⟩) (first | exact fun _ _ _=>rfl | exact fun b o h=>hgr.below.cell (p:=⟨b,o,none⟩) h)
    (first | (go_at_call 26;refine(UX.o _ _ x x' (HX.o.grow (ah wr).drew) (qF.o.grow (ah wr).drew)).mono ?_;rintro e w2 ⟨rfl,hb2⟩;have hgr:Grow wr w2:=(ah wr).drew.trans hb2))
   have aH:=aa hgr;clear hgr hb2;go_wp2_with fail;go_ret;refine⟨dE (Db (fun h=>HE.o ?_)).symm,HW.o.trans aH.o⟩;injection h with _ _ _ _ h;subst h;rfl
  have tV:(f[j].1.toList==f'[j].1.toList)=false:=by
   rw[NP];exact fun h=>hn ((yU _ _).1 h)
  have rV:(f[j].1.toList != f'[j].1.toList)=true:=by rw[bne,tV];rfl
  have HN:=aa hn;clear hn;go_wp2_with fail;go_quiet (fail);go_wp2_with fail;go_ret;refine⟨dE (Db (fun h=>HN.o ?_)).symm,HW.o.drewN _⟩;injection h with _ _ _ _ h;subst h;rfl
 obtain rfl:j=f.length:=by omega
 have mB:f=f':=UW jt.o (fun i h1 h2=>gY.o i h1 h2 h1);have HFq:=aa mB;clear hw hB hB' heq gY mB;go_wp2_with fail;go_ret;exact⟨dE (by rw[HLq.o,HFq.o,UU]),HW.o⟩
theorem UY(x:V):Oi x:=by
 induction x using V.ind with
 | h k n b l f hl hf =>
  intro y w c c' hv hv';obtain⟨k',n',b',l',f'⟩:=y;by_cases hne:k≠k'∨n≠n'∨b≠b'∨l.length≠l'.length∨f.length≠f'.length
  ·refine(abD k k' n n' b b' l l' f f' c c' w hv hv' hne).mono ?_;rintro e w' ⟨rfl,hg⟩;refine⟨dE (Db (fun h=>?_)).symm,hg⟩;injection h with h1 h2 h3 h4 h5;subst h1 h2 h3 h4 h5;simp at hne
  have h1:k=k':=tH fun h=>hne (.inl h)
  have h2:n=n':=tH fun h=>hne (.inr (.inl h))
  have h3:b=b':=tH fun h=>hne (.inr (.inr (.inl h)))
  have h4:l.length=l'.length:=tH fun h=>hne (.inr (.inr (.inr (.inl h))))
  have h5:f.length=f'.length:=tH fun h=>hne (.inr (.inr (.inr (.inr h))))
  clear hne;subst h1 h2 h3;exact abE k n b l l' f f' c c' w hv hv' h4 h5 hl hf
theorem In.KE(w:World):In w V.zero Cv.zero:=by
 unfold In V.zero;rw[IsV];exact⟨rfl,rfl,rfl,rfl,rfl,by omega,by omega,by omega,by simp,by simp,by simp,by simp,by simp,by simp,⟨rfl,fun h=>absurd h (by simp)⟩,fun i h=>absurd h (by simp),fun i h=>absurd h (by simp)⟩
end
section
open Go.RowKit
theorem De{α:Type}(g:α→Nat)(l:List α)(j:Nat)(h:j<l.length):((l.take (j+1)).map g).sum=((l.take j).map g).sum+g l[j]:=by
 rw[mv l j h,nR,Kb];simp
theorem AP{α:Type}(g:α→Nat)(l:List α)(j:Nat):((l.take j).map g).sum≤(l.map g).sum:=by
 have:l.map g=(l.take j).map g++(l.drop j).map g:=by rw[← nR,qq]
 rw[this,Kb];omega
theorem V.FV(v:V):1≤v.count:=by obtain⟨k,n,b,l,f⟩:=v;rw[tP];omega
theorem Oj{k:IntKind}{a b:Int}{p q:Bool}(h:a=b)(h':p=q):Ending.returned (.tuple #[.int k a,.bool p])=.returned (.tuple #[.int k b,.bool q]):=by rw[h,h']
def abF(w:World)(n:Nat)(left:Int)(e:Ending)(w':World):Prop:=
 ∃r:Int,e=.returned (.tuple #[.int .i64 r,.bool (decide ((n:Int)<left))])∧((n:Int)<left→r=left-n)∧Grow w w'
theorem UZ(v:V):∀(left:Int) (w:World) (c:Cv),1≤left→left≤20000→In w v c →
 Calls prog 34 #[c.agg,.int .i64 left] w (abF w v.count left):=by
 induction v using V.ind with
 | h k n b l f hl hf =>
  intro left w c eU hl2 hv;have HV:=aa hv;obtain⟨aB,aL,aF,cB,cL,cF,rfl,h1,h2,h3,h4,h5,h6,h7,h8,h9,hb⟩:=hv.open;have Hl:=aa hl;have Hf:=aa hf;rw[tP];obtain⟨SL,Ol⟩:∃SL,SL=(l.map V.count).sum:=⟨_,rfl⟩;obtain⟨SF,Om⟩:∃SF,SF=(f.map fun x=>x.2.count).sum:=⟨_,rfl⟩;rw[← Ol,← Om];have Df:=aa Ol;have Oo:=aa Om;clear hb h1 h2 h3 hl hf h4 h5 hv Ol Om;go_enter func34,ntmps34;go_wp2_with fail;go_loopg [1,6] (l.length+1) (fun gk t i wr=>∃(j:Nat) (T:Int),j≤l.length∧gk+j=l.length+1∧i=.int .i64 j∧t=.int .i64 T∧0≤T∧T≤left∧T+1+((((l.take j).map V.count).sum:Nat):Int)=left∧Grow w wr ∧
   Blk wr w.heap.size 27 (Cv.cells ⟨k,(n:Int),aB,b.length,cB,aL,l.length,cL,aF,f.length,cF⟩))
  exact⟨0,left-1,by omega,by omega,rfl,rfl,by omega,by omega,by simp,(ah w).alloc _,aD _ _ _⟩;obtain⟨j,T,hj,hg,rfl,rfl,hT0,FW,qG,hw,hB⟩:=hrel;obtain⟨gk',rfl⟩:=bS gk (by omega);have hc3:=hB.cell;have HW:=aa hw;have HB:=aa hB;have gh:=aa qG;clear qG;by_cases hgo:j<l.length∧0<T
  ·obtain⟨hlt,hTp⟩:=hgo;obtain⟨bk,o,x,ha,hbk,e0,e1,e2,e3,e4,hx⟩:=(HV.o.grow hw).fO j hlt;dsimp only at ha;subst ha;have hs:=De V.count l j hlt;have HS:=aa hs;have hle:=AP V.count l (j+1);rw[hs,← Df.o] at hle;have HX:=aa hx;have Dg:=V.FV l[j];have HC:=aa (Hl.o _ (aW hlt) T wr x (by omega) (by omega) hx);clear hw hx hB hs;go_wp2_with fail;refine HC.o.mono ?_;rintro e w2 ⟨r,rfl,hr,hb2⟩;have aH:=aa hb2;clear hb2;have gz:=(HB.o.grow aH.o).cell;by_cases eO:((l[j].count:Nat):Int)<T
   ·have hd:decide (((l[j].count:Nat):Int)<T)=true:=bW eO;have HR:=aa (hr eO);clear hr;go_wp2_with fail;go_roundg gk';have h1:=HR.o;have h2:=gh.o;have h3:=HS.o;exact⟨j+1,r,by omega,by omega,by go_num,rfl,by omega,by omega,by rw[h3];push_cast;omega,HW.o.trans aH.o,HB.o.grow aH.o⟩;omega
   have hd:decide (((l[j].count:Nat):Int)<T)=false:=bX eO;clear hr;go_wp2_with fail;go_ret2;have h2:=gh.o;have hfin:¬ (((1+SL+SF:Nat):Int)<left):=by push_cast;omega
   exact⟨0,Oj rfl (bX hfin).symm,fun h=>absurd h hfin,HW.o.trans aH.o⟩
  have hpost:∃T':Int,T'=T∧((T'+1+(SL:Int)=left)∨(T'=0∧left≤1+(SL:Int))):=by
   have h2:=gh.o;by_cases hlt:j<l.length
   ·have h0:T=0:=by omega
    have hle:=AP V.count l j;rw[← Df.o] at hle;exact⟨T,rfl,.inr ⟨h0,by omega⟩⟩
   obtain rfl:j=l.length:=by omega
   rw[fS,← Df.o] at h2;exact⟨T,rfl,.inl h2⟩
  obtain⟨T',rfl,hpost⟩:=hpost;have HP:=aa hpost;clear hw hB hpost;by_cases hjl:j<l.length
  all_goals
   have hT':j<l.length→T'≤0:=fun h=>by omega
   clear hgo
   first
   | (have h:=hT' hjl;clear hT')
   | clear hT'
   go_wp2_with fail
   go_loopg [1,9] (f.length+1) (fun gk t i wr=>∃(j:Nat) (T:Int),j≤f.length∧gk+j=f.length+1∧i=.int .i64 j∧t=.int .i64 T∧0≤T∧T≤left∧((T+1+(SL:Int)+((((f.take j).map fun x=>x.2.count).sum:Nat):Int)=left)∨(T=0∧left≤1+(SL:Int)))∧Grow w wr ∧
    Blk wr w.heap.size 27 (Cv.cells ⟨k,(n:Int),aB,b.length,cB,aL,l.length,cL,aF,f.length,cF⟩))
   exact⟨0,T',by omega,by omega,rfl,rfl,by omega,by omega,by simpa using HP.o,HW.o,HB.o⟩
   obtain⟨j,T,hj,hg,rfl,rfl,hT0,FW,qG,hw,hB⟩:=hrel
   obtain⟨gk',rfl⟩:=bS gk (by omega)
   clear hc3
   have FX:=hB.cell
   have HW:=aa hw
   have HB:=aa hB
   have gh:=aa qG
   clear qG
   by_cases hgo:j<f.length∧0<T
   ·obtain⟨hlt,hTp⟩:=hgo
    have U0:=aa (gh.o.resolve_right (fun h=>by omega))
    obtain⟨bk,o,x,ha,hbk,es,im,e0,e1,e2,e3,e4,hx⟩:=(HV.o.grow hw).iF j hlt
    dsimp only at ha
    subst ha
    have hs:=De (fun x:ByteArray×V=>x.2.count) f j hlt
    have HS:=aa hs
    have hle:=AP (fun x:ByteArray×V=>x.2.count) f (j+1)
    rw[hs,← Oo.o] at hle
    have HX:=aa hx
    have Dg:=V.FV f[j].2
    have HC:=aa (Hf.o _ (aW hlt) T wr x (by omega) (by omega) hx)
    clear hw hx hB hs es im
    go_wp2_with fail
    refine HC.o.mono ?_
    rintro e w2 ⟨r,rfl,hr,hb2⟩
    have aH:=aa hb2
    clear hb2
    have gz:=(HB.o.grow aH.o).cell
    by_cases eO:((f[j].2.count:Nat):Int)<T
    ·have hd:decide (((f[j].2.count:Nat):Int)<T)=true:=bW eO
     have HR:=aa (hr eO)
     clear hr
     go_wp2_with fail
     go_roundg gk'
     have h1:=HR.o
     have h2:=U0.o
     have h3:=HS.o
     exact⟨j+1,r,by omega,by omega,by go_num,rfl,by omega,by omega,.inl (by rw[h3];push_cast;omega),HW.o.trans aH.o,HB.o.grow aH.o⟩
     omega
    have hd:decide (((f[j].2.count:Nat):Int)<T)=false:=bX eO
    clear hr
    go_wp2_with fail
    go_ret2
    have h2:=U0.o
    have hfin:¬ (((1+SL+SF:Nat):Int)<left):=by push_cast;omega
    exact⟨0,Oj rfl (bX hfin).symm,fun h=>absurd h hfin,HW.o.trans aH.o⟩
   have hpost:(T=left-((1+SL+SF:Nat):Int))∨(T=0∧¬ (((1+SL+SF:Nat):Int)<left)):=by
    rcases gh.o with h2 | h2
    ·by_cases hlt:j<f.length
     ·have h0:T=0:=by omega
      have hle:=AP (fun x:ByteArray×V=>x.2.count) f (j+1)
      rw[De _ _ _ hlt,← Oo.o] at hle
      have Dg:=V.FV f[j].2
      exact .inr ⟨h0,by push_cast;omega⟩
     obtain rfl:j=f.length:=by omega
     rw[fS,← Oo.o] at h2
     exact .inl (by push_cast;omega)
    exact .inr ⟨h2.1,by push_cast;omega⟩
   have U2:=aa hpost
   clear hw hB hpost
   by_cases hjf:j<f.length
   all_goals
    have hT':j<f.length→T≤0:=fun h=>by omega
    clear hgo
    first
    | (have h:=hT' hjf;clear hT')
    | clear hT'
    go_wp2_with fail
    go_ret2
    refine⟨T,Oj rfl ?_,fun h=>?_,HW.o⟩
    ·rcases U2.o with h | h
     ·rw[h];exact decide_eq_decide.2 ⟨fun h=>by omega,fun h=>by omega⟩
     rw[bX (Int.not_lt.2 h.2),h.1];rfl
    rcases U2.o with h' | h'
    ·exact h'
    exact absurd h (Int.not_lt.2 h'.2)
abbrev kH(A:Option Addr)(n cap:Nat):Cv:=⟨7,0,none,0,0,A,n,cap,none,0,0⟩
def InL(w:World)(A:Option Addr)(cap:Nat)(vs:List V):Prop:=In w (.mk 7 0 [] vs []) (kH A vs.length cap)
theorem InL.grow{w w':World}{A:Option Addr}{cap:Nat}{vs:List V}(h:InL w A cap vs)(hg:Grow w w'):InL w' A cap vs:=oK h hg
theorem abG(vs:List V)(A:Option Addr)(cap:Nat)(w:World)(hv:InL w A cap vs) :
 Calls prog 15 #[.slice A vs.length cap] w fun e w'=>e=.returned (.bool (decide (20000≤(vs.map V.count).sum)))∧Grow w w':=by
 have hl:=mz hv;obtain⟨_,_,_,_,_,_,_,_,_,_,_,_,_,hlen,_,_,_⟩:=hl;have HV:=aa hv;clear hv;go_enter func15,ntmps15;go_wp2_with fail;go_loopg [3,4] (vs.length+1) (fun gk t i wr=>∃(j:Nat) (T:Int),j≤vs.length∧gk+j=vs.length+1∧i=.int .i64 j∧t=.int .i64 T∧1≤T∧T≤20000∧T+((((vs.take j).map V.count).sum:Nat):Int)=20000∧Grow w wr);exact⟨0,20000,by omega,by omega,rfl,rfl,by omega,by omega,by simp,ah w⟩;obtain⟨j,T,hj,hg,rfl,rfl,hT0,FW,qG,hw⟩:=hrel;obtain⟨gk',rfl⟩:=bS gk (by omega);have HW:=aa hw;have gh:=aa qG;clear qG;by_cases hlt:j<vs.length
 ·obtain⟨bk,o,x,ha,hbk,e0,e1,e2,e3,e4,hx⟩:=In.fO (HV.o.grow hw) j hlt;dsimp only at ha;subst ha;have hs:=De V.count vs j hlt;have HS:=aa hs;have hle:=AP V.count vs (j+1);rw[hs] at hle;have Dg:=V.FV vs[j];have HC:=aa (UZ vs[j] T wr x (by omega) (by omega) hx);clear hw hx hs;go_wp2_with fail;refine HC.o.mono ?_;rintro e w2 ⟨r,rfl,hr,hb2⟩;have aH:=aa hb2;clear hb2;by_cases eO:((vs[j].count:Nat):Int)<T
  ·have hd:decide (((vs[j].count:Nat):Int)<T)=true:=bW eO;have HR:=aa (hr eO);clear hr;go_wp2_with fail;go_roundg gk';have h1:=HR.o;have h2:=gh.o;have h3:=HS.o;exact⟨j+1,r,by omega,by omega,by go_num,rfl,by omega,by omega,by rw[h3];push_cast;omega,HW.o.trans aH.o⟩;omega
  have hd:decide (((vs[j].count:Nat):Int)<T)=false:=bX eO;clear hr;go_wp2_with fail;go_ret;have h2:=gh.o;exact⟨dE (bW (by omega)).symm,HW.o.trans aH.o⟩
 obtain rfl:j=vs.length:=by omega
 have h2:=gh.o;rw[fS] at h2;have H2:=aa h2;clear hw h2;go_wp2_with fail;go_ret;have h2:=H2.o;exact⟨dE (bX (by omega)).symm,HW.o⟩
end
abbrev AQ:=@V.FV
section
open Go.RowKit Go.Shelf
theorem abH(x0 x1 x2 x3 x4 x5 x6 x7:UInt8)(bk o n cap:Nat)(w:World)(hn:8≤n)
 (c0:w.cell? ⟨bk,o,none⟩=some (.int .u8 (x0.toNat:Int)))
 (c1:w.cell? ⟨bk,o+1,none⟩=some (.int .u8 (x1.toNat:Int)))
 (c2:w.cell? ⟨bk,o+2,none⟩=some (.int .u8 (x2.toNat:Int)))
 (c3:w.cell? ⟨bk,o+3,none⟩=some (.int .u8 (x3.toNat:Int)))
 (c4:w.cell? ⟨bk,o+4,none⟩=some (.int .u8 (x4.toNat:Int)))
 (c5:w.cell? ⟨bk,o+5,none⟩=some (.int .u8 (x5.toNat:Int)))
 (c6:w.cell? ⟨bk,o+6,none⟩=some (.int .u8 (x6.toNat:Int)))
 (c7:w.cell? ⟨bk,o+7,none⟩=some (.int .u8 (x7.toNat:Int))) :
 Calls prog 129 #[.slice (some ⟨bk,o,none⟩) n cap] w fun e w'=>e=.returned (.int .u64 (Lib.leNat [x0,x1,x2,x3,x4,x5,x6,x7]))∧∃q,w'=w.drewN q:=by
 have h0:=x0.toNat_lt;have h1:=x1.toNat_lt;have h2:=x2.toNat_lt;have h3:=x3.toNat_lt;have h4:=x4.toNat_lt;have h5:=x5.toNat_lt;have h6:=x6.toNat_lt;have h7:=x7.toNat_lt;have hv:((Lib.leNat [x0,x1,x2,x3,x4,x5,x6,x7]:Nat):Int)=(x0.toNat:Int)+(x1.toNat:Int)*256+(x2.toNat:Int)*65536+(x3.toNat:Int)*16777216+(x4.toNat:Int)*4294967296+(x5.toNat:Int)*1099511627776+(x6.toNat:Int)*281474976710656+(x7.toNat:Int)*72057594037927936:=by
  simp only[Lib.leNat];push_cast;omega
 go_enter func129,ntmps129;go_wp2_with fail;go_quiet (fail);go_wp2;go_ret;refine⟨?_,_,rfl⟩;simp (disch:=omega) only[u64_or8,u64_or16,u64_or24,u64_or32,u64_or40,u64_or48,u64_or56];rw[hv];rfl
end
section
open Ieee Go
theorem tW:Ieee.double.signWeight=9223372036854775808:=by decide
theorem FY:Ieee.double.binade=4503599627370496:=by decide
theorem AU:Ieee.double.infRung=9218868437227405312:=by decide
theorem FZ:Ieee.double.leastPlace=-1074:=by decide
theorem U3(r:Nat)(h:r<9223372036854775808)(neg:Bool):Ieee.double.word neg r % 9223372036854775808=r:=by
 unfold Format.word;rw[tW];cases neg
 ·simp;omega
 simp;omega
theorem abI(r:Nat)(h:r<9223372036854775808)(neg:Bool):(Ieee.double.word neg r / 9223372036854775808 % 2==1)=neg:=by
 unfold Format.word;rw[tW];cases neg
 ·simp;omega
 simp;omega
theorem Oq(neg:Bool)(e m:Nat)(h1:1≤e)(h2:e≤2046)(hm:m<4503599627370496) :
 Ieee.double.read (Ieee.double.word neg (e*4503599627370496+m))=.number neg (4503599627370496+m) ((e:Int)-1075):=by
 have hr:e*4503599627370496+m<9223372036854775808:=by omega
 unfold Format.read;simp only[tW,FY,AU,FZ,U3 _ hr,abI _ hr];rw[ai (by omega),aw (by omega)];have e1:(e*4503599627370496+m) % 4503599627370496=m:=by omega
 have e2:(e*4503599627370496+m) / 4503599627370496=e:=by omega
 rw[e1,e2];congr 1;omega
theorem F3(k:Nat):(1:Nat) <<< k=2 ^ k:=by rw[yM,rO]
theorem Ot(way:Toward)(neg:Bool)(n:Nat):way.cut neg n 0=n:=by
 unfold Toward.cut;have:(1:Nat) <<< min 0 (n.log2+2)=1:=by simp
 rw[this];simp only[Fs,Nat.mod_one]
 cases way<;>simp
theorem tX:(2:Nat) ^ 53=9007199254740992:=by decide
theorem U4(neg:Bool)(aN:Nat)(h0:aN≠0)(last:Int)(h:max ((0:Int)+(aN.log2:Int)-52) (-1074)=last) :
 Ieee.double.nearest neg aN 0=Ieee.double.word neg (min ((last - -1074).toNat*4503599627370496+Toward.even.cut neg (aN <<< (0-last).toNat) (last-0).toNat) 9218868437227405312):=by
 have hf:((Ieee.double.fractionBits:Nat):Int)=52:=rfl;unfold Format.nearest;rw[ai h0,FZ,FY,AU,hf,h]
theorem U5(neg:Bool)(a b:Nat)(h:a=b)(hb:b≤9218868437227405312):Ieee.double.word neg (min a 9218868437227405312)=Ieee.double.word neg b:=by
 subst h;rw[qu hb]
theorem F4(neg:Bool)(aN:Nat)(h0:aN≠0)(hL:aN.log2≤52) :
 Ieee.double.nearest neg aN 0=Ieee.double.word neg ((aN.log2+1022)*4503599627370496+aN*2 ^ (52-aN.log2)):=by
 rw[U4 neg aN h0 ((aN.log2:Int)-52) (by omega)];have e1:((0:Int)-((aN.log2:Int)-52)).toNat=52-aN.log2:=by omega
 have e2:((aN.log2:Int)-52-0).toNat=0:=by omega
 have e3:((aN.log2:Int)-52 - -1074).toNat=aN.log2+1022:=by omega
 rw[e1,e2,e3,Ot,yM];have hlt:=vH (n:=aN);have h3:aN*2 ^ (52-aN.log2)<2 ^ (aN.log2+1)*2 ^ (52-aN.log2):=vI hlt (js (by omega));rw[← jE,show aN.log2+1+(52-aN.log2)=53 by omega,tX] at h3;generalize aN*2 ^ (52-aN.log2)=x at h3 ⊢;generalize aN.log2=L at hL ⊢;exact U5 _ _ _ rfl (by omega)
def up(aN d:Nat):Bool:=decide (2 ^ d<2*(aN % 2 ^ d))||(2 ^ d==2*(aN % 2 ^ d)&&aN / 2 ^ d % 2==1)
theorem abJ(neg:Bool)(aN d:Nat)(h:d≤aN.log2+2):Toward.even.cut neg aN d=aN / 2 ^ d+(up aN d).toNat:=by
 unfold Toward.cut;have:min d (aN.log2+2)=d:=by omega
 simp only[this,F3,up]
theorem Ou(neg:Bool)(aN d:Nat)(h0:aN≠0)(hd:1≤d)(hL:aN.log2=52+d)(hd2:d≤11) :
 Ieee.double.nearest neg aN 0=Ieee.double.word neg ((d+1074)*4503599627370496+(aN / 2 ^ d+(up aN d).toNat)):=by
 rw[U4 neg aN h0 (d:Int) (by omega)];have e1:((0:Int)-(d:Int)).toNat=0:=by omega
 have e2:((d:Int)-0).toNat=d:=by omega
 have e3:((d:Int) - -1074).toNat=d+1074:=by omega
 rw[e1,e2,e3,NR,abJ neg aN d (by omega)];have hlt:=vH (n:=aN);have eO:aN / 2 ^ d<2 ^ 53:=by
  rw[CX (js (by omega)),← jE];have:aN.log2+1=53+d:=by omega
  rwa [this] at hlt
 rw[tX] at eO;have hu:(up aN d).toNat≤1:=Bool.toNat_le _;generalize aN / 2 ^ d=x at eO ⊢;generalize (up aN d).toNat=y at hu ⊢;exact U5 _ _ _ rfl (by omega)
theorem Ov{neg:Bool}{a b:Nat}{p q:Int}(h1:a=b)(h2:p=q):Datum.number neg a p=.number neg b q:=by subst h1 h2;rfl
theorem F5:(2:Nat) ^ 52=4503599627370496:=by decide
theorem Ow(neg:Bool)(d t:Nat)(hd:d≤11)(h1:4503599627370496≤t)(h2:t<9007199254740992) :
 Ieee.double.read (Ieee.double.word neg ((d+1074)*4503599627370496+t))=.number neg t (d:Int):=by
 have:=Oq neg (d+1075) (t-4503599627370496) (by omega) (by omega) (by omega);rw[show (d+1074)*4503599627370496+t=(d+1075)*4503599627370496+(t-4503599627370496) by omega,this];exact Ov (by omega) (by omega)
theorem abK(neg:Bool)(d:Nat)(hd:d≤11) :
 Ieee.double.read (Ieee.double.word neg ((d+1074)*4503599627370496+9007199254740992))=.number neg 4503599627370496 ((d:Int)+1):=by
 have:=Oq neg (d+1076) 0 (by omega) (by omega) (by omega);rw[show (d+1074)*4503599627370496+9007199254740992=(d+1076)*4503599627370496+0 by omega,this];exact Ov rfl (by omega)
theorem abL(neg:Bool)(L t:Nat)(hd:L≤52)(h1:4503599627370496≤t)(h2:t<9007199254740992) :
 Ieee.double.read (Ieee.double.word neg ((L+1022)*4503599627370496+t))=.number neg t ((L:Int)-52):=by
 have:=Oq neg (L+1023) (t-4503599627370496) (by omega) (by omega) (by omega);rw[show (L+1022)*4503599627370496+t=(L+1023)*4503599627370496+(t-4503599627370496) by omega,this];exact Ov (by omega) (by omega)
theorem U6(neg:Bool)(m:Nat)(d:Nat):(Datum.number neg m (d:Int)).toInt .zero=some (if neg then -((m*2 ^ d:Nat):Int) else ((m*2 ^ d:Nat):Int)):=by
 unfold Datum.toInt Datum.integral;simp only[show (-(d:Int)).toNat=0 by omega,yL,Ot,signed,yM,AG,rM]
theorem abM(neg:Bool)(aN q:Nat)(h0:aN≠0):Toward.zero.cut neg (aN*2 ^ q) q=aN:=by
 have hp:0<2 ^ q:=js (by omega);have hle:q≤(aN*2 ^ q).log2:=by
  rw[Nat.le_log2 (by have:=Fu (Fv h0) hp;omega)];exact Nat.le_mul_of_pos_left _ (Fv h0)
 unfold Toward.cut;have:min q ((aN*2 ^ q).log2+2)=q:=by omega
 simp only[this,F3,NT _ hp,AH,gf]
theorem abN(neg:Bool)(aN q:Nat)(h0:aN≠0)(p:Int)(hp:p=-(q:Int)):(Datum.number neg (aN*2 ^ q) p).toInt .zero=some (if neg then -(aN:Int) else (aN:Int)):=by
 subst hp;unfold Datum.toInt Datum.integral;simp only[show (-(q:Int)).toNat=0 by omega,Int.neg_neg,yL,NR,abM neg aN q h0,signed]
theorem abO:Ieee.double.read 4890909195324358656=.number false 4503599627370496 11:=by
 have:=Ow false 11 4503599627370496 (by omega) (by omega) (by omega);rw[show Ieee.double.word false ((11+1074)*4503599627370496+4503599627370496)=4890909195324358656 by unfold Format.word;decide] at this;exact this
theorem vP{a b:Int}(h:a<b):compare a b=.lt:=by simp[compare,compareOfLessAndEq,h]
theorem yX{a b:Int}(h:a=b):compare a b=.eq:=by subst h;simp[compare,compareOfLessAndEq]
theorem vQ{a b:Int}(h:b<a):compare a b=.gt:=by
 have h1:¬ a<b:=by omega
 have h2:¬ a=b:=by omega
 simp[compare,compareOfLessAndEq,h1,h2]
theorem U7{f:Nat}{s:Bool}{m:Nat}{p:Int}(h:Ieee.double.read f=.number s m p)(hp:p≤11) :
 Ieee.double.order f 4890909195324358656=some (compare (if s then -(m:Int) else (m:Int)) ((4503599627370496*2 ^ (11-p).toNat:Nat):Int)):=by
 unfold Format.order;rw[h,abO];unfold Datum.order;simp only[show min p 11=p by omega,show (p-p).toNat=0 by omega,signed,yM,AG,rM,lI,iN]
theorem Ox{f:Nat}{s:Bool}{m:Nat}{p:Int}(h:Ieee.double.read f=.number s m p):Ieee.double.order f f=some .eq:=by
 unfold Format.order;rw[h];unfold Datum.order;simp
theorem abP:Ieee.double.read 18442240474082181120=.infinity true:=by decide
theorem U8:Ieee.double.read 0=.number false 0 (-1074):=by decide
theorem KF{f:Nat}{s:Bool}{m:Nat}{p:Int}(h:Ieee.double.read f=.number s m p):Ieee.double.order f 18442240474082181120=some .gt∧Ieee.double.order 18442240474082181120 f=some .lt:=by
 unfold Format.order;rw[h,abP];exact⟨rfl,rfl⟩
theorem KG{f:Nat}{s:Bool}{m:Nat}{p:Int}(h:Ieee.double.read f=.number s m p)(hm:m≠0)(hp:-1074≤p):Ieee.double.order f 0=some (if s then .lt else .gt):=by
 unfold Format.order;rw[h,U8];unfold Datum.order;have hpos:0<m*2 ^ (p - -1074).toNat:=Fu (Fv hm) (js (by omega));simp only[show min p (-1074)=-1074 by omega,signed,yM];generalize m*2 ^ (p - -1074).toNat=x at hpos ⊢
 cases s
 ·simp only[lI,iN];rw[vQ];omega
 simp only[iD];rw[vP];simp;omega
def sh(m:Nat):Nat:=m.log2-52
def fl(i:Int):Nat×Nat:=
 if 0≤i then (Ieee.double.nearest false (i.toNat / 2 ^ sh i.toNat*2 ^ sh i.toNat) 0,i.toNat % 2 ^ sh i.toNat)
 else (Ieee.double.nearest true ((i.natAbs+(2 ^ sh i.natAbs-1)) / 2 ^ sh i.natAbs*2 ^ sh i.natAbs) 0,(i.natAbs+(2 ^ sh i.natAbs-1)) / 2 ^ sh i.natAbs*2 ^ sh i.natAbs-i.natAbs)
theorem U9(t d:Nat)(h1:4503599627370496≤t)(h2:t<9007199254740992):(t*2 ^ d).log2=52+d:=by
 have hp:0<2 ^ d:=js (by omega);have h0:t*2 ^ d≠0:=by have:=Fu (show 0<t by omega) hp;omega
 have ha:52+d≤(t*2 ^ d).log2:=by
  rw[Nat.le_log2 h0,jE,F5];exact iB _ h1
 have hb:(t*2 ^ d).log2<52+d+1:=by
  rw[Nat.log2_lt h0,show 52+d+1=53+d by omega,jE,tX];exact vI h2 hp
 omega
theorem Oy(t d:Nat):up (t*2 ^ d) d=false:=by
 have hp:0<2 ^ d:=js (by omega);unfold up;rw[Nat.mul_mod_left];simp
theorem F6(neg:Bool)(t d:Nat)(hd1:1≤d)(hd2:d≤10)(h1:4503599627370496≤t)(h2:t≤9007199254740992) :
 Ieee.double.nearest neg (t*2 ^ d) 0=Ieee.double.word neg ((d+1074)*4503599627370496+t):=by
 have hp:∀d:Nat,0<2 ^ d:=fun d=>js (by omega)
 rcases xa h2 with h2 | rfl
 ·rw[Ou neg _ d (by have:=Fu (show 0<t by omega) (hp d);omega) hd1 (U9 t d h1 h2) (by omega),Oy,NT _ (hp d)];rfl
 rw[show 9007199254740992*2 ^ d=4503599627370496*2 ^ (d+1) by rw[vE];omega,
  Ou neg _ (d+1) (by have:=Fu (show 0<4503599627370496 by omega) (hp (d+1));omega) (by omega) (U9 _ _ (by omega) (by omega)) (by omega),Oy,NT _ (hp (d+1))]
 refine cT (Ieee.double.word neg) ?_;simp only[AH];omega
theorem abQ(neg:Bool)(t d:Nat)(hd2:d≤10)(h1:4503599627370496≤t)(h2:t≤9007199254740992) :
 ∃m p,Ieee.double.read (Ieee.double.word neg ((d+1074)*4503599627370496+t))=.number neg m p∧m≠0∧-1074≤p∧p≤11∧m*2 ^ p.toNat=t*2 ^ d∧0≤p ∧
  (Datum.number neg m p).toInt .zero=some (if neg then -((t*2 ^ d:Nat):Int) else ((t*2 ^ d:Nat):Int)):=by
 rcases xa h2 with h2 | rfl
 ·exact⟨t,d,Ow neg d t (by omega) h1 h2,by omega,by omega,by omega,by rw[yL],by omega,U6 neg t d⟩
 have e:9007199254740992*2 ^ d=4503599627370496*2 ^ (d+1):=by rw[vE];omega
 refine⟨4503599627370496,((d+1:Nat):Int),abK neg d (by omega),by omega,by omega,by omega,by rw[yL,e],by omega,?_⟩;rw[U6 neg _ (d+1),e]
theorem Dh{f:Nat}{s:Bool}{m:Nat}{p n:Int}(h:Ieee.double.read f=.number s m p)(ht:(Datum.number s m p).toInt .zero=some n)(h1:-9223372036854775808≤n)(h2:n≤9223372036854775807) :
 floatToIntVal .f64 f .i64=some n:=by
 unfold floatToIntVal;rw[show FloatKind.f64.decode f=.number s m p from h,ht];exact aw ⟨h1,h2⟩
def Step(i:Int)(f0 g:Nat):Prop:=
 f0=g ∨
 (0<i∧f0=g+1∧(Ieee.double.order f0 4890909195324358656=some .eq∨(Ieee.double.order f0 4890909195324358656=some .lt∧∃n',floatToIntVal .f64 f0 .i64=some n'∧i<n')) ∧
  ∃s m p,Ieee.double.read f0=.number s m p∧m≠0∧-1074≤p∧s=false) ∨
 (i<0∧f0+1=g∧(Ieee.double.order f0 4890909195324358656=some .lt∧∃n',floatToIntVal .f64 f0 .i64=some n'∧i<n') ∧
  ∃s m p,Ieee.double.read f0=.number s m p∧m≠0∧-1074≤p∧s=true)
structure abR (i:Int) (f0 g rest:Nat) (n:Int):Prop where
 eq:n=i-(rest:Int)
 small:rest<2048
 lo:-9223372036854775808≤n
 hi:n≤i
 val:floatToIntVal .f64 g .i64=some n
 lt:Ieee.double.order g 4890909195324358656=some .lt
 ge:Ieee.double.order g 14114281232179134464=some .gt∨Ieee.double.order g 14114281232179134464=some .eq
 bits:g<18446744073709551616
 step:Step i f0 g
theorem U_:Ieee.double.read 14114281232179134464=.number true 4503599627370496 11:=by
 have:=Ow true 11 4503599627370496 (by omega) (by omega) (by omega);rw[show Ieee.double.word true ((11+1074)*4503599627370496+4503599627370496)=14114281232179134464 by unfold Format.word;decide] at this;exact this
theorem Va{f:Nat}{s:Bool}{m:Nat}{p:Int}(h:Ieee.double.read f=.number s m p)(hp:p≤11) :
 Ieee.double.order f 14114281232179134464=some (compare (if s then -(m:Int) else (m:Int)) (-((4503599627370496*2 ^ (11-p).toNat:Nat):Int))):=by
 unfold Format.order;rw[h,U_];unfold Datum.order;simp only[show min p 11=p by omega,show (p-p).toNat=0 by omega,signed,yM,AG,rM,iD]
theorem Vb(neg:Bool)(r:Nat)(h:r<9223372036854775808):Ieee.double.word neg r<18446744073709551616:=by
 unfold Format.word;rw[tW];cases neg<;>simp<;>omega
theorem Vc(neg:Bool)(r:Nat):Ieee.double.word neg (r+1)=Ieee.double.word neg r+1:=by
 unfold Format.word;cases neg<;>simp<;>omega
theorem scale(p:Int)(h0:0≤p)(h:p≤11):4503599627370496*2 ^ (11-p).toNat*2 ^ p.toNat=9223372036854775808:=by
 rw[vJ,← jE,show (11-p).toNat+p.toNat=11 by omega]
theorem abS{m x:Nat}{p:Int}(h0:0≤p)(h:p≤11)(e:m*2 ^ p.toNat=x):(m<4503599627370496*2 ^ (11-p).toNat↔x<9223372036854775808)∧(m=4503599627370496*2 ^ (11-p).toNat↔x=9223372036854775808):=by
 have hp:0<2 ^ p.toNat:=js (by omega);rw[← e,← scale p h0 h];exact⟨(Nat.mul_lt_mul_right hp).symm,⟨fun h=>by rw[h],fun h=>Nat.eq_of_mul_eq_mul_right hp h⟩⟩
theorem F7(neg:Bool)(t d:Nat)(hd2:d≤10)(h1:4503599627370496≤t)(h2:t≤9007199254740992)(h3:t*2 ^ d≤9223372036854775808)(x:Nat)(hx:t*2 ^ d=x)(g:Nat)(hg:g=Ieee.double.word neg ((d+1074)*4503599627370496+t)) :
 (∃s m p,Ieee.double.read g=.number s m p∧m≠0∧-1074≤p∧s=neg)∧g<18446744073709551616 ∧
 (neg=true→floatToIntVal .f64 g .i64=some (-(x:Int))∧Ieee.double.order g 4890909195324358656=some .lt∧(Ieee.double.order g 14114281232179134464=some .gt∨Ieee.double.order g 14114281232179134464=some .eq)) ∧
 (neg=false→(x=9223372036854775808→Ieee.double.order g 4890909195324358656=some .eq) ∧
  (x<9223372036854775808→floatToIntVal .f64 g .i64=some (x:Int)∧Ieee.double.order g 4890909195324358656=some .lt∧Ieee.double.order g 14114281232179134464=some .gt)):=by
 obtain⟨m,p,hr,hm,hp1,hp2,he,hp0,hti⟩:=abQ neg t d hd2 h1 h2;rw[hx] at hti he h3;rw[← hg] at hr;obtain⟨b1,b2⟩:=abS hp0 hp2 he;have ho:=U7 hr hp2;have hn:=Va hr hp2;refine⟨⟨neg,m,p,hr,hm,hp1,rfl⟩,?_,fun e=>?_,fun e=>⟨fun ex=>?_,fun ex=>?_⟩⟩
 ·rw[hg];exact Vb _ _ (by omega)
 ·subst e;simp only[iD] at ho hn hti;refine⟨Dh hr hti (by omega) (by omega),?_,?_⟩
  ·rw[ho,vP];omega
  rcases xa h3 with h | h
  ·left;rw[hn,vQ];have:=b1.2 h;omega
  right;rw[hn,yX];have:=b2.2 h;omega
 ·subst e;rw[ho,yX];have:=b2.2 ex;simp only[lI,iN];omega
 subst e;simp only[lI,iN] at ho hn hti;have:=b1.2 ex;refine⟨Dh hr hti (by omega) (by omega),?_,?_⟩
 ·rw[ho,vP];omega
 rw[hn,vQ];omega
theorem Vd(neg:Bool)(aN:Nat)(h0:aN≠0)(hL:aN.log2≤52)(g:Nat)(hg:g=Ieee.double.nearest neg aN 0)(i:Int)(hi:i=if neg then -(aN:Int) else (aN:Int)) :
 g<18446744073709551616∧floatToIntVal .f64 g .i64=some i∧Ieee.double.order g 4890909195324358656=some .lt∧Ieee.double.order g 14114281232179134464=some .gt:=by
 have hlt:=vH (n:=aN);have hge:=Ki h0;have hp:0<2 ^ (52-aN.log2):=js (by omega);have ha:4503599627370496≤aN*2 ^ (52-aN.log2):=by
  have:=iB (2 ^ (52-aN.log2)) hge;rwa [← jE,show aN.log2+(52-aN.log2)=52 by omega,F5] at this
 have hb:aN*2 ^ (52-aN.log2)<9007199254740992:=by
  have:=vI hlt hp;rwa [← jE,show aN.log2+1+(52-aN.log2)=53 by omega,tX] at this
 have hm:aN<9007199254740992:=Nat.lt_of_le_of_lt (Nat.le_mul_of_pos_right _ hp) hb;rw[F4 neg aN h0 hL] at hg;have hr:=abL neg aN.log2 _ hL ha hb;rw[← hg] at hr;have hti:=abN neg aN (52-aN.log2) h0 ((aN.log2:Int)-52) (by omega);have ho:=U7 hr (by omega);have hn:=Va hr (by omega);have hbig:9007199254740992≤4503599627370496*2 ^ (11-((aN.log2:Int)-52)).toNat:=by
  have:2 ^ 1≤2 ^ (11-((aN.log2:Int)-52)).toNat:=mq (by omega) (by omega);omega
 rw[← hi] at hti;refine⟨by rw[hg];exact Vb _ _ (by omega),Dh hr hti ?_ ?_,?_,?_⟩
 ·rw[hi];split<;>omega
 ·rw[hi];split<;>omega
 ·rw[ho,vP];split<;>omega
 rw[hn,vQ];split<;>omega
theorem Di(i:Int)(h1:-9223372036854775808≤i)(h2:i≤9223372036854775807) :
 abR i (FloatKind.f64.nearest i) (fl i).1 (fl i).2 (i-(fl i).2):=by
 have pM:FloatKind.f64.nearest i=Ieee.double.nearest (decide (i<0)) i.natAbs 0:=rfl;by_cases hz:i=0
 ·subst hz;have e1:fl 0=(0,0):=by decide
  have e2:FloatKind.f64.nearest 0=0:=by decide
  rw[e1,e2];refine⟨rfl,by omega,by simp,by simp,?_,by decide,.inl (by decide),by simp,.inl rfl⟩;exact Dh U8 (by decide) (by simp) (by simp)
 by_cases hmin:i=-9223372036854775808
 ·subst hmin;have e1:fl (-9223372036854775808)=(14114281232179134464,0):=by kernel_rfl
  have e2:FloatKind.f64.nearest (-9223372036854775808)=14114281232179134464:=by kernel_rfl
  rw[e1,e2];refine⟨rfl,by omega,by simp,by simp,?_,by kernel_rfl,.inr (by kernel_rfl),by simp,.inl rfl⟩;exact Dh U_ (by kernel_rfl) (by simp) (by simp)
 have hm0:i.natAbs≠0:=by omega
 by_cases hL:i.natAbs.log2≤52
 ·have hsh:sh i.natAbs=0:=by unfold sh;omega
  have hfl:fl i=(FloatKind.f64.nearest i,0):=by
   unfold fl;by_cases hi:0≤i
   ·have e:i.toNat=i.natAbs:=by omega
    rw[aw hi,e,hsh,pM];simp only[AG,Fs,rM,Nat.mod_one,bX (show ¬ i<0 by omega)]
   rw[ai hi,hsh,pM];simp only[AG,Fs,rM,AE,gf,bW (show i<0 by omega)]
  have hs:=Vd (decide (i<0)) i.natAbs hm0 hL (FloatKind.f64.nearest i) pM i (by by_cases hi:i<0<;>simp[hi]<;>omega);rw[hfl];exact⟨rfl,by omega,by simp;omega,by simp,by simpa using hs.2.1,hs.2.2.1,.inl hs.2.2.2,hs.1,.inl rfl⟩
 obtain⟨d,hd⟩:∃d,i.natAbs.log2=52+d:=⟨i.natAbs.log2-52,by omega⟩;have hsh:sh i.natAbs=d:=by unfold sh;omega
 have hlt:=vH (n:=i.natAbs);have hge:=Ki hm0;have hd1:1≤d:=by omega
 have hd2:d≤11:=by
  rcases fh d 12 with h | h
  ·omega
  have:2 ^ 64≤2 ^ i.natAbs.log2:=mq (by omega) (by omega);have e:(2:Nat) ^ 64=18446744073709551616:=by decide
  omega
 have hp:0<2 ^ d:=js (by omega);obtain⟨t,ht⟩:∃t,i.natAbs / 2 ^ d=t:=⟨_,rfl⟩;obtain⟨r,hr⟩:∃r,i.natAbs % 2 ^ d=r:=⟨_,rfl⟩;have mX:i.natAbs=t*2 ^ d+r:=by rw[← ht,← hr,qs];exact(xb _ _).symm
 have hrl:r<2 ^ d:=by rw[← hr];exact yN _ hp
 have Oz:2 ^ d≤2 ^ 11:=mq (by omega) hd2;have e11:(2:Nat) ^ 11=2048:=by decide
 have ht1:4503599627370496≤t:=by
  rw[← ht,NU hp,← F5,← jE,← hd];exact hge
 have ht2:t<9007199254740992:=by
  rw[← ht,CX hp,← tX,← jE,show 53+d=i.natAbs.log2+1 by omega];exact hlt
 have KH:=fun neg=>Ou neg i.natAbs d hm0 hd1 hd hd2
 rw[ht] at KH;have hup:up i.natAbs d=true→r≠0:=by
  intro hu rW;rw[mX,rW,gf,Oy] at hu
  cases hu
 have xm:d≤10:=by
  rcases fh d 11 with h | h
  ·omega
  have:2 ^ 63≤2 ^ i.natAbs.log2:=mq (by omega) (by omega);have e:(2:Nat) ^ 63=9223372036854775808:=by decide
  omega
 have h63:(t+1)*2 ^ d≤9223372036854775808:=by
  have e:(9223372036854775808:Nat)=2 ^ (63-d)*2 ^ d:=by rw[← jE,show 63-d+d=63 by omega]
  have h3:t*2 ^ d<9223372036854775808:=by omega
  rw[e] at h3 ⊢;exact iB _ (Nat.lt_of_mul_lt_mul_right h3)
 have e1:(t+1)*2 ^ d=t*2 ^ d+2 ^ d:=CV _ _;rw[pM];by_cases hi:0≤i
 ·have e:i.toNat=i.natAbs:=by omega
  have hfl:fl i=(Ieee.double.word false ((d+1074)*4503599627370496+t),r):=by
   unfold fl;rw[aw hi,e,hsh,ht,hr,F6 false t d hd1 xm ht1 (by omega)]
  rw[hfl,bX (show ¬ i<0 by omega),KH];obtain⟨⟨s,m,p,a1,a2,a3,a4⟩,v2,-,v4⟩:=F7 false t d xm ht1 (by omega) (by omega) _ rfl _ rfl;have hv:=(v4 rfl).2 (by omega);have en:i-(r:Int)=((t*2 ^ d:Nat):Int):=by omega
  refine⟨rfl,by omega,by simp only;omega,by simp only;omega,by simp only;rw[en];exact hv.1,hv.2.1,.inl hv.2.2,v2,?_⟩
  cases hu:up i.natAbs d with
  | false=>exact .inl rfl
  | true =>
   refine .inr (.inl ⟨by omega,?_,?_⟩)
   ·rw[← Vc,Kj,kU]
   obtain⟨w1,w2,-,w4⟩:=F7 false (t+1) d xm (by omega) (by omega) h63 _ rfl _ rfl;rw[Kj];refine⟨?_,w1⟩;rcases xa h63 with h | h
   ·have hw:=(w4 rfl).2 h;exact .inr ⟨hw.2.1,_,hw.1,by omega⟩
   exact .inl ((w4 rfl).1 h)
 obtain⟨u,hu⟩:∃u,(i.natAbs+(2 ^ d-1)) / 2 ^ d=u:=⟨_,rfl⟩;have hu2:u=if r=0 then t else t+1:=by
  rw[← hu,mX,show t*2 ^ d+r+(2 ^ d-1)=(r+(2 ^ d-1))+t*2 ^ d by omega,Nat.add_mul_div_right _ _ hp];split
  ·rw[Fw (by omega)];omega
  rw[Nat.div_eq_of_lt_le (k:=1) (by omega) (by omega)];omega
 have xo:t≤u∧u≤t+1:=by rw[hu2];split<;>omega
 have abT:u*2 ^ d≤9223372036854775808:=bn (iB _ xo.2) h63;have hfl:fl i=(Ieee.double.word true ((d+1074)*4503599627370496+u),u*2 ^ d-i.natAbs):=by
  unfold fl;rw[ai hi,hsh,hu,F6 true u d hd1 xm (by omega) (by omega)]
 have Ve:i.natAbs≤u*2 ^ d∧u*2 ^ d<i.natAbs+2048:=by
  rw[hu2];split
  ·rename_i h;rw[h] at mX;omega
  omega
 rw[hfl,bW (show i<0 by omega),KH];obtain⟨v1,v2,v3,-⟩:=F7 true u d xm (by omega) (by omega) abT _ rfl _ rfl;have hv:=v3 rfl;have en:i-((u*2 ^ d-i.natAbs:Nat):Int)=-((u*2 ^ d:Nat):Int):=by omega
 refine⟨rfl,by simp only;omega,by simp only;omega,by simp only;omega,by simp only;rw[en];exact hv.1,hv.2.1,hv.2.2,v2,?_⟩
 cases abU:up i.natAbs d with
 | true =>
  left;have:=hup abU;rw[hu2,ai this];rfl
 | false =>
  by_cases rW:r=0
  ·left;rw[hu2,aw rW];simp only[AH,gf]
  refine .inr (.inr ⟨by omega,?_,?_⟩)
  ·rw[hu2,ai rW];simp only[AH,gf];rw[← Vc,kU]
  obtain⟨w1,w2,w3,-⟩:=F7 true t d xm (by omega) (by omega) (by omega) _ rfl _ rfl;rw[AH];have hw:=w3 rfl;exact⟨⟨hw.2.1,_,hw.1,by omega⟩,w1⟩
end
section
open Go.RowKit
def gA(cf:Nat→Int):Nat→Nat→Nat→Nat
 | 0,i,_=>i
 | g+1,i,j=>if i<j then (if cf ((i+j) / 2)<0 then gA cf g ((i+j) / 2+1) j else gA cf g i ((i+j) / 2)) else i
theorem vS{cf:Nat→Int}{g i j:Nat}(h:j≤i):gA cf g i j=i:=by
 cases g with
 | zero=>rfl
 | succ g=>rw[gA,ai (by omega)]
theorem Dj{cf:Nat→Int}{g i j:Nat}(h:i<j)(hc:cf ((i+j) / 2)<0):gA cf (g+1) i j=gA cf g ((i+j) / 2+1) j:=by rw[gA,aw h,aw hc]
theorem Dk{cf:Nat→Int}{g i j:Nat}(h:i<j)(hc:¬ cf ((i+j) / 2)<0):gA cf (g+1) i j=gA cf g i ((i+j) / 2):=by rw[gA,aw h,ai hc]
theorem pN{cf:Nat→Int}:∀(g g' i j:Nat),j-i≤g→j-i≤g'→gA cf g i j=gA cf g' i j
 | 0,g',i,j,h,h'=>by rw[vS (by omega),vS (by omega)]
 | g+1,0,i,j,h,h'=>by rw[vS (by omega),vS (by omega)]
 | g+1,g'+1,i,j,h,h'=>by
  by_cases hij:i<j
  ·by_cases hc:cf ((i+j) / 2)<0
   ·rw[Dj hij hc,Dj hij hc];exact pN g g' _ _ (by omega) (by omega)
   rw[Dk hij hc,Dk hij hc];exact pN g g' _ _ (by omega) (by omega)
  rw[vS (by omega),vS (by omega)]
def ja(cf:Nat→Int)(n:Nat):Nat:=gA cf n 0 n
theorem OA{cf:Nat→Int}:∀(g i j:Nat),i≤j→i≤gA cf g i j∧gA cf g i j≤j
 | 0,i,j,h=>by rw[gA];omega
 | g+1,i,j,h=>by
  by_cases hij:i<j
  ·by_cases hc:cf ((i+j) / 2)<0
   ·rw[Dj hij hc];have:=OA (cf:=cf) g ((i+j) / 2+1) j (by omega);omega
   rw[Dk hij hc];have:=OA (cf:=cf) g i ((i+j) / 2) (by omega);omega
  rw[vS (by omega)];omega
theorem F8(cf:Nat→Int)(n:Nat):ja cf n≤n:=(OA n 0 n (by omega)).2
def iq(cf:Nat→Int)(n:Nat):Bool:=decide (ja cf n<n)&&cf (ja cf n)==0
def rX(w:World)(A:Option Addr)(z n:Nat)(cs:Nat→Array Value):Prop:=
 ∀j,j<n→∃bk o,A=some ⟨bk,o,none⟩∧bk<w.heap.size∧∀i v,(cs j)[i]?=some v→w.cell? ⟨bk,o+j*z+i,none⟩=some v
theorem rX.grow{w w':World}{A:Option Addr}{z n:Nat}{cs:Nat→Array Value}(h:rX w A z n cs)(hg:Grow w w'):rX w' A z n cs:=fun j hj=>by
 obtain⟨bk,o,ha,hb,hc⟩:=h j hj;exact⟨bk,o,ha,df hb hg.size,fun i v hv=>(hg.below.cell hb).trans (hc i v hv)⟩
structure Cc where
 nm:ByteArray
 dA:Option Addr
 dn:Nat
 dc:Nat
 xA:Option Addr
 xn:Nat
 xc:Nat
abbrev Cc.cells(c:Cc):Array Value:=#[.string c.nm,.slice c.dA c.dn c.dc,.slice c.xA c.xn c.xc]
structure Ix where
 name:ByteArray
 path:ByteArray
 uniq:Bool
abbrev Ix.cells(c:Ix):Array Value:=#[.string c.name,.string c.path,.bool c.uniq]
end




section
open Go.RowKit
theorem abV(l:List UInt8):Lib.bytesOf (l.map fun b=>(b.toNat:Int))=l:=by
 induction l with
 | nil=>rfl
 | cons x l ih=>simp only[Lib.bytesOf,fH,lG] at ih ⊢;rw[ih];simp
theorem Vf{w:World}{A:Option Addr}{b:List UInt8}(c:Nat)(h:bA w A b):(Extern.Bytes.bytesOf (.slice A b.length c)).run prog w=.ok ⟨b.toArray⟩ w:=by
 rcases A with _ | ad
 ·rcases Aq b.length with h0 | h0
  ·have:b=[]:=lC h0;subst this;rfl
  obtain⟨_,_,e,_⟩:=h.2 h0;cases e
 have hl:=Lib.run_loadBytesX (P:=prog) w (b.map fun x=>(x.toNat:Int)) ad .empty (fun j x hj=>by
  rw[tL] at hj
  cases hb:b[j]? with
  | none=>rw[hb] at hj;cases hj
  | some y =>
   rw[hb] at hj;have hjl:j<b.length:=(kC.1 hb).1;obtain⟨bk,o,e,hc⟩:=h.2 (by omega);injection e with e;subst e;rw[add_lit]
   cases hj
   exact(hc j _ (by rw[bT,tL,hb];rfl)).1)
 rw[dZ,abV] at hl;show (Extern.Bytes.loadBytes ad b.length .empty).run prog w=_;rw[hl];simp
theorem abW{w:World}{A B:Option Addr}{a b:List UInt8}(c d:Nat)(h:bA w A a)(g:bA w B b) :
 (Extern.BytealgCompare.compare #[.slice A a.length c,.slice B b.length d]).run prog w=.ok (.int .i64 (Lib.compareBytes a b)) w:=by
 change Sem.run prog (do pure (goInt (Extern.BytealgCompare.cmp (← Extern.Bytes.bytesOf (.slice A a.length c)) (← Extern.Bytes.bytesOf (.slice B b.length d))))) w=_;simp only[Ar,Vf c h,Vf d g,CM,Result.andThen];rw[Lib.cmp_eq];rfl
theorem Vg(a b:List UInt8)(A B:Option Addr)(c d:Nat)(w:World)(h:bA w A a)(g:bA w B b) :
 Calls prog 54 #[.slice A a.length c,.slice B b.length d] w fun e w'=>e=.returned (.int .i64 (Lib.compareBytes a b))∧w'=w:=by
 go_enter func54,ntmps54;go_wp2_with fail;rw[run_callFunc_extern (P:=prog) (f:=99) (fn:=f99) (by kernel_rfl) (by kernel_rfl) (by kernel_rfl) (by kernel_rfl) (e:=Extern.BytealgCompare.compare) (by kernel_rfl),abW c d h g];simp only[Result.andThen];rw[Ko];go_wp2_with fail;go_ret;exact⟨rfl,rfl⟩
end
section
open Go.RowKit
theorem OB{k:IntKind}{a b:Int}{p q:Bool}(h:a=b)(h':p=q):Ending.returned (.tuple #[.int k a,.bool p])=.returned (.tuple #[.int k b,.bool q]):=by rw[h,h']
theorem abX(n:Nat)(cf:Nat→Int)(el:Nat→Cc)(A:Option Addr)(cap:Nat)(u:Value)(w:World)(hn:n≤140737488355328)(hrow:rX w A 3 n (fun j=>(el j).cells))
 (yY:∀j,j<n→∀w',Grow w w'→Calls prog 163 #[.agg (el j).cells,u] w' fun e w''=>e=.returned (.int .i64 (cf j))∧Grow w' w'') :
 Calls prog 162 #[.slice A n cap,u,.func (.func 163) #[] #[]] w fun e w'=>e=.returned (.tuple #[.int .i64 (ja cf n:Nat),.bool (iq cf n)])∧Grow w w':=by
 have kV:=aa hrow;have yZ:=aa yY;have hle0:=F8 cf n;obtain⟨R,hR⟩:∃R,ja cf n=R:=⟨_,rfl⟩;obtain⟨T,hT⟩:∃T,iq cf n=T:=⟨_,rfl⟩;rw[hR] at hle0 ⊢;rw[hT];have y9:=aa hT;have HR:=aa hR;clear hrow yY hR hT;go_enter func162,ntmps162;go_wp2_with fail;go_loopg [9,10,11] (n+1) (fun gk i j hh wr=>∃a b:Nat,a≤b∧b≤n∧b-a≤gk∧i=.int .i64 a∧j=.int .i64 b∧gA cf n a b=R∧Grow w wr);exact⟨0,n,by omega,by omega,by omega,rfl,rfl,HR.o,ah w⟩;obtain⟨a,b,hab,F9,kW,rfl,rfl,hbs,hwr⟩:=hrel;have fp:=aa hwr;have az:=aa hbs;clear hwr hbs;by_cases hlt:a<b
 ·obtain⟨gk',rfl⟩:=bS gk (by omega);obtain⟨h,hh⟩:∃h,(a+b) / 2=h:=⟨_,rfl⟩;have Vh:a≤h:=by omega
  have F_:h<b:=by omega
  have hhi:((a:Int)+(b:Int)) / 2=(h:Int):=by omega
  have y_:h<n:=by omega
  obtain⟨bk,o,ha,hbk,hc⟩:=(kV.o.grow fp.o) h y_;subst ha;have e0:wr.cell? ⟨bk,o+h*3,none⟩=some (.string (el h).nm):=by simpa using hc 0 _ rfl
  have e1:wr.cell? ⟨bk,o+h*3+1,none⟩=some (.slice (el h).dA (el h).dn (el h).dc):=by simpa using hc 1 _ rfl
  have e2:wr.cell? ⟨bk,o+h*3+2,none⟩=some (.slice (el h).xA (el h).xn (el h).xc):=by simpa using hc 2 _ rfl
  have HC:=aa (yZ.o h y_ wr fp.o);have HH:=aa hh;obtain⟨z,hz⟩:∃z,cf h=z:=⟨_,rfl⟩;rw[hz] at HC;have HZ:=aa hz;clear hc hbk hh hz;go_wp2_with fail;refine HC.o.mono ?_;rintro e w2 ⟨rfl,hg2⟩;have HG2:=aa (fp.o.trans hg2);clear hg2;by_cases hneg:z<0
  ·have Ga:=aa (show gA cf n (h+1) b=R by rw[← az.o,pN n ((b-a-1)+1) a b (by omega) (by omega),Dj hlt (by rw[HH.o,HZ.o];exact hneg),HH.o];exact pN _ _ _ _ (by omega) (by omega));go_wp2_with fail;go_roundg gk';exact⟨h+1,b,by omega,F9,by omega,by go_num,rfl,Ga.o,HG2.o⟩;omega
  have vT:=aa (show gA cf n a h=R by rw[← az.o,pN n ((b-a-1)+1) a b (by omega) (by omega),Dk hlt (by rw[HH.o,HZ.o];exact hneg),HH.o];exact pN _ _ _ _ (by omega) (by omega));go_wp2_with fail;go_roundg gk';exact⟨a,h,by omega,by omega,by omega,rfl,rfl,vT.o,HG2.o⟩;omega
 obtain rfl:a=b:=by omega
 obtain rfl:R=a:=by rw[← az.o,vS (ay _)]
 by_cases pO:R<n
 ·obtain⟨bk,o,ha,hbk,hc⟩:=(kV.o.grow fp.o) R pO;subst ha;have e0:wr.cell? ⟨bk,o+R*3,none⟩=some (.string (el R).nm):=by simpa using hc 0 _ rfl
  have e1:wr.cell? ⟨bk,o+R*3+1,none⟩=some (.slice (el R).dA (el R).dn (el R).dc):=by simpa using hc 1 _ rfl
  have e2:wr.cell? ⟨bk,o+R*3+2,none⟩=some (.slice (el R).xA (el R).xn (el R).xc):=by simpa using hc 2 _ rfl
  have HC:=aa (yZ.o R pO wr fp.o);obtain⟨z,hz⟩:∃z,cf R=z:=⟨_,rfl⟩;rw[hz] at HC;have HZ:=aa hz;clear hc hbk hz hlt;go_wp2_with fail;refine HC.o.mono ?_;rintro e w2 ⟨rfl,hg2⟩;have HG2:=aa (fp.o.trans hg2);clear hg2;go_wp2_with fail;go_ret2;exact⟨OB rfl (by rw[← y9.o];unfold iq;rw[HR.o,HZ.o,bW pO,rN]),HG2.o⟩
 obtain rfl:T=false:=by rw[← y9.o];unfold iq;rw[HR.o,bX pO];rfl
 go_wp2_with fail;go_ret2;exact⟨rfl,fp.o⟩
theorem abY(n:Nat)(cf:Nat→Int)(el:Nat→Ix)(A:Option Addr)(cap:Nat)(u:Value)(w:World)(hn:n≤140737488355328)(hrow:rX w A 3 n (fun j=>(el j).cells))
 (yY:∀j,j<n→∀w',Grow w w'→Calls prog 171 #[.agg (el j).cells,u] w' fun e w''=>e=.returned (.int .i64 (cf j))∧Grow w' w'') :
 Calls prog 170 #[.slice A n cap,u,.func (.func 171) #[] #[]] w fun e w'=>e=.returned (.tuple #[.int .i64 (ja cf n:Nat),.bool (iq cf n)])∧Grow w w':=by
 have kV:=aa hrow;have yZ:=aa yY;have hle0:=F8 cf n;obtain⟨R,hR⟩:∃R,ja cf n=R:=⟨_,rfl⟩;obtain⟨T,hT⟩:∃T,iq cf n=T:=⟨_,rfl⟩;rw[hR] at hle0 ⊢;rw[hT];have y9:=aa hT;have HR:=aa hR;clear hrow yY hR hT;go_enter func170,ntmps170;go_wp2_with fail;go_loopg [9,10,11] (n+1) (fun gk i j hh wr=>∃a b:Nat,a≤b∧b≤n∧b-a≤gk∧i=.int .i64 a∧j=.int .i64 b∧gA cf n a b=R∧Grow w wr);exact⟨0,n,by omega,by omega,by omega,rfl,rfl,HR.o,ah w⟩;obtain⟨a,b,hab,F9,kW,rfl,rfl,hbs,hwr⟩:=hrel;have fp:=aa hwr;have az:=aa hbs;clear hwr hbs;by_cases hlt:a<b
 ·obtain⟨gk',rfl⟩:=bS gk (by omega);obtain⟨h,hh⟩:∃h,(a+b) / 2=h:=⟨_,rfl⟩;have Vh:a≤h:=by omega
  have F_:h<b:=by omega
  have hhi:((a:Int)+(b:Int)) / 2=(h:Int):=by omega
  have y_:h<n:=by omega
  obtain⟨bk,o,ha,hbk,hc⟩:=(kV.o.grow fp.o) h y_;subst ha;have e0:wr.cell? ⟨bk,o+h*3,none⟩=some (.string (el h).name):=by simpa using hc 0 _ rfl
  have e1:wr.cell? ⟨bk,o+h*3+1,none⟩=some (.string (el h).path):=by simpa using hc 1 _ rfl
  have e2:wr.cell? ⟨bk,o+h*3+2,none⟩=some (.bool (el h).uniq):=by simpa using hc 2 _ rfl
  have HC:=aa (yZ.o h y_ wr fp.o);have HH:=aa hh;obtain⟨z,hz⟩:∃z,cf h=z:=⟨_,rfl⟩;rw[hz] at HC;have HZ:=aa hz;clear hc hbk hh hz;go_wp2_with fail;refine HC.o.mono ?_;rintro e w2 ⟨rfl,hg2⟩;have HG2:=aa (fp.o.trans hg2);clear hg2;by_cases hneg:z<0
  ·have Ga:=aa (show gA cf n (h+1) b=R by rw[← az.o,pN n ((b-a-1)+1) a b (by omega) (by omega),Dj hlt (by rw[HH.o,HZ.o];exact hneg),HH.o];exact pN _ _ _ _ (by omega) (by omega));go_wp2_with fail;go_roundg gk';exact⟨h+1,b,by omega,F9,by omega,by go_num,rfl,Ga.o,HG2.o⟩;omega
  have vT:=aa (show gA cf n a h=R by rw[← az.o,pN n ((b-a-1)+1) a b (by omega) (by omega),Dk hlt (by rw[HH.o,HZ.o];exact hneg),HH.o];exact pN _ _ _ _ (by omega) (by omega));go_wp2_with fail;go_roundg gk';exact⟨a,h,by omega,by omega,by omega,rfl,rfl,vT.o,HG2.o⟩;omega
 obtain rfl:a=b:=by omega
 obtain rfl:R=a:=by rw[← az.o,vS (ay _)]
 by_cases pO:R<n
 ·obtain⟨bk,o,ha,hbk,hc⟩:=(kV.o.grow fp.o) R pO;subst ha;have e0:wr.cell? ⟨bk,o+R*3,none⟩=some (.string (el R).name):=by simpa using hc 0 _ rfl
  have e1:wr.cell? ⟨bk,o+R*3+1,none⟩=some (.string (el R).path):=by simpa using hc 1 _ rfl
  have e2:wr.cell? ⟨bk,o+R*3+2,none⟩=some (.bool (el R).uniq):=by simpa using hc 2 _ rfl
  have HC:=aa (yZ.o R pO wr fp.o);obtain⟨z,hz⟩:∃z,cf R=z:=⟨_,rfl⟩;rw[hz] at HC;have HZ:=aa hz;clear hc hbk hz hlt;go_wp2_with fail;refine HC.o.mono ?_;rintro e w2 ⟨rfl,hg2⟩;have HG2:=aa (fp.o.trans hg2);clear hg2;go_wp2_with fail;go_ret2;exact⟨OB rfl (by rw[← y9.o];unfold iq;rw[HR.o,HZ.o,bW pO,rN]),HG2.o⟩
 obtain rfl:T=false:=by rw[← y9.o];unfold iq;rw[HR.o,bX pO];rfl
 go_wp2_with fail;go_ret2;exact⟨rfl,fp.o⟩
theorem abZ(n:Nat)(cf:Nat→Int)(el:Nat→Cv)(A:Option Addr)(cap:Nat)(u:Value)(w:World)(hn:n≤140737488355328)(hrow:rX w A 5 n (fun j=>(el j).cells))
 (yY:∀j,j<n→∀w',Grow w w'→Calls prog 167 #[.agg (el j).cells,u] w' fun e w''=>e=.returned (.int .i64 (cf j))∧Grow w' w'') :
 Calls prog 166 #[.slice A n cap,u,.func (.func 167) #[] #[]] w fun e w'=>e=.returned (.tuple #[.int .i64 (ja cf n:Nat),.bool (iq cf n)])∧Grow w w':=by
 have kV:=aa hrow;have yZ:=aa yY;have hle0:=F8 cf n;obtain⟨R,hR⟩:∃R,ja cf n=R:=⟨_,rfl⟩;obtain⟨T,hT⟩:∃T,iq cf n=T:=⟨_,rfl⟩;rw[hR] at hle0 ⊢;rw[hT];have y9:=aa hT;have HR:=aa hR;clear hrow yY hR hT;go_enter func166,ntmps166;go_wp2_with fail;go_loopg [9,10,11] (n+1) (fun gk i j hh wr=>∃a b:Nat,a≤b∧b≤n∧b-a≤gk∧i=.int .i64 a∧j=.int .i64 b∧gA cf n a b=R∧Grow w wr);exact⟨0,n,by omega,by omega,by omega,rfl,rfl,HR.o,ah w⟩;obtain⟨a,b,hab,F9,kW,rfl,rfl,hbs,hwr⟩:=hrel;have fp:=aa hwr;have az:=aa hbs;clear hwr hbs;by_cases hlt:a<b
 ·obtain⟨gk',rfl⟩:=bS gk (by omega);obtain⟨h,hh⟩:∃h,(a+b) / 2=h:=⟨_,rfl⟩;have Vh:a≤h:=by omega
  have F_:h<b:=by omega
  have hhi:((a:Int)+(b:Int)) / 2=(h:Int):=by omega
  have y_:h<n:=by omega
  obtain⟨bk,o,ha,hbk,hc⟩:=(kV.o.grow fp.o) h y_;subst ha;have e0:wr.cell? ⟨bk,o+h*5,none⟩=some (.int .i64 (el h).k):=by simpa using hc 0 _ rfl
  have e1:wr.cell? ⟨bk,o+h*5+1,none⟩=some (.int .u64 (el h).n):=by simpa using hc 1 _ rfl
  have e2:wr.cell? ⟨bk,o+h*5+2,none⟩=some (.slice (el h).aB (el h).nB (el h).cB):=by simpa using hc 2 _ rfl
  have e3:wr.cell? ⟨bk,o+h*5+3,none⟩=some (.slice (el h).aL (el h).nL (el h).cL):=by simpa using hc 3 _ rfl
  have e4:wr.cell? ⟨bk,o+h*5+4,none⟩=some (.slice (el h).aF (el h).nF (el h).cF):=by simpa using hc 4 _ rfl
  have HC:=aa (yZ.o h y_ wr fp.o);have HH:=aa hh;obtain⟨z,hz⟩:∃z,cf h=z:=⟨_,rfl⟩;rw[hz] at HC;have HZ:=aa hz;clear hc hbk hh hz;go_wp2_with fail;refine HC.o.mono ?_;rintro e w2 ⟨rfl,hg2⟩;have HG2:=aa (fp.o.trans hg2);clear hg2;by_cases hneg:z<0
  ·have Ga:=aa (show gA cf n (h+1) b=R by rw[← az.o,pN n ((b-a-1)+1) a b (by omega) (by omega),Dj hlt (by rw[HH.o,HZ.o];exact hneg),HH.o];exact pN _ _ _ _ (by omega) (by omega));go_wp2_with fail;go_roundg gk';exact⟨h+1,b,by omega,F9,by omega,by go_num,rfl,Ga.o,HG2.o⟩;omega
  have vT:=aa (show gA cf n a h=R by rw[← az.o,pN n ((b-a-1)+1) a b (by omega) (by omega),Dk hlt (by rw[HH.o,HZ.o];exact hneg),HH.o];exact pN _ _ _ _ (by omega) (by omega));go_wp2_with fail;go_roundg gk';exact⟨a,h,by omega,by omega,by omega,rfl,rfl,vT.o,HG2.o⟩;omega
 obtain rfl:a=b:=by omega
 obtain rfl:R=a:=by rw[← az.o,vS (ay _)]
 by_cases pO:R<n
 ·obtain⟨bk,o,ha,hbk,hc⟩:=(kV.o.grow fp.o) R pO;subst ha;have e0:wr.cell? ⟨bk,o+R*5,none⟩=some (.int .i64 (el R).k):=by simpa using hc 0 _ rfl
  have e1:wr.cell? ⟨bk,o+R*5+1,none⟩=some (.int .u64 (el R).n):=by simpa using hc 1 _ rfl
  have e2:wr.cell? ⟨bk,o+R*5+2,none⟩=some (.slice (el R).aB (el R).nB (el R).cB):=by simpa using hc 2 _ rfl
  have e3:wr.cell? ⟨bk,o+R*5+3,none⟩=some (.slice (el R).aL (el R).nL (el R).cL):=by simpa using hc 3 _ rfl
  have e4:wr.cell? ⟨bk,o+R*5+4,none⟩=some (.slice (el R).aF (el R).nF (el R).cF):=by simpa using hc 4 _ rfl
  have HC:=aa (yZ.o R pO wr fp.o);obtain⟨z,hz⟩:∃z,cf R=z:=⟨_,rfl⟩;rw[hz] at HC;have HZ:=aa hz;clear hc hbk hz hlt;go_wp2_with fail;refine HC.o.mono ?_;rintro e w2 ⟨rfl,hg2⟩;have HG2:=aa (fp.o.trans hg2);clear hg2;go_wp2_with fail;go_ret2;exact⟨OB rfl (by rw[← y9.o];unfold iq;rw[HR.o,HZ.o,bW pO,rN]),HG2.o⟩
 obtain rfl:T=false:=by rw[← y9.o];unfold iq;rw[HR.o,bX pO];rfl
 go_wp2_with fail;go_ret2;exact⟨rfl,fp.o⟩
end
section
open V
structure Rq where
 bj:Int
 aA:ByteArray
 index:ByteArray
 path:ByteArray
 unique:Bool
 key:V
 low:V
 high:V
 doc:V
 n:Int
structure Rp where
 e:Int
 n:Int
 ag:List V
 fL:Int
def Rp.zero:Rp:=⟨0,0,[],0⟩
abbrev dm(d:Int)(c i p:ByteArray)(u:Bool)(k l h x:Cv)(n:Int):Array Value:=
 #[.int .i64 d,.string c,.string i,.string p,.bool u,.int .i64 k.k,.int .u64 k.n,.slice k.aB k.nB k.cB,.slice k.aL k.nL k.cL,.slice k.aF k.nF k.cF,
  .int .i64 l.k,.int .u64 l.n,.slice l.aB l.nB l.cB,.slice l.aL l.nL l.cL,.slice l.aF l.nF l.cF,.int .i64 h.k,.int .u64 h.n,.slice h.aB h.nB h.cB,.slice h.aL h.nL h.cL,.slice h.aF h.nF h.cF,
  .int .i64 x.k,.int .u64 x.n,.slice x.aB x.nB x.cB,.slice x.aL x.nL x.cL,.slice x.aF x.nF x.cF,.int .i64 n]
abbrev cO(e n:Int)(A:Option Addr)(l c:Nat)(k:Int):Array Value:=#[.int .i64 e,.int .i64 n,.slice A l c,.int .i64 k]
end
section
open Go.RowKit
theorem tY(e:Int)(w:World):Calls prog 114 #[.bool true,.int .i64 e] w fun e w'=>e=.returned (.tuple #[])∧w=w':=by
 go_enter func114,ntmps114;go_wp2;go_end0;exact⟨rfl,rfl⟩
theorem AV(e:Int)(w:World):Calls prog 114 #[.bool false,.int .i64 e] w fun r w'=>r=.panicked (thrown e)∧w=w':=by
 go_enter func114,ntmps114;go_wp2;exact⟨rfl,rfl,rfl⟩
theorem OC(w:World):Calls prog 119 #[.int .i64 0] w fun e w'=>e=.returned (.tuple #[])∧w=w':=by
 go_enter func119,ntmps119;go_wp2_with fail;refine(tY 0 w).mono ?_;rintro e w' ⟨rfl,rfl⟩;go_wp2_with fail;go_end0;exact⟨rfl,rfl⟩
theorem Vi(e:Int)(he:e≠0)(w:World):Calls prog 119 #[.int .i64 e] w fun r w'=>r=.panicked (thrown e)∧w=w':=by
 have nU:(e==0)=false:=by simpa using he
 clear he;go_enter func119,ntmps119;go_wp2_with fail;refine(AV e w).mono ?_;rintro r w' ⟨rfl,rfl⟩;go_wp2_with fail;exact⟨rfl,rfl,rfl⟩
end
end Go.Proofs.YtndjopkdbdcmdaaGreatDoor
