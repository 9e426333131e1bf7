/- Part 21 of the proof of pentries_card. -/
import Derived.Test.YtndjopkdbdcmdaaGreatDoorPel19
set_option linter.unusedVariables false
set_option linter.unusedSimpArgs false
set_option maxRecDepth 100000
set_option maxHeartbeats 12800000
open Go.Proofs.Tryz
namespace Go.Proofs.YtndjopkdbdcmdaaGreatDoor
section
open Go.RowKit
theorem ah8{σ:Type}{P:Program}{md:Region.Mode}{ops:Array Oper}{Q:Exit→Act→World→Prop}{S:World→Prop}(μ:σ→Nat)(L:σ→Array Bool)(A:σ→Act)(I:σ→World→Prop)
 (h:∀s W,I s W→(∀s' W',μ s'<μ s→I s' W'→wpAnyH P md ops Q S (μ s') (L s') (A s') W')→wpAnyH P md ops Q S (μ s) (L s) (A s) W):∀s W,I s W→wpAnyH P md ops Q S (μ s) (L s) (A s) W:=by
 have key:∀n s W,μ s=n→I s W→wpAnyH P md ops Q S (μ s) (L s) (A s) W:=by
  intro n
  induction n using Nat.strongRecOn with
  | ind n ih =>
   intro s W hs hI;exact h s W hI (fun s' W' hlt hI'=>ih (μ s') (by omega) s' W' rfl hI')
 exact fun s W hI=>key _ s W rfl hI
theorem aac{σ:Type}{P:Program}{md:Region.Mode}{ops:Array Oper}{Q:Exit→Act→World→Prop}{S:World→Prop}(μ:σ→Nat)(L:σ→Array Bool)(pt:σ→Act→Act)(I:σ→World→Prop)(s0:σ){l:Array Bool}{a:Act}{W:World}{n:Nat}(hn:n=μ s0)(hl:l=L s0)(ha:pt s0 a=a)(h0:I s0 W)
 (h:∀s W,I s W→(∀s' W',μ s'<μ s→I s' W'→wpAnyH P md ops Q S (μ s') (L s') (pt s' a) W')→wpAnyH P md ops Q S (μ s) (L s) (pt s a) W):wpAnyH P md ops Q S n l a W:=by
 have h2:=ah8 μ L (fun s=>pt s a) I h s0 W h0;subst hn hl;have h3:wpAnyH P md ops Q S (μ s0) (L s0) (pt s0 a) W:=h2;rwa [ha] at h3
abbrev L1(ob rb q:Nat):Prop:=q=rb∨q=ob
theorem jt.two{w:World}{ob rb:Nat}{T T':TypeId}{e n k:Int}{A A':Option Addr}{l c l' c':Nat}(hb:Blk w rb T (dD e n A l c k))(ho:Blk w ob T' #[.slice A' l' c']):jt w (L1 ob rb):=by
 intro p u hp hc;rcases hp with hp | hp
 ·exact jt.P7 hb p u hp hc
 obtain⟨g,o,pr⟩:=p;have hp':g=ob:=hp;subst hp'
 cases pr with
 | some x =>
  unfold World.cell? at hc;rw[show w.heap[g]?=_ from ho] at hc;simp at hc
 | none =>
  rw[ho.cell] at hc;have ho:o<1:=by
   rcases dH o 1 with h | h
   ·exact h
   rw[uL (by simpa using h)] at hc;cases hc
  obtain rfl:o=0:=by omega
  cases hc
  refine⟨fun n h=>?_,fun n h=>?_,fun s h=>?_⟩<;>cases h
theorem ah9{w:World}{base n c:Nat}{A:Option Addr}{hs:List Cv}(h:w.ownsRow base 27 5 (.slice A n c) n (fD hs)):Src prog 5 24 (.slice A n c) n (fD hs) w:=by
 refine ej (lo:=0) (hi:=w.heap.size) lF ⟨h.1,fun hn=>?_⟩ (Dh hs);obtain⟨g,cap,hv,hb,hlt⟩:=World.ownsRow.form h (by omega);have hA:A=some ⟨g,0,none⟩:=by injection hv
 subst hA;refine⟨g,0,rfl,fun j u hu=>⟨?_,aS _,hlt⟩⟩;have:=ED h (g:=g) rfl j u hu;rwa [add_lit] at this
theorem ah_{S:Nat→Prop}{W0 w':World}{lo c6 c9:Nat}{A6 A9:Option Addr}{hs:List Cv}{l:List V}{cur:Array Value}(hv:VR S W0 lo A6 c6 hs l)
 (hown:w'.ownsRow lo 27 5 (.slice A9 (0+hs.length) c9) (0+hs.length) ([]++fD hs)) (hgr:(W0.alloc (.cells cur 27)).grownBy w' (Value.ownBlock (.slice (some ⟨W0.heap.size,0,none⟩) 0 hs.length)))
 (eY:Value.ownBlock (.slice A9 (0+hs.length) c9)=Value.ownBlock (.slice (some ⟨W0.heap.size,0,none⟩) 0 hs.length)∨Value.ownBlock (.slice A9 (0+hs.length) c9)=some (W0.alloc (.cells cur 27)).heap.size) :
 VR S w' lo A9 c9 hs l∧Grow W0 w'∧∃g,A9=some ⟨g,0,none⟩∧W0.heap.size≤g:=by
 have hG:Grow W0 w':=((ah W0).alloc (.cells cur 27)).grown hgr (fun k hk=>by have h2:W0.heap.size=k:=pd hk;omega);have hg:∃g,A9=some ⟨g,0,none⟩∧W0.heap.size≤g:=by
  have hb:∃g,bM A9=some g∧W0.heap.size≤g:=by
   rw[cE,cE] at eY;rcases eY with h | h
   ·exact⟨W0.heap.size,h,av _⟩
   exact⟨_,h,by simp⟩
  obtain⟨g,h1,h2⟩:=hb;rcases hown.2 with ⟨e,-⟩ | ⟨g',cap,cu,e,-⟩
  ·injection e with e;rw[e] at h1;cases h1
  injection e with e;rw[e] at h1;injection h1 with h1;exact⟨g',e,by rw[show g'=g from h1];exact h2⟩
 refine⟨⟨by rw[dg,mF] at hown;exact hown,hv.two.mono fun a b k=>iL (fun p u hp=>?_) _ _ k⟩,hG,hg⟩;have hp2:=xg (Kept.none_ hG) (fun _ h=>h.elim) p u hp;refine⟨hp2.1,hp2.2.1,fun hq=>?_⟩;rcases hq with hq | hq
 ·obtain⟨g,rfl,h2⟩:=hg;injection hq with hq;have:=hp.2.1;have h3:g=p.block:=hq;omega
 exact hp.2.2 (.inr hq)
theorem L4{w:World}{g o:Nat}{T:TypeId}{cs:Array Value}{v:Value}(hb:Blk w g T cs)(hv:cs[o]?=some v):w.setCell ⟨g,o,none⟩ v=w:=by
 have h1:=hb.bg o v;have h2:cs.setIfInBounds o v=cs:=by
  refine Array.ext_getElem? fun i=>?_
  rw[Array.getElem?_setIfInBounds];split
  ·rename_i h;subst h;split
   ·exact hv.symm
   rename_i h3;rw[uL (by omega)]
  rfl
 rw[h2] at h1;have h3:=(eK (S:=fun q=>q=g) w).set (p:=⟨g,o,none⟩) rfl v;have hz:(w.setCell ⟨g,o,none⟩ v).heap.size=w.heap.size:=by simp
 have he:(w.setCell ⟨g,o,none⟩ v).heap=w.heap:=by
  refine Array.ext_getElem? fun i=>?_
  by_cases hi:i<w.heap.size
  ·by_cases hg:i=g
   ·subst hg;exact Eq.trans h1 (lq hb)
   exact h3.block i hi hg
  rw[uL (by omega),uL (by omega)]
 show World.setCell w ⟨g,o,none⟩ v=w;unfold World.setCell at he ⊢;dsimp only at he;rw[he]
theorem aia{N:Nat}{st:List Co}{q:Rq}(h:ed N st){st':List Co}{n:Int}{ag:List V}(he:kp st q=.ok (st',n,ag)):(∀d∈ag,eu d)∧ag.length≤N+1:=by
 have nil:∀{s:List Co} {k:Int},(Except.ok (s,k,[]):ov)=.ok (st',n,ag)→(∀d∈ag,eu d)∧ag.length≤N+1:=fun e=>by
  injection e with e;injection e with _ e;injection e with _ e;subst e;exact⟨fun d hd=>(by cases hd),aS _⟩
 have one:∀{s:List Co} {k:Int} {c:Co} {i:Nat},c∈st→i<c.ag.length→(Except.ok (s,k,[c.ag.getD i V.zero]):ov)=.ok (st',n,ag)→(∀d∈ag,eu d)∧ag.length≤N+1:=fun {s k c i} hc hi e=>by
  injection e with e;injection e with _ e;injection e with _ e;subst e;refine⟨fun d hd=>?_,by simp⟩;rw[uP] at hd;subst hd;rw[jN,bN hi];exact(h.co c hc).ag _ (aY hi)
 unfold kp at he;split at he
 ·unfold mN at he;repeat (split at he;· cases he)
  exact nil he
 split at he
 ·unfold F7 at he;repeat (split at he;· cases he)
  exact nil he
 split at he
 ·unfold pM at he;repeat (split at he;· cases he)
  exact nil he
 split at he
 ·unfold pM at he;repeat (split at he;· cases he)
  exact nil he
 split at he
 ·unfold F8 at he;split at he;· cases he
  rename_i h1;split at he;· cases he
  split at he;· cases he
  rename_i h3;have hF:cQ (bh st) q.aD=true:=by simpa using h1
  exact one (nJ hF).2.1 (yS (by simpa using h3)) he
 split at he
 ·unfold OP at he;split at he;· cases he
  rename_i h1;split at he;· cases he
  split at he;· cases he
  rename_i h3;have hF:cQ (bh st) q.aD=true:=by simpa using h1
  exact one (nJ hF).2.1 (yS (by simpa using h3)) he
 split at he
 ·unfold F9 at he;repeat (split at he;· cases he)
  exact nil he
 split at he
 ·unfold F_ at he;repeat (split at he;· cases he)
  exact nil he
 split at he
 ·unfold OS at he;split at he;· cases he
  rename_i h1;split at he;· cases he
  split at he;· cases he
  split at he;· cases he
  split at he;· cases he
  have hF:cQ (bh st) q.aD=true:=by simpa using h1
  have aW:=h.co _ (nJ hF).2.1;injection he with he;injection he with _ he;injection he with _ he;subst he;have Kg:(∀d∈Ga (bH st q.aD) q,d∈(bH st q.aD).ag)∧(Ga (bH st q.aD) q).length≤(bH st q.aD).ag.length:=by
   unfold Ga;split
   ·exact⟨fun d hd=>hd,av _⟩
   refine⟨fun d hd=>?_,by rw[cY];exact afd _ _⟩;obtain⟨e,hm,rfl⟩:=jx.1 hd;unfold jr at hm;split at hm
   ·have:=(xk _).mem_iff.1 hm;unfold jV at this;rw[JF] at this;obtain⟨x,hx,hx2⟩:=this;unfold nG at hx2;split at hx2
    ·injection hx2 with hx2;rw[← hx2];exact hx
    cases hx2
   cases hm
  refine⟨fun d hd=>aW.ag d (Kg.1 d ?_),?_⟩
  ·unfold Km at hd;exact(List.mem_filter.1 (yq hd)).1
  unfold Km;rw[eD];have h2:=List.length_filter_le (fun d=>Vo (Vn q (OQ (bH st q.aD) q) d) q.low q.high) (Ga (bH st q.aD) q);have h3:=Kg.2;have h4:=aW.nd;omega
 split at he
 ·unfold countP at he;split at he;· cases he
  exact nil he
 cases he
end
section
open Go.RowKit
def RG(w:World)(st:List Co)(q:Rq)(e:Ending)(w':World):Prop:=
 Grow w w'∧∃A c dA dc,e=.returned (.tuple #[.agg #[.slice A (mO st q).1.length c],.agg (dD (mO st q).2.e (mO st q).2.n dA (mO st q).2.ag.length dc (mO st q).2.gY)])∧dR w' A c (mO st q).1∧InL w' dA dc (mO st q).2.ag
theorem aib(w:World):Sem.run prog (zeroValue 88) w=.ok (.agg #[.nilFunc]) w:=by kernel_rfl
def aic(w:World)(k:Int)(t6 t7:Value)(wx:World):Prop:=
 Grow w wx∧((1≤k∧k≤10)∧t7=.bool true∧(∃L5,t6=.pointer (some ⟨L5,0,none⟩)∧w.heap.size≤L5∧Blk wx L5 88 #[.func (.func (jX k)) #[] #[]])∨¬ (1≤k∧k≤10)∧t7=.bool false)
theorem aid(k:Int)(g:Nat)(w:World)(hm:w.heap[g]?=some (.map reqs 10)):∃u b,(Instr.lookup 90 (.map (some g)) (.int .i64 k) true).run prog w=.ok (.tuple #[.agg #[u],.bool b]) w∧((1≤k∧k≤10)∧u=.func (.func (jX k)) #[] #[]∧b=true∨¬ (1≤k∧k≤10)∧u=.nilFunc∧b=false):=by
 by_cases h:1≤k∧k≤10
 ·obtain⟨i,hi⟩:=agd k h;exact⟨_,_,afC 90 3 88 rW FO g reqs 10 hm k i _ hi,.inl ⟨h,rfl,rfl⟩⟩
 exact⟨_,_,afD 90 3 88 _ rW FO (aib w) g reqs 10 hm k (afG k h),.inr ⟨h,rfl,rfl⟩⟩
theorem RH(k:Int)(g:Nat)(w:World)(hm:w.heap[g]?=some (.map reqs 10))(h:1≤k∧k≤10):(Instr.lookup 90 (.map (some g)) (.int .i64 k) true).run prog w=.ok (.tuple #[.agg #[.func (.func (jX k)) #[] #[]],.bool true]) w:=by
 obtain⟨u,b,hr,h1 | h1⟩:=aid k g w hm
 ·obtain⟨-,rfl,rfl⟩:=h1;exact hr
 exact absurd h h1.1
theorem aie{W:World}{ob rb:Nat}{tmps:Array Value}{u e n d k:Value}(h4:tmps.getD 4 undef=.pointer (some ⟨ob,0,none⟩))(h5:tmps.getD 5 undef=.pointer (some ⟨rb,0,none⟩))(ho:Blk W ob 44 #[u])(hr:Blk W rb 31 #[e,n,d,k]) :
 (results f18 tmps).run prog W=.ok (.tuple #[.agg #[u],.agg #[e,n,d,k]]) W:=by
 have rE:=ho.cell;have hrc:=hr.cell;have h4':tmps[4]?.getD undef=.pointer (some ⟨ob,0,none⟩):=by simpa using h4
 have wJ:tmps[5]?.getD undef=.pointer (some ⟨rb,0,none⟩):=by simpa using h5
 simp[results,results18,go_sem,h4',wJ,rE,hrc]
theorem ed.copy{N:Nat}{st:List Co}(h:ed N st)(hN:N≤1000001):st.length≤1000000000∧∀c∈st,Ws c:=by
 refine⟨by have:=h.n;omega,fun c hc=>?_⟩;have h1:=h.co c hc;refine⟨by have:=h1.nd;omega,by have:=h1.nx;omega,fun d hd=>?_⟩;obtain⟨i,-,-,-,hg,-⟩:=(h1.ag d hd).id;exact JY hg
theorem CR.old{B:Nat}{w w':World}{lo c:Nat}{A:Option Addr}{es:List Cc}{st:List Co}(h:CR (fun q=>q<B) w lo A c es st)(hB:B≤lo)(hk:Kept (fun q=>q<B) w w'):CR (fun q=>q<B) w' lo A c es st:=
 h.kept lL hk (fun _ h=>h) (fun g hg hq=>by
  have:=(bO h.row g (by rw[cE];exact hg)).1;omega)
theorem aif{P:Program}{ops:Array Oper}{a:Act}{S:World→Prop}{ty t:TypeId}{x:Operand}{d:Option Tmp}{p:String}{af:Array Edge}{g n:Nat}{cells:Array Value}{td:TypeDesc}(hu:P.underlying ty=some td)(hd:(match td with | .struct _ | .array _ _=>true | _=>false)=true)(hx:a.eval x=.pointer (some ⟨g,0,none⟩))(hB:∀w,S w→Blk w g ty cells)(hi:(P.info? ty).map (·.size)=some n)
 (hn:cells.size=n):YieldsIf P ops S ⟨d,.load ty x,t,p,af,none⟩ (.agg cells) a:=
 .inl ⟨by simp[Region.wanted],fun w hS=>by
  have:=EJ (P:=P) w g ty ty cells (0,0) td (hB w hS) hu hd (by rw[hn];exact hi);simp only[execOp,hx,Instr.loadAt,Instr.sureAddr,zO,BZ,B0,this]⟩
theorem aih:(prog.info? 33).map (·.size)=some 26:=by kernel_rfl
theorem aii(k:Int)(x:Value)(w:World):Sem.run prog (callFunc (jX k) #[x]) w=.ok (.enter (jX k) #[x]) w:=by
 unfold jX
 repeat' split
 all_goals kernel_rfl
theorem aij{w W:World}{st st2:List Co}{q:Rq}{n:Int}{ag:List V}{ja A9:Option Addr}{c10 c9:Nat}{ob rb:Nat}{tmps:Array Value}(hg:Grow w W)(oI:mO st q=(st2,⟨0,n,ag,0⟩))(ho:Blk W ob 44 #[.slice ja st2.length c10])(hr:Blk W rb 31 (dD 0 n A9 ag.length c9 0))
 (hs:dR W ja c10 st2) (hd:InL W A9 c9 ag) (h4:tmps.getD 4 undef=.pointer (some ⟨ob,0,none⟩)) (h5:tmps.getD 5 undef=.pointer (some ⟨rb,0,none⟩)) :
 (results f18 tmps).run prog W=.ok (.tuple #[.agg #[.slice ja st2.length c10],.agg (dD 0 n A9 ag.length c9 0)]) W∧RG w st q (.returned (.tuple #[.agg #[.slice ja st2.length c10],.agg (dD 0 n A9 ag.length c9 0)])) W:=by
 refine⟨aie h4 h5 ho hr,hg,ja,c10,A9,c9,?_,?_,?_⟩
 ·rw[oI]
 ·rw[oI];exact hs
 rw[oI];exact hd
end
section
open Go.RowKit
theorem aik(N cap:Nat)(A:Option Addr)(st:List Co)(q:Rq)(ck cl ch cx:Cv)(w:World)(hst:dR w A cap st)(hok:ed N st)(hN:N≤1000000)(hR:uo q)(hTL:∀W,Grow w W→eo W∧kO W)
 (hk:In w q.key ck) (hl:In w q.low cl) (hh:In w q.high ch) (hx:In w q.doc cx) (L6:BA st q) {st2:List Co} (zw:kp st q=.ok (st2,0,[])) :
 Calls prog 18 #[.agg #[.slice A st.length cap],.agg (cP q.bp q.aD q.index q.path q.unique ck cl ch cx q.n)] w (RG w st q):=by
 have HST:=aa hst;have cJ:=aa hok;have HR:=aa hR;have RI:=aa hTL;have HK:=aa hk;have HL:=aa hl;have HH:=aa hh;have HX:=aa hx;have Iu:=aa L6;have ail:=aa zw;clear hst hok hR hTL hk hl hh hx zw;have bz:=aa (((((ah w).alloc (.cells #[.slice A st.length cap] 44)).alloc (.cells (cP q.bp q.aD q.index q.path q.unique ck cl ch cx q.n) 33)).alloc (.cells #[.slice none 0 0] 44)).alloc (.cells #[.int .i64 0,.int .i64 0,.slice none 0 0,.int .i64 0] 31));have aC:=aa ((((aH w 44 #[.slice A st.length cap]).alloc (.cells (cP q.bp q.aD q.index q.path q.unique ck cl ch cx q.n) 33)).alloc (.cells #[.slice none 0 0] 44)).alloc (.cells #[.int .i64 0,.int .i64 0,.slice none 0 0,.int .i64 0] 31))
 have aw:=aa (((aH (w.alloc (.cells #[.slice A st.length cap] 44)) 33 (cP q.bp q.aD q.index q.path q.unique ck cl ch cx q.n)).alloc (.cells #[.slice none 0 0] 44)).alloc (.cells #[.int .i64 0,.int .i64 0,.slice none 0 0,.int .i64 0] 31));have RJ:=aa ((aH ((w.alloc (.cells #[.slice A st.length cap] 44)).alloc (.cells (cP q.bp q.aD q.index q.path q.unique ck cl ch cx q.n) 33)) 44 #[.slice none 0 0]).alloc (.cells #[.int .i64 0,.int .i64 0,.slice none 0 0,.int .i64 0] 31));have qE:=aa (aH (((w.alloc (.cells #[.slice A st.length cap] 44)).alloc (.cells (cP q.bp q.aD q.index q.path q.unique ck cl ch cx q.n) 33)).alloc (.cells #[.slice none 0 0] 44)) 31 #[.int .i64 0,.int .i64 0,.slice none 0 0,.int .i64 0]);rw[show (w.alloc (.cells #[.slice A st.length cap] 44)).heap.size=w.heap.size+1 from by simp] at aw
 rw[show ((w.alloc (.cells #[.slice A st.length cap] 44)).alloc (.cells (cP q.bp q.aD q.index q.path q.unique ck cl ch cx q.n) 33)).heap.size=w.heap.size+1+1 from by simp] at RJ;rw[show (((w.alloc (.cells #[.slice A st.length cap] 44)).alloc (.cells (cP q.bp q.aD q.index q.path q.unique ck cl ch cx q.n) 33)).alloc (.cells #[.slice none 0 0] 44)).heap.size=w.heap.size+1+1+1 from by simp] at qE;go_enter_defers func18,ntmps18;go_upto_region 1 with fail;generalize (((w.alloc (.cells #[.slice A st.length cap] 44)).alloc (.cells (cP q.bp q.aD q.index q.path q.unique ck cl ch cx q.n) 33)).alloc (.cells #[.slice none 0 0] 44)).alloc (.cells #[.int .i64 0,.int .i64 0,.slice none 0 0,.int .i64 0] 31)=W4 at bz aC aw RJ qE ⊢
 have sD:=aa (fun(W:World) (hg:Grow W4 W)=>show W.cell? ⟨w.heap.size+1,0,none⟩=some (.int .i64 q.bp) from (aw.o.grow hg).cell 0);go_cut [6,7] from 13 to 19 (fun t6 t7 wx=>aic W4 q.bp t6 t7 wx)
 case first =>
  have hkn:=L6.num;have BJ:=aa hkn;clear hkn;refine dN ?_;refine dO (S:=fun w'=>w'.cell? ⟨w.heap.size+1,0,none⟩=some (.int .i64 q.bp)) (by kernel_rfl) (sD.o _ ((ah _).drew)) (fun hHeld=>?_);have xU:=aa (show Grow W4 W4.drew from (ah _).drew);generalize W4.drew=V at xU hHeld ⊢;refine aj 1 ?_;refine aj 2 ?_;refine b_ [0,7] ?_;refine iz (fun K hK=>?_) (iz (fun K hK=>?_) bZ)
  ·go_simp;go_at_call 36;refine(Xo _).mono ?_;rintro ee w7 ⟨g,rfl,hge,vV,bW⟩;have pQ:=aa vV;have aZ:=aa (xU.o.trans bW);clear hge vV bW;refine aV hK (sD.o _ aZ.o) (fun hHeld=>?_);clear hK K;refine b_ [3,7] ?_;refine iz (fun K hK=>?_) (iz (fun K hK=>?_) bZ)
   ·have hlk:=RH q.bp g w7 pQ.o BJ.o;go_simp;clear hlk;refine aV hK (sD.o _ aZ.o) (fun hHeld=>?_);clear hK K;refine aj 4 ?_;refine aj 5 ?_;refine aj 6 ?_;refine aR 7 (fun K hK=>?_);go_simp;have dQ:=aa (aZ.o.alloc (.cells #[.nilFunc] 88));have nE:=aa (aH w7 88 #[.nilFunc]);have oJ:=aa (show W4.heap.size≤w7.heap.size from aZ.o.size);refine aV hK (sD.o _ dQ.o) (fun hHeld=>?_);clear hK K;generalize w7.alloc (.cells #[.nilFunc] 88)=W8 at nE dQ hHeld ⊢;have hcb:=nE.o.cell;have Iw:∀(a:Addr) (w:World) (m:Mode),Sem.run prog (store a (.func (.func (jX q.bp)) #[] #[]) m) w=stored prog w a (.func (.func (jX q.bp)) #[] #[]) m:=fun a w m=>run_store _ w a _ m rfl
    have tG:=nE.o.frozen;refine aR 8 (fun K hK=>?_);go_simp;have cG:=aa (nE.o.bg 0 (.func (.func (jX q.bp)) #[] #[]));have eU:=aa (dQ.o.grown (rC _ w7.heap.size 0 (.func (.func (jX q.bp)) #[] #[])) (fun k hk=>by cases hk;exact oJ.o));clear hcb tG Iw;refine aV hK (sD.o _ eU.o) (fun hHeld=>?_);clear hK K;refine aj 9 ?_;refine cz ?_;clear hHeld;go_wp2_with fail;go_meet;exact⟨eU.o,.inl ⟨BJ.o,rfl,_,rfl,oJ.o,cG.o⟩⟩
   go_simp;have dQ:=aa (aZ.o.alloc (.cells #[.nilFunc] 88));have nE:=aa (aH w7 88 #[.nilFunc]);have oJ:=aa (show W4.heap.size≤w7.heap.size from aZ.o.size);have aim:=aa (show (w7.alloc (.cells #[.nilFunc] 88)).heap[g]?=some (.map reqs 10) from (((ah w7).alloc _).below.block g (pn.1 pQ.o).1).trans pQ.o);refine aV hK (sD.o _ dQ.o) (fun hHeld=>?_);clear hK K;refine aR 3 (fun K hK=>?_);have hlk:=RH q.bp g _ aim.o BJ.o;go_simp;clear hlk;refine aV hK (sD.o _ dQ.o) (fun hHeld=>?_);clear hK K;refine aj 4 ?_;refine aj 5 ?_;refine aj 6 ?_;generalize w7.alloc (.cells #[.nilFunc] 88)=W8 at nE dQ hHeld ⊢;have hcb:=nE.o.cell
   have Iw:∀(a:Addr) (w:World) (m:Mode),Sem.run prog (store a (.func (.func (jX q.bp)) #[] #[]) m) w=stored prog w a (.func (.func (jX q.bp)) #[] #[]) m:=fun a w m=>run_store _ w a _ m rfl
   have tG:=nE.o.frozen;refine aR 8 (fun K hK=>?_);go_simp;have cG:=aa (nE.o.bg 0 (.func (.func (jX q.bp)) #[] #[]));have eU:=aa (dQ.o.grown (rC _ w7.heap.size 0 (.func (.func (jX q.bp)) #[] #[])) (fun k hk=>by cases hk;exact oJ.o));clear hcb tG Iw;refine aV hK (sD.o _ eU.o) (fun hHeld=>?_);clear hK K;refine aj 9 ?_;refine cz ?_;clear hHeld;go_wp2_with fail;go_meet;exact⟨eU.o,.inl ⟨BJ.o,rfl,_,rfl,oJ.o,cG.o⟩⟩
  go_simp;have bC:=aa (xU.o.alloc (.cells #[.nilFunc] 88));have ay:=aa (aH V 88 #[.nilFunc]);have oJ:=aa (show W4.heap.size≤V.heap.size from xU.o.size);refine aV hK (sD.o _ bC.o) (fun hHeld=>?_);clear hK K;refine aR 0 (fun K hK=>?_);go_simp;go_at_call 36;refine(Xo _).mono ?_;rintro ee w7 ⟨g,rfl,hge,vV,bW⟩;have pQ:=aa vV;have dQ:=aa (bC.o.trans bW);have nE:=aa (ay.o.grow bW);clear hge vV bW;refine aV hK (sD.o _ dQ.o) (fun hHeld=>?_);clear hK K;refine aR 3 (fun K hK=>?_);have hlk:=RH q.bp g w7 pQ.o BJ.o;go_simp;clear hlk;refine aV hK (sD.o _ dQ.o) (fun hHeld=>?_);clear hK K;refine aj 4 ?_;refine aj 5 ?_;refine aj 6 ?_;have hcb:=nE.o.cell
  have Iw:∀(a:Addr) (w:World) (m:Mode),Sem.run prog (store a (.func (.func (jX q.bp)) #[] #[]) m) w=stored prog w a (.func (.func (jX q.bp)) #[] #[]) m:=fun a w m=>run_store _ w a _ m rfl
  have tG:=nE.o.frozen;refine aR 8 (fun K hK=>?_);go_simp;have cG:=aa (nE.o.bg 0 (.func (.func (jX q.bp)) #[] #[]));have eU:=aa (dQ.o.grown (rC _ V.heap.size 0 (.func (.func (jX q.bp)) #[] #[])) (fun k hk=>by cases hk;exact oJ.o));clear hcb tG Iw;refine aV hK (sD.o _ eU.o) (fun hHeld=>?_);clear hK K;refine aj 9 ?_;refine cz ?_;clear hHeld;go_wp2_with fail;go_meet;exact⟨eU.o,.inl ⟨BJ.o,rfl,_,rfl,oJ.o,cG.o⟩⟩
 obtain⟨cr,ain⟩:=hcut;rename World=>w5;have ame:=aa cr;have bC:=aa (bz.o.trans cr);have Iy:=aa (aC.o.grow cr);have RL:=aa (aw.o.grow cr);have aad:=aa (RJ.o.grow cr);have RM:=aa (qE.o.grow cr);clear cr;rcases ain with ⟨hkn,rfl,L5,rfl,hmx,fq⟩ | ⟨hkn,rfl⟩
 rotate_left
 ·exact absurd Iu.o.num hkn
 have BJ:=aa hkn;have HMX:=aa hmx;have cG:=aa fq;obtain⟨CL,jT,oF,qB⟩:=HST.o;have rP:=aa oF;have qC:=aa qB;clear hkn hmx fq oF qB CL;go_wp2_with fail;refine dN ?_;refine dO (S:=fun w'=>w'.cell? ⟨w.heap.size,0,none⟩=some (.slice A st.length cap)∧Blk w' (w.heap.size+1) 33 (cP q.bp q.aD q.index q.path q.unique ck cl ch cx q.n)) (by kernel_rfl) (⟨(Iy.o.grow ((ah _).drew)).cell 0,RL.o.grow ((ah _).drew)⟩) (fun hHeld=>?_);have xU:=aa (show Grow w5 w5.drew from (ah _).drew);have HVS:=aa (show w5.drew.heap.size=w5.heap.size from rfl);generalize w5.drew=V at xU HVS hHeld ⊢;refine aj 0 ?_;refine gW 1 ?_
 refine pq (i:=4) (v:=.agg (cP q.bp q.aD q.index q.path q.unique ck cl ch cx q.n)) (by simp only[uV,uW,uX];rfl) (by kernel_rfl) (by kernel_rfl) (by kernel_rfl) (fun _ _ _ h=>h) (aif (n:=26) underlying33 rfl rfl (fun _ h=>h.2) aih rfl) (by assumption) ?_
 try simp only[ak]
 refine aR 2 (fun K hK=>?_);go_simp;go_at_call 38;refine(ahZ st.length A cap (dw jT) V (qC.o.mono (eO ((bC.o.trans xU.o).below) (av _) (av _) (bC.o.trans xU.o).size)) (Df jT) (by have:=cJ.o.n;omega)).mono ?_;rintro ee w7 ⟨A1,c1,rfl,hown,bW⟩;have HOW:=aa hown;have aZ:=aa (xU.o.trans bW);clear hown bW;refine aV hK (⟨(Iy.o.grow aZ.o).cell 0,RL.o.grow aZ.o⟩) (fun hHeld=>?_);clear hK K;refine aj 3 ?_;refine aj 5 ?_;refine aR 6 (fun K hK=>?_);go_simp;have L8:=aa (aH w7 96 (AY A1 st.length c1 q.bp q.aD q.index q.path q.unique ck cl ch cx q.n));have dQ:=aa (aZ.o.alloc (.cells (AY A1 st.length c1 q.bp q.aD q.index q.path q.unique ck cl ch cx q.n) 96));have oJ:=aa (show w5.heap.size≤w7.heap.size from aZ.o.size)
 have aae:=aa (kr (World.ownsRow.mono HOW.o (Nat.le_of_eq HVS.o.symm)) ((ah w7).alloc (.cells (AY A1 st.length c1 q.bp q.aD q.index q.path q.unique ck cl ch cx q.n) 96)));generalize w7.alloc (.cells (AY A1 st.length c1 q.bp q.aD q.index q.path q.unique ck cl ch cx q.n) 96)=W8 at L8 dQ aae ⊢;generalize w7.heap.size=mb at L8 oJ ⊢;refine hK.out _ _ ⟨(Iy.o.grow dQ.o).cell 0,RL.o.grow dQ.o⟩ (fun hHeld=>?_);clear hK K
 try simp only[ak]
 refine aj 7 ?_;refine cz ?_;clear hHeld;have hm8:=L8.o.cell;go_wp2_with fail;clear hm8;go_loopg [38] (st.length+1) (fun gk i wr=>∃(j:Nat) (es:List Cc),j≤st.length∧gk+j=st.length+1∧i=.int .i64 j∧vO wr w5.heap.size A1 c1 jT es st j∧Blk wr mb 96 (AY A1 st.length c1 q.bp q.aD q.index q.path q.unique ck cl ch cx q.n)∧Grow w5 wr);exact⟨0,jT,aS _,rfl,rfl,vO.start aae.o rP.o.1,L8.o,dQ.o⟩;obtain⟨j,es,hj,hg,rfl,hcl,BK,hgr⟩:=hrel;obtain⟨gk',rfl⟩:=bP gk (by omega);have js:=aa hcl;have BL:=aa BK;have aO:=aa hgr;clear hcl BK hgr;by_cases hlt:j<st.length
 ·have hel:j<es.length:=by rw[js.o.len];exact hlt
  obtain⟨gb,cur,hA,hb,hgg,hnc,hcm,hcs,ht,-⟩:=mP js.o.row (by omega);subst hA;obtain⟨e0,mo⟩:∃e,es[j]?=some e:=⟨es[j],bN hel⟩;obtain⟨nm,dA,dn,dc,xA,xn,xc⟩:=e0;obtain⟨c,hc⟩:∃c,st[j]=c:=⟨_,rfl⟩;have aW:=rP.o.2 j _ st[j] (by rw[← js.o.rest j (av _)];exact mo) (bN hlt);rw[hc] at aW;have L9:dn=c.ag.length:=aW.dn;have DR:xn=c.aq.length:=aW.xn;subst L9 DR;have hcell:∀(k:Nat),k<3→∀v,(Cc.cells ⟨nm,dA,c.ag.length,dc,xA,c.aq.length,xc⟩).toList[k]?=some v→wr.cell? ⟨gb,j*3+k,none⟩=some v:=fun k hk v hv=>by
   refine vC hgg ht _ _ ?_;rw[dw,ow _ 3 (fun _=>rfl) es j k hk _ mo];exact hv
  have a0:=hcell 0 (by omega) _ rfl;have a1:=hcell 1 (by omega) _ rfl;have a2:=hcell 2 (by omega) _ rfl;rw[fF] at a0;have zl:=aa aW;have nK:=aa mo;have HC:=aa hc;have sw:=aa hb;have sj:=aa (pn.1 hgg).1;have HCI:=aa (show c∈st from hc ▸ aY hlt);have amf:c.ag.length≤dc:=by
   have:=aW.ag;rw[IsV] at this;exact this.2.2.2.2.2.2.2.2.2.2.1
  have amg:c.aq.length≤xc:=aW.xc;have amh:c.ag.length≤N:=(cJ.o.co c HCI.o).nd;have Dz:=hel;clear hcell hgg hcm hcs ht hnc hb aW mo hc hel cur;go_wp2_with fail;clear a0 a1 a2;have xV:=aa (aH wr 48 #[.string nm,.slice dA c.ag.length dc,.slice xA c.aq.length xc]);have BM:=aa (BL.o.alloc (.cells #[.string nm,.slice dA c.ag.length dc,.slice xA c.aq.length xc] 48));have vY:=aa ((ah wr).alloc (.cells #[.string nm,.slice dA c.ag.length dc,.slice xA c.aq.length xc] 48));generalize wr.alloc (.cells #[.string nm,.slice dA c.ag.length dc,.slice xA c.aq.length xc] 48)=W1 at xV BM vY ⊢;refine dN ?_
  refine dO (S:=fun w'=>w'.cell? ⟨mb,0,none⟩=some (.slice (some ⟨gb,0,none⟩) st.length c1)∧w'.cell? ⟨wr.heap.size,1,none⟩=some (.slice dA c.ag.length dc)∧w'.cell? ⟨wr.heap.size,2,none⟩=some (.slice xA c.aq.length xc)) (by kernel_rfl) (⟨(BM.o.grow ((ah _).drew)).cell 0,(xV.o.grow ((ah _).drew)).cell 1,(xV.o.grow ((ah _).drew)).cell 2⟩) (fun hHeld=>?_);replace BM:=aa BM.o.drew;replace xV:=aa xV.o.drew;replace vY:=aa vY.o.drew;generalize W1.drew=W2 at BM xV vY hHeld ⊢;refine aj 0 ?_;refine aj 1 ?_;refine aj 2 ?_;refine aj 3 ?_;refine gW 4 ?_;refine aj 5 ?_;refine aj 6 ?_;refine gW 7 ?_;refine aj 8 ?_;refine gW 9 ?_;refine aj 10 ?_;refine aj 11 ?_;refine gW 12 ?_;refine aj 13 ?_;refine aj 14 ?_;refine aR 15 (fun K hK=>?_);go_simp;go_at_call 39
  obtain⟨cs,hrc,htc⟩:=PZ zl.o.ag;refine(XW c.ag.length dA c.ag.length (fD cs) W2 (hrc.mono (eO ((bC.o.trans (aO.o.trans vY.o)).below) (av _) (av _) (bC.o.trans (aO.o.trans vY.o)).size)) (Dh cs) (by omega)).mono ?_;rintro ee w3 ⟨A3,c3,rfl,gA,hg3⟩;have HTC:=aa htc;have g_:=aa gA;have aJ:=aa hg3;clear hrc htc gA hg3;refine aV hK (⟨(BM.o.grow aJ.o).cell 0,(xV.o.grow aJ.o).cell 1,(xV.o.grow aJ.o).cell 2⟩) (fun hHeld=>?_);clear hK K;refine aj 16 ?_;refine aj 17 ?_;have d_:=aa (kr js.o.row (vY.o.trans aJ.o));have hs1:w3.cell? ⟨gb,j*3+1,none⟩=some (.slice dA c.ag.length dc):=by
   rw[World.ownsRow.cellAt d_.o (j*3+1) (by omega),dw,ow _ 3 (fun _=>rfl) es j 1 (by decide) _ nK.o];rfl
  have hs2:=EH d_.o (j*3+1);refine aR 18 (fun K hK=>?_);go_simp;clear hs1 hs2;have cN:=aa (OV (k:=1) (v:=.slice A3 c.ag.length c3) (e':=⟨nm,A3,c.ag.length,c3,xA,c.aq.length,xc⟩) d_.o Dz js.o.len (by decide) (by rw[(kE.1 nK.o).2];rfl));have aaf:mb≠gb:=fun e=>fH js.o.row BL.o (by decide) (by rw[← e];rfl)
  have hgt:wr.heap.size≠gb:=by have:=sj.o;omega
  have xW:=aa ((jh (S:=fun k=>k=gb) (vY.o.trans aJ.o)).set (p:=⟨gb,j*3+1,none⟩) rfl (.slice A3 c.ag.length c3));have uB:=aa ((xV.o.grow aJ.o).far (p:=⟨gb,j*3+1,none⟩) hgt (.slice A3 c.ag.length c3));have zx:=aa ((BM.o.grow aJ.o).far (p:=⟨gb,j*3+1,none⟩) aaf (.slice A3 c.ag.length c3));have BN:=aa (fun g (hg:bM A3=some g)=>show wr.heap.size≤g from a_ vY.o.size (bO g_.o g (by rw[cE];exact hg)).1);have Iz:=aa (gD g_.o ((eK (S:=fun k=>k=gb) w3).set (p:=⟨gb,j*3+1,none⟩) rfl (.slice A3 c.ag.length c3)) (fun g hg e=>by have h1:=BN.o g hg;have h2:=sj.o;omega));generalize w3.setCell ⟨gb,j*3+1,none⟩ (.slice A3 c.ag.length c3)=w4 at cN xW uB zx Iz ⊢
  refine hK.out _ _ ⟨zx.o.cell 0,uB.o.cell 1,uB.o.cell 2⟩ (fun hHeld=>?_);clear hK K
  try simp only[ak]
  refine cz ?_;clear hHeld;go_wp2_with fail;refine dN ?_;refine dO (S:=fun w'=>w'.cell? ⟨mb,0,none⟩=some (.slice (some ⟨gb,0,none⟩) st.length c1)∧w'.cell? ⟨wr.heap.size,1,none⟩=some (.slice dA c.ag.length dc)∧w'.cell? ⟨wr.heap.size,2,none⟩=some (.slice xA c.aq.length xc)) (by kernel_rfl) (⟨(zx.o.grow ((ah _).drew)).cell 0,(uB.o.grow ((ah _).drew)).cell 1,(uB.o.grow ((ah _).drew)).cell 2⟩) (fun hHeld=>?_);replace zx:=aa zx.o.drew;replace uB:=aa uB.o.drew;replace xW:=aa (xW.o.trans (jh ((ah _).drew)));replace cN:=aa (kr cN.o ((ah _).drew));replace Iz:=aa (kr Iz.o ((ah _).drew));generalize w4.drew=W5 at zx uB xW cN Iz hHeld ⊢;refine aj 0 ?_;refine aj 1 ?_;refine aj 2 ?_;refine aj 3 ?_;refine gW 4 ?_
  refine aj 5 ?_;refine aj 6 ?_;refine gW 7 ?_;refine aj 8 ?_;refine gW 9 ?_;refine aj 10 ?_;refine aj 11 ?_;refine gW 12 ?_;refine aj 13 ?_;refine aj 14 ?_;refine aR 15 (fun K hK=>?_);go_simp;go_at_call 40;have hrx:=zl.o.aq;refine(ah0 c.aq.length xA c.aq.length (gm c.aq) W5 (hrx.mono (eO ((bC.o.below.trans ((aO.o.below).mono bC.o.size)).trans (xW.o.below (B:=w.heap.size) (a_ bC.o.size aO.o.size) (fun k hk=>by have:=sw.o;have:=bC.o.size;omega))) (av _) (av _) (a_ bC.o.size (a_ aO.o.size xW.o.size)))) (Dg c.aq) (by have:=(cJ.o.co c HCI.o).nx;omega)).mono ?_;rintro ee w6 ⟨A6,c6,rfl,kB,bU⟩;have rU:=aa kB;have bR:=aa bU;clear hrx kB bU
  refine aV hK (⟨(zx.o.grow bR.o).cell 0,(uB.o.grow bR.o).cell 1,(uB.o.grow bR.o).cell 2⟩) (fun hHeld=>?_);clear hK K;refine aj 16 ?_;refine aj 17 ?_;have il:=aa (kr cN.o bR.o);have hsj:(es.set j (⟨nm,A3,c.ag.length,c3,xA,c.aq.length,xc⟩:Cc))[j]?=some ⟨nm,A3,c.ag.length,c3,xA,c.aq.length,xc⟩:=List.getElem?_set_self Dz;have hs1:w6.cell? ⟨gb,j*3+2,none⟩=some (.slice xA c.aq.length xc):=by
   rw[World.ownsRow.cellAt il.o (j*3+2) (by omega),dw,ow _ 3 (fun _=>rfl) _ j 2 (by decide) _ hsj];rfl
  have hs2:=EH il.o (j*3+2);refine aR 18 (fun K hK=>?_);go_simp;clear hs1 hs2;have qA:=aa (OV (k:=2) (v:=.slice A6 c.aq.length c6) (e':=⟨nm,A3,c.ag.length,c3,A6,c.aq.length,c6⟩) il.o (by rw[j5];exact Dz) (by rw[j5];exact js.o.len) (by decide) (by rw[(kE.1 hsj).2];rfl));rw[List.set_set] at qA;have RO:=aa ((xW.o.trans (jh bR.o)).set (p:=⟨gb,j*3+2,none⟩) rfl (.slice A6 c.aq.length c6));have RP:=aa ((zx.o.grow bR.o).far (p:=⟨gb,j*3+2,none⟩) aaf (.slice A6 c.aq.length c6));have RQ:=aa ((uB.o.grow bR.o).far (p:=⟨gb,j*3+2,none⟩) hgt (.slice A6 c.aq.length c6))
  have xm:=aa (fun g (hg:bM A6=some g)=>show wr.heap.size≤g from a_ xW.o.size (bO rU.o g (by rw[cE];exact hg)).1);have CO:Kept (fun k=>k=gb) w6 (w6.setCell ⟨gb,j*3+2,none⟩ (.slice A6 c.aq.length c6)):=(eK (S:=fun k=>k=gb) w6).set (p:=⟨gb,j*3+2,none⟩) rfl (.slice A6 c.aq.length c6);have xJ:=aa (gD rU.o CO (fun g hg e=>by have h1:=xm.o g hg;have h2:=sj.o;omega));have aag:=aa (gD (kr Iz.o bR.o) CO (fun g hg e=>by have h1:=BN.o g hg;have h2:=sj.o;omega));clear CO;generalize w6.setCell ⟨gb,j*3+2,none⟩ (.slice A6 c.aq.length c6)=w8 at qA RO RQ RP xJ aag ⊢;refine hK.out _ _ ⟨RP.o.cell 0,RQ.o.cell 1,RQ.o.cell 2⟩ (fun hHeld=>?_);clear hK K
  try simp only[ak]
  refine cz ?_;clear hHeld;have ami:j+1≤17:=by have:=cJ.o.n;omega
  go_wp2_with fail;have dQ:=aa (show Grow w5 w8 from aO.o.below.trans (RO.o.below (B:=w5.heap.size) aO.o.size (fun k hk=>hk ▸ sw.o)));have cj:=aa (show iY w8 w5.heap.size ⟨nm,A3,c.ag.length,c3,A6,c.aq.length,c6⟩ c from
   ⟨zl.o.nm,rfl,rfl,⟨cs,World.ownsRow.mono aag.o (a_ aO.o.size vY.o.size),HTC.o.mono fun v x hv=>iL (eO ((bC.o.trans dQ.o).below) (av _) (av _) bC.o.size) _ _ hv⟩,World.ownsRow.mono xJ.o (a_ aO.o.size xW.o.size)⟩)
  go_roundg gk';exact⟨j+1,es.set j ⟨nm,A3,c.ag.length,c3,A6,c.aq.length,c6⟩,by omega,by omega,by go_num,vO.step js.o aO.o.size hlt (by rw[bN hlt,HC.o]) rfl sw.o RO.o qA.o cj.o BN.o xm.o,RP.o,dQ.o⟩;omega
 rename World=>wm;have hjl:j=st.length:=by omega
 subst hjl;have HOWN:=aa (js.o.finish (av _));have pQ:=aa (bC.o.trans aO.o);have aah:=aa (show fO wm w5.heap.size mb A1 c1 es st q ck cl ch cx from ⟨oJ.o,HOWN.o,BL.o,iL (eO pQ.o.below (av _) (av _) bC.o.size) _ _ HK.o,iL (eO pQ.o.below (av _) (av _) bC.o.size) _ _ HL.o,
  iL (eO pQ.o.below (av _) (av _) bC.o.size) _ _ HH.o,iL (eO pQ.o.below (av _) (av _) bC.o.size) _ _ HX.o⟩)
 have HMO:=aa (show Yu q wm w5.heap.size from ⟨HR.o,(RI.o wm pQ.o).1,(RI.o wm pQ.o).2,fun W hb=>RI.o W (pQ.o.below.trans (hb.mono bC.o.size))⟩);have lM:=aa (ag5 N w5.heap.size mb c1 A1 es st q ck cl ch cx wm aah.o cJ.o hN HMO.o Iu.o);have fq:=(cG.o.grow aO.o).cell;clear hlt hj hg js aah HMO HOWN;go_wp2_with fail;clear fq;rw[aii,Oper.upon_enter];refine lM.o.mono ?_;rintro e w9 ⟨IA,hM⟩;have eN:=aa (show Grow w w9 from pQ.o.below.trans (IA.mono bC.o.size));have aio:=aa (show Blk w9 w.heap.size 44 #[.slice A st.length cap] from (IA.block _ Iy.o.lt).trans (Iy.o.grow aO.o));have RR:=aa (show Blk w9 (w.heap.size+1+1) 44 #[.slice none 0 0] from (IA.block _ aad.o.lt).trans (aad.o.grow aO.o))
 have RS:=aa (show Blk w9 (w.heap.size+1+1+1) 31 #[.int .i64 0,.int .i64 0,.slice none 0 0,.int .i64 0] from (IA.block _ RM.o.lt).trans (RM.o.grow aO.o));have sx:=aa (show w.heap.size<w9.heap.size∧(w.heap.size+1+1)<w9.heap.size∧(w.heap.size+1+1+1)<w9.heap.size from ⟨aio.o.lt,RR.o.lt,RS.o.lt⟩);have Ec:=aa (show (w.heap.size+1+1+1)<mb from cU RM.o.lt oJ.o);clear IA;have zw:=ail.o;obtain⟨n,hn0⟩:∃n:Int,0=n:=⟨_,rfl⟩;obtain⟨ag,hd0⟩:∃d:List Go.Proofs.YtndjopkdbdcmdaaGreatDoor.V,[]=d:=⟨_,rfl⟩;rw[hn0,hd0] at zw;have HDE:=aa hd0;clear hn0 hd0;rw[zw] at hM;obtain⟨rfl,ig,A2,cap2,dA,dc,h0,hs2,KY,PY,dE⟩:=hM;have kY:=aa (show mO st q=(st2,⟨0,n,ag,0⟩) by unfold mO;rw[zw]);have hdd:=aia cJ.o zw
 have Ed:=aa hdd.1;have CM:=aa (show ag.length≤1000001 by have:=hdd.2;omega);have RT:=VV cJ.o HR.o.fit HR.o.doc;rw[kY.o] at RT;have aai:=aa RT;have aaj:=aa (jt.two RS.o RR.o);have eV:=aa hs2;have HMC:=aa (show w9.cell? ⟨mb,0,none⟩=some (.slice A2 st2.length cap2)∧w9.cell? ⟨mb,28,none⟩=some (.int .i64 n) from ⟨h0,KY⟩);have yL:=aa ig;have od:=aa (IsV.bare aaj.o _ _ dE);have amj:=aa (show ag.length≤dc from by unfold InL In at dE;rw[IsV] at dE;exact dE.2.2.2.2.2.2.2.2.2.2.1);clear zw hdd RT hs2 h0 KY ig dE;go_wp2_with fail;clear PY
 go_loopg [91] (ag.length+1) (fun gk i wr=>∃(j:Nat) (A6:Option Addr) (c6:Nat) (hs:List Cv),j≤ag.length∧gk+j=ag.length+1∧i=.int .i64 j∧Kept (fun q=>q=(w.heap.size+1+1+1)) w9 wr∧Blk wr (w.heap.size+1+1+1) 31 (dD 0 0 A6 hs.length c6 0)∧VR (L1 (w.heap.size+1+1) (w.heap.size+1+1+1)) wr w9.heap.size A6 c6 hs (ag.take j));exact⟨0,none,0,[],aS _,rfl,rfl,eK _ _,RS.o,GR.nil _⟩;obtain⟨j,A6,c6,hs,hj,hg,rfl,hkw,hbr,fM⟩:=hrel;obtain⟨gk',rfl⟩:=bP gk (by omega);have HKW:=aa hkw;have qE:=aa hbr;have DA:=aa fM;have HHL:=aa (show hs.length=j from by rw[fM.two.1,eD];omega);clear hkw hbr fM;by_cases hlt:j<ag.length
 ·exact absurd hlt (by rw[← HDE.o];simp)
 have hjl:j=ag.length:=by omega
 subst hjl;have HVT:=aa (show VR (L1 (w.heap.size+1+1) (w.heap.size+1+1+1)) wr w9.heap.size A6 c6 hs ag from by have:=DA.o;rwa [fC] at this);obtain⟨PD,hv0,hv1,hv2,hv3⟩:=info_parts ry;have Hv0:=aa hv0;have Hv1:=aa hv1;have Hv2:=aa hv2;have Hv3:=aa hv3;clear hv0 hv1 hv2 hv3;have L_:=aa (show hs.length≤1000001 by have:=HHL.o;have:=CM.o;omega);obtain⟨cur,jc,hmk⟩:=NJ hs.length (by have:=L_.o;omega);have aip:=aa jc;have BD:=aa hmk;clear jc hmk hlt hj hg;go_wp2_with fail;refine dN ?_;refine dO (S:=fun _=>True) (by kernel_rfl) (trivial) (fun hHeld=>?_);have az:=aa (show Grow wr wr.drew from (ah _).drew);generalize wr.drew=W0 at az hHeld ⊢;have aak:=aa (HKW.o.trans (jh az.o))
 have aal:=aa (HVT.o.grow pN az.o);have Em:=aa (qE.o.grow az.o);have RU:=aa (show w9.heap.size≤W0.heap.size from aak.o.size);refine aj 0 ?_;refine aj 4 ?_
 refine aac (σ:=Bool×Bool×Bool×Value×Value×Value×Value) (fun⟨a1,a5,a3,y1,y2,y5,y3⟩=>cond a1 0 2+cond a5 0 1+cond a3 0 1+3) (fun⟨a1,a5,a3,y1,y2,y5,y3⟩=>#[true,a1,a1,a3,true,a5,false,false,false]) (fun⟨a1,a5,a3,y1,y2,y5,y3⟩ a=>(fun a:Act=>cond a3 (a.put (some 108) y3) a) ((fun a:Act=>cond a5 (a.put (some 110) y5) a) ((fun a:Act=>cond a1 ((a.put (some 106) y1).put (some 107) y2) a) (a)))) (fun⟨a1,a5,a3,y1,y2,y5,y3⟩ W=>(!a3||a1)=true∧(a1=true→y1=.slice A6 hs.length c6∧y2=.int .i64 hs.length)∧(a5=true→y5=.slice A6 hs.length c6)∧(a3=true→y3=.slice (some ⟨W0.heap.size,0,none⟩) 0 hs.length)∧W=cond a3 (W0.alloc (.cells cur 27)) W0) ⟨false,false,false,undef,undef,undef,undef⟩ rfl rfl (by rfl) ?_ ?_
 ·exact⟨rfl,fun e=>(by cases e),fun e=>(by cases e),fun e=>(by cases e),rfl⟩
 intro s W hI IH;obtain⟨a1,a5,a3,y1,y2,y5,y3⟩:=s;dsimp only at hI
 cases a1<;>cases a5<;>cases a3<;>first | exact absurd hI.1 (by decide) | skip
 ·show wpAnyH _ _ _ _ _ 7 #[true,false,false,false,true,false,false,false,false] _ _
  try simp only[gL,ak]
  refine b_ [1,5] ?_;refine iz (fun K hK=>?_) ?_
  ·obtain⟨-,h1,h5,h3,hW⟩:=hI;replace h1:=aa h1;replace h5:=aa h5;replace h3:=aa h3;have hW2:W0=W:=lq hW;clear hW;subst hW2;have hr:=(Em.o).cell 2;go_simp;clear hr;refine hK.out _ _ (trivial) (fun hHeld=>?_);clear hK K
   try simp only[gL,ak]
   refine aj 2 ?_;have fB:=IH ⟨true,false,false,(Value.slice A6 hs.length c6),(Value.int .i64 (hs.length:Int)),y5,y3⟩ _ (show (5:Nat)<7 from by decide) ⟨rfl,fun _=>⟨rfl,rfl⟩,h5.o,h3,rfl⟩;dsimp only at fB;simp only[gL,ak] at fB;exact fB
  refine iz (fun K hK=>?_) bZ;obtain⟨-,h1,h5,h3,hW⟩:=hI;replace h1:=aa h1;replace h5:=aa h5;replace h3:=aa h3;have hW2:W0=W:=lq hW;clear hW;subst hW2;have hr:=(Em.o).cell 2;go_simp;clear hr;refine hK.out _ _ (trivial) (fun hHeld=>?_);clear hK K
  try simp only[gL,ak]
  have fB:=IH ⟨false,true,false,y1,y2,(Value.slice A6 hs.length c6),y3⟩ _ (show (6:Nat)<7 from by decide) ⟨rfl,h1.o,fun _=>rfl,h3,rfl⟩;dsimp only at fB;simp only[gL,ak] at fB;exact fB
 ·show wpAnyH _ _ _ _ _ 6 #[true,false,false,false,true,true,false,false,false] _ _
  try simp only[gL,ak]
  refine aR 1 (fun K hK=>?_);obtain⟨-,h1,h5,h3,hW⟩:=hI;replace h1:=aa h1;replace h5:=aa h5;replace h3:=aa h3;have hW2:W0=W:=lq hW;clear hW;subst hW2;have hr:=(Em.o).cell 2;go_simp;clear hr;refine hK.out _ _ (trivial) (fun hHeld=>?_);clear hK K
  try simp only[gL,ak]
  refine aj 2 ?_;have fB:=IH ⟨true,true,false,(Value.slice A6 hs.length c6),(Value.int .i64 (hs.length:Int)),y5,y3⟩ _ (show (4:Nat)<6 from by decide) ⟨rfl,fun _=>⟨rfl,rfl⟩,h5.o,h3,rfl⟩;dsimp only at fB;simp only[gL,ak] at fB;exact fB
 ·show wpAnyH _ _ _ _ _ 5 #[true,true,true,false,true,false,false,false,false] _ _
  try simp only[gL,ak]
  refine b_ [3,5] ?_;refine iz (fun K hK=>?_) ?_
  ·obtain⟨-,h1,h5,h3,hW⟩:=hI;replace h1:=aa h1;replace h5:=aa h5;replace h3:=aa h3;have hW2:W0=W:=lq hW;clear hW;subst hW2;obtain⟨rfl,rfl⟩:=h1.o rfl;have hmk:=BD.o;go_simp;clear hmk;refine hK.out _ _ (trivial) (fun hHeld=>?_);clear hK K
   try simp only[gL,ak]
   have fB:=IH ⟨true,false,true,(Value.slice A6 hs.length c6),(Value.int .i64 (hs.length:Int)),y5,(Value.slice (some ⟨W0.heap.size,0,none⟩) 0 hs.length)⟩ _ (show (4:Nat)<5 from by decide) ⟨rfl,fun _=>⟨rfl,rfl⟩,h5.o,fun _=>rfl,rfl⟩;dsimp only at fB;simp only[gL,ak] at fB;exact fB
  refine iz (fun K hK=>?_) bZ;obtain⟨-,h1,h5,h3,hW⟩:=hI;replace h1:=aa h1;replace h5:=aa h5;replace h3:=aa h3;have hW2:W0=W:=lq hW;clear hW;subst hW2;have hr:=(Em.o).cell 2;go_simp;clear hr;refine hK.out _ _ (trivial) (fun hHeld=>?_);clear hK K
  try simp only[gL,ak]
  have fB:=IH ⟨true,true,false,y1,y2,(Value.slice A6 hs.length c6),y3⟩ _ (show (4:Nat)<5 from by decide) ⟨rfl,h1.o,fun _=>rfl,h3,rfl⟩;dsimp only at fB;simp only[gL,ak] at fB;exact fB
 ·show wpAnyH _ _ _ _ _ 4 #[true,true,true,true,true,false,false,false,false] _ _
  try simp only[gL,ak]
  refine aR 5 (fun K hK=>?_);obtain⟨-,h1,h5,h3,hW⟩:=hI;replace h1:=aa h1;replace h5:=aa h5;replace h3:=aa h3;have hW2:W0.alloc (.cells cur 27)=W:=lq hW;clear hW;subst hW2;have hr:=(Em.o.grow ((ah W0).alloc (.cells cur 27))).cell 2;go_simp;clear hr;refine hK.out _ _ (trivial) (fun hHeld=>?_);clear hK K
  try simp only[gL,ak]
  have fB:=IH ⟨true,true,true,y1,y2,(Value.slice A6 hs.length c6),y3⟩ _ (show (3:Nat)<4 from by decide) ⟨rfl,h1.o,fun _=>rfl,h3,rfl⟩;dsimp only at fB;simp only[gL,ak] at fB;exact fB
 ·show wpAnyH _ _ _ _ _ 4 #[true,true,true,false,true,true,false,false,false] _ _
  try simp only[gL,ak]
  refine aR 3 (fun K hK=>?_);obtain⟨-,h1,h5,h3,hW⟩:=hI;replace h1:=aa h1;replace h5:=aa h5;replace h3:=aa h3;have hW2:W0=W:=lq hW;clear hW;subst hW2;obtain⟨rfl,rfl⟩:=h1.o rfl;have hmk:=BD.o;go_simp;clear hmk;refine hK.out _ _ (trivial) (fun hHeld=>?_);clear hK K
  try simp only[gL,ak]
  have fB:=IH ⟨true,true,true,(Value.slice A6 hs.length c6),(Value.int .i64 (hs.length:Int)),y5,(Value.slice (some ⟨W0.heap.size,0,none⟩) 0 hs.length)⟩ _ (show (3:Nat)<4 from by decide) ⟨rfl,fun _=>⟨rfl,rfl⟩,h5.o,fun _=>rfl,rfl⟩;dsimp only at fB;simp only[gL,ak] at fB;exact fB
 show wpAnyH _ _ _ _ _ 3 #[true,true,true,true,true,true,false,false,false] _ _
 try simp only[gL,ak]
 clear IH;obtain⟨-,h1,h5,h3,hW⟩:=hI;replace h1:=aa h1;replace h5:=aa h5;replace h3:=aa h3;have hW2:W0.alloc (.cells cur 27)=W:=lq hW;clear hW;subst hW2;obtain⟨rfl,rfl⟩:=h1.o rfl;obtain rfl:=h5.o rfl;obtain rfl:=h3.o rfl;clear h1 h5 h3;refine aR 6 (fun K hK=>?_);refine jP (by rfl) (.tmp 108) (.tmp 110) 24 24 (by rfl) w9.heap.size 27 PD _ 5 88 lF Hv0.o Hv1.o Hv2.o Hv3.o (by rfl) (.slice (some ⟨W0.heap.size,0,none⟩) 0 hs.length) 0 [] (by rfl) (qU (base:=w9.heap.size) (e:=27) (size:=5) W0 cur hs.length RU.o (by simp only[maxLen];have:=L_.o;omega) aip.o) _ hs.length (fD hs) (by rfl) (ah9 (kr aal.o.row ((ah W0).alloc (.cells cur 27)))) (by have:=L_.o;omega) (by simp only[maxLen];have:=L_.o;omega) (a_ RU.o (by simp)) ?_
 intro A9 c9 oL hown hgr eY;obtain⟨fM,DT,g9,rfl,nO⟩:=ah_ aal.o hown hgr eY;clear hown hgr eY;simp only[dg];have aiq:=aa fM;have DU:=aa DT;have IB:=aa (show g9≠(w.heap.size+1+1+1)∧g9≠(w.heap.size+1+1) by have:=sx.o;have:=RU.o;omega);have RV:=aa (Em.o.grow DT);clear fM DT nO;refine hK.out _ _ trivial (fun hHeld=>?_);clear hK K
 try simp only[ak]
 refine aj 7 ?_;refine aR 8 (fun K hK=>?_);have hrc:=RV.o.cell;have hrf:=RV.o.frozen;go_simp;clear hrc hrf;have Ma:=aa (RV.o.bg 2 (.slice (some ⟨g9,0,none⟩) hs.length c9));have RX:=aa ((aak.o.trans (jh DU.o)).set (p:=⟨(w.heap.size+1+1+1),2,none⟩) rfl (.slice (some ⟨g9,0,none⟩) hs.length c9));have aam:=aa (aiq.o.kept pN (y9 (S:=fun q=>q=(w.heap.size+1+1+1)) (eK _ oL) (p:=⟨(w.heap.size+1+1+1),2,none⟩) rfl (.slice (some ⟨g9,0,none⟩) hs.length c9)) (fun q hq=>Or.inl hq) (fun g hg e=>by injection hg with hg;exact IB.o.1 (hg.trans e)));generalize oL.setCell ⟨(w.heap.size+1+1+1),2,none⟩ (.slice (some ⟨g9,0,none⟩) hs.length c9)=uq at Ma RX aam ⊢;refine hK.out _ _ trivial (fun hHeld=>?_);clear hK K
 try simp only[ak]
 refine cz ?_;clear hHeld;have aan:=aa (fun(W:World) (hk:Kept (fun q=>q=(w.heap.size+1+1+1)) w9 W)=>show W.cell? ⟨mb,0,none⟩=some (.slice A2 st2.length cap2)∧W.cell? ⟨mb,28,none⟩=some (.int .i64 n) from by
  have hb:=hk.block mb yL.o (fun hq=>by have:=Ec.o;omega);exact⟨(uQ hb).trans HMC.o.1,(uQ hb).trans HMC.o.2⟩)
 have air:=(aan.o _ RX.o).2;have hrc:=Ma.o.cell;have hrf:=Ma.o.frozen;go_wp2_with fail;clear air hrc hrf;have Mb:=aa (Ma.o.bg 1 (.int .i64 n));have En:=aa (RX.o.set (p:=⟨(w.heap.size+1+1+1),1,none⟩) rfl (.int .i64 n));have RY:=aa (aam.o.kept pN (y9 (S:=fun q=>q=(w.heap.size+1+1+1)) (eK _ uq) (p:=⟨(w.heap.size+1+1+1),1,none⟩) rfl (.int .i64 n)) (fun q hq=>Or.inl hq) (fun g hg e=>by injection hg with hg;exact IB.o.1 (hg.trans e)));generalize uq.setCell ⟨(w.heap.size+1+1+1),1,none⟩ (.int .i64 n)=vZ at Mb En RY ⊢
 have fw:=aa (fun(W:World) (hm:W.heap[mb]?=vZ.heap[mb]?) (hb:Blk W (w.heap.size+1+1+1) 31 #[.int .i64 0,.int .i64 n,.slice (some ⟨g9,0,none⟩) hs.length c9,.int .i64 0])=>show W.cell? ⟨mb,0,none⟩=some (.slice A2 st2.length cap2)∧W.cell? ⟨(w.heap.size+1+1+1),0,none⟩=some (.int .i64 0)∧W.cell? ⟨(w.heap.size+1+1+1),1,none⟩=some (.int .i64 n)∧W.cell? ⟨(w.heap.size+1+1+1),2,none⟩=some (.slice (some ⟨g9,0,none⟩) hs.length c9)∧W.cell? ⟨(w.heap.size+1+1+1),3,none⟩=some (.int .i64 0) from
  ⟨(uQ (hm.trans ((eK (S:=fun _=>False) vZ).block mb (cU yL.o En.o.size) id))).trans (aan.o vZ En.o).1,hb.cell 0,hb.cell 1,hb.cell 2,hb.cell 3⟩)
 refine dN ?_;refine dO (S:=fun w'=>w'.cell? ⟨mb,0,none⟩=some (.slice A2 st2.length cap2)∧w'.cell? ⟨(w.heap.size+1+1+1),0,none⟩=some (.int .i64 0)∧w'.cell? ⟨(w.heap.size+1+1+1),1,none⟩=some (.int .i64 n)∧w'.cell? ⟨(w.heap.size+1+1+1),2,none⟩=some (.slice (some ⟨g9,0,none⟩) hs.length c9)∧w'.cell? ⟨(w.heap.size+1+1+1),3,none⟩=some (.int .i64 0)) (by kernel_rfl) (fw.o _ rfl (Mb.o.grow (ah _).drew)) (fun hHeld=>?_);have ais:=aa (cU yL.o En.o.size);have hms:vZ.drew.heap=vZ.heap:=rfl;have um:=aa (En.o.trans (jh (ah vZ).drew));have Eo:=aa (Mb.o.grow (ah vZ).drew);have aao:=aa (RY.o.grow pN (ah vZ).drew)
 have zu:=aa (fun(W:World) (hk:Kept (fun q=>q=(w.heap.size+1+1)) vZ.drew W) (hb:Blk W (w.heap.size+1+1+1) 31 #[.int .i64 0,.int .i64 n,.slice (some ⟨g9,0,none⟩) hs.length c9,.int .i64 0])=>fw.o W (hk.block mb ais.o (fun hq=>by have:=Ec.o;omega)) hb);clear hms En Mb RY fw;generalize vZ.drew=W1 at um Eo aao zu hHeld ⊢;have ait:=aa (um.o.blk RR.o (by omega));have aiu:=aa (eV.o.bare (S:=L1 (w.heap.size+1+1) (w.heap.size+1+1+1)) aaj.o (um.o.mono fun q hq=>Or.inl hq));have BO:=aa (show w9.heap.size≤W1.heap.size from um.o.size);have aiv:=aa (show (w.heap.size+1+1)<W1.heap.size∧(w.heap.size+1+1+1)<W1.heap.size by have:=sx.o;have:=BO.o;omega);refine aj 0 ?_;refine aj 1 ?_;refine aj 2 ?_;refine gW 3 ?_;refine gW 5 ?_
 refine aac (σ:=Bool×Bool×Bool×Value) (fun⟨c4,c6,c7,y4⟩=>cond c4 0 1+cond c6 0 1+cond c7 0 1) (fun⟨c4,c6,c7,y4⟩=>#[true,true,true,true,c4,true,c6,c7]) (fun⟨c4,c6,c7,y4⟩ a=>(fun a:Act=>cond c4 (a.put (some 123) y4) a) (a)) (fun⟨c4,c6,c7,y4⟩ W=>((!c6||c4)&&(!c7||c6))=true∧(c4=false→W=W1)∧Kept (fun q=>q=(w.heap.size+1+1)) W1 W∧(∃u,Blk W (w.heap.size+1+1) 44 #[u])∧(c4=true→∃Ax RZ ex,y4=.agg #[.slice Ax st2.length RZ]∧CR (fun q=>q<W1.heap.size) W W1.heap.size Ax RZ ex st2∧(c6=true→Blk W (w.heap.size+1+1) 44 #[.slice Ax st2.length RZ]))) ⟨false,false,false,undef⟩ rfl rfl (by rfl) ?_ ?_
 ·exact⟨rfl,fun _=>rfl,eK _ _,⟨_,ait.o⟩,fun e=>(by cases e)⟩
 intro s W hI IH;obtain⟨c4,c6,c7,y4⟩:=s;dsimp only at hI
 cases c4<;>cases c6<;>cases c7<;>first | exact absurd hI.1 (by decide) | skip
 ·show wpAnyH _ _ _ _ _ 3 #[true,true,true,true,false,true,false,false] _ _
  try simp only[gL,ak]
  refine aR 4 (fun K hK=>?_);obtain⟨-,hW,hk,mA,h4⟩:=hI;replace hW:=aa hW;replace hk:=aa hk;replace mA:=aa mA;replace h4:=aa h4;have hW2:=(hW.o rfl).symm;clear hW;subst hW2;have hC:=aeC st2 A2 cap2 W1 aiu.o (aai.o.copy (by omega)).1 (aai.o.copy (by omega)).2;go_simp;go_at_call 37;refine hC.mono ?_;rintro ee W3 ⟨hg3,ja,c10,Mc,rfl,hcr⟩;have hkk:=hk.o.trans (jh hg3);refine hK.out _ _ (zu.o _ hkk (hkk.blk Eo.o (by omega))) (fun hHeld=>?_);clear hK K
  try simp only[gL,ak]
  have fB:=IH ⟨true,false,false,(Value.agg #[.slice ja st2.length c10])⟩ _ (show (2:Nat)<3 from by decide) ⟨rfl,fun e=>(by cases e),hk.o.trans (jh hg3),mA.o.imp fun u hu=>hu.grow hg3,fun _=>⟨ja,c10,Mc,rfl,hcr,fun e=>(by cases e)⟩⟩;dsimp only at fB;simp only[gL,ak] at fB;exact fB
 ·show wpAnyH _ _ _ _ _ 2 #[true,true,true,true,true,true,false,false] _ _
  try simp only[gL,ak]
  refine aR 6 (fun K hK=>?_);obtain⟨-,hW,hk,mA,h4⟩:=hI;replace hW:=aa hW;replace hk:=aa hk;replace mA:=aa mA;replace h4:=aa h4;obtain⟨ja,c10,Mc,rfl,hcr,-⟩:=h4.o rfl;obtain⟨u,qy⟩:=mA.o;have rE:=qy.cell;have hof:=qy.frozen;go_simp;clear rE hof;have hk3:=hk.o.set (p:=⟨(w.heap.size+1+1),0,none⟩) rfl (.slice ja st2.length c10);have aiw:=CR.old hcr (av _) ((eK (S:=fun q=>q<W1.heap.size) W).set (p:=⟨(w.heap.size+1+1),0,none⟩) aiv.o.1 (.slice ja st2.length c10));have aap:=qy.bg 0 (.slice ja st2.length c10);refine hK.out _ _ (zu.o _ hk3 (hk3.blk Eo.o (by omega))) (fun hHeld=>?_);clear hK K
  try simp only[gL,ak]
  have fB:=IH ⟨true,true,false,(Value.agg #[.slice ja st2.length c10])⟩ _ (show (1:Nat)<2 from by decide) ⟨rfl,fun e=>(by cases e),hk3,⟨_,aap⟩,fun _=>⟨ja,c10,Mc,rfl,aiw,fun _=>aap⟩⟩;dsimp only at fB;simp only[gL,ak] at fB;exact fB
 ·show wpAnyH _ _ _ _ _ 1 #[true,true,true,true,true,true,true,false] _ _
  try simp only[gL,ak]
  refine aR 7 (fun K hK=>?_);obtain⟨-,hW,hk,mA,h4⟩:=hI;replace hW:=aa hW;replace hk:=aa hk;replace mA:=aa mA;replace h4:=aa h4;have hbr:=hk.o.blk Eo.o (by omega);have hrc:=hbr.cell;have hrf:=hbr.frozen;go_simp;clear hrc hrf;rw[L4 hbr rfl,L4 hbr rfl,L4 hbr rfl,L4 hbr rfl];refine hK.out _ _ (zu.o _ hk.o (hk.o.blk Eo.o (by omega))) (fun hHeld=>?_);clear hK K
  try simp only[gL,ak]
  have fB:=IH ⟨true,true,true,y4⟩ _ (show (0:Nat)<1 from by decide) ⟨rfl,hW.o,hk.o,mA.o,h4.o⟩;dsimp only at fB;simp only[gL,ak] at fB;exact fB
 show wpAnyH _ _ _ _ _ 0 #[true,true,true,true,true,true,true,true] _ _
 try simp only[gL,ak]
 clear IH;obtain⟨-,hW,hk,mA,h4⟩:=hI;replace hW:=aa hW;replace hk:=aa hk;replace mA:=aa mA;replace h4:=aa h4;obtain⟨ja,c10,Mc,rfl,hcr,qy⟩:=h4.o rfl;have aix:=aa (qy rfl);have aiy:=aa (hk.o.blk Eo.o (by omega));have aiz:=aa (CR.adS hcr);have Fl:=aa (VR.KC (aao.o.kept pN hk.o (fun q hq=>Or.inr hq) (fun g hg e=>by injection hg with hg;exact IB.o.2 (hg.trans e))) (fun g hg e=>by
  injection hg with hg;rcases e with e | e
  ·exact IB.o.1 (hg.trans e)
  exact IB.o.2 (hg.trans e)) (by have:=CM.o;omega))
 have qF:=aa (show Grow w W from eN.o.below.trans ((um.o.below (B:=w.heap.size) eN.o.size (fun q hq=>by omega)).trans (hk.o.below (B:=w.heap.size) (a_ eN.o.size BO.o) (fun q hq=>by omega))));clear hW hk h4 hcr qy;refine cz ?_;go_wp2_with fail;refine leaves_cons (f:=41) (args:=#[.pointer (some ⟨w.heap.size,0,none⟩),.pointer (some ⟨w.heap.size+1+1,0,none⟩),.pointer (some ⟨w.heap.size+1+1+1,0,none⟩)]) (by simp) (by simp[go_sem]) ?_;refine(agU w.heap.size (w.heap.size+1+1) (w.heap.size+1+1+1) _).mono ?_;rintro r u' w'' ⟨rfl,rfl,rfl⟩;exact⟨_,aij qF.o kY.o aix.o (by rw[← HHL.o];exact aiy.o) aiz.o (by exact Fl.o) rfl rfl⟩
end
section
open Go.RowKit
theorem aaq(N cap:Nat)(A:Option Addr)(st st':List Co)(q:Rq)(ck cl ch cx:Cv)(w:World)(hst:dR w A cap st)(hok:ed N st)(hN:N≤1000000)(hR:uo q)(hT:eo w)(hM:kO w)
 (hk:In w q.key ck) (hl:In w q.low cl) (hh:In w q.high ch) (hx:In w q.doc cx) (L6:BA st q) (h:kp st q=.ok (st',0,[])) :
 Calls prog 18 #[.agg #[.slice A st.length cap],.agg (cP q.bp q.aD q.index q.path q.unique ck cl ch cx q.n)] w (GY true w st' Rp.zero):=by
 refine(aik N cap A st q ck cl ch cx w hst hok hN hR (fun W hg=>⟨hT.grow hg,hM.grow hg⟩) hk hl hh hx L6 h).mono ?_;intro e w' hd;unfold RG at hd;rw[show mO st q=(st',⟨0,0,[],0⟩) from by unfold mO;rw[h]] at hd;obtain⟨hg,A5,c5,dA,dc,h1,h2,h3⟩:=hd;exact⟨hg,A5,c5,dA,dc,h1,h2,fun _=>h3⟩
theorem ka1:kp [] (zb 1 nA)=.ok (sX [] [],0,[]):=by
 refine(Xj rfl |>.trans ?_);unfold mN;have h1:V.name nA=true:=by decide +kernel
 rw[show (zb 1 nA).aD=nA from rfl,h1,ai (by decide),ai (show ¬ cQ (bh []) nA=true from by decide),ai (by decide)];rfl
theorem ka2:kp (sX [] []) (Ba 3 nA (dV 1 5))=.ok (sX [dV 1 5] [],0,[]):=
 (afs rfl).trans (afu rfl (Xh 5 (by decide)) rfl (fun h=>by cases h.1) rfl)
theorem kw1:BA [] (zb 1 nA):=.inl rfl
theorem kw2:BA (sX [] []) (Ba 3 nA (dV 1 5)):=.inr ⟨rfl,(Qa [] []).1,by rw[show (Ba 3 nA (dV 1 5)).doc=dV 1 5 from rfl,Xh 5 (by decide)],by rw[show (Ba 3 nA (dV 1 5)).aD=nA from rfl,P_],by rw[show (Ba 3 nA (dV 1 5)).aD=nA from rfl,P_]⟩
theorem BP{C:Addr→Value→Prop}:IsV C V.zero Cv.zero:=by
 unfold V.zero;rw[IsV];exact⟨rfl,rfl,rfl,rfl,rfl,by decide,by decide,by decide,by simp,by simp,by simp,by simp,by simp,by simp,⟨rfl,fun h=>by simp at h⟩,fun i hi=>by simp at hi,fun i hi=>by simp at hi⟩
theorem zy:V.zero.count≤20000:=by unfold V.zero;rw[u6];decide
theorem aiA(i x:Nat):(dV i x).count≤20000:=by unfold dV;rw[u6];simp[afh]
theorem aar:V.zero.fit:=by unfold V.zero;rw[V.fit];exact⟨by decide,fun x h=>by simp at h,fun x h=>by simp at h⟩
theorem aiB(d:Int)(c:ByteArray):uo (zb d c):=⟨zy,zy,zy,zy,aar⟩
theorem aiC(d:Int)(c:ByteArray){x:V}(h:x.count≤20000)(hf:x.fit):uo (Ba d c x):=⟨zy,zy,zy,h,hf⟩
theorem InL.aiD{w:World}{v:V}{c:Cv}(h:In w v c):InL (w.alloc (.cells c.cells 27)) (some ⟨w.heap.size,0,none⟩) 1 [v]:=by
 have hg:=(ah w).alloc (.cells c.cells 27);have hB:=aH w 27 c.cells;have h':=h.grow hg;have hlt:=hB.lt;unfold InL In;rw[IsV];refine⟨rfl,rfl,rfl,rfl,rfl,by decide,by decide,by decide,by simp,by simp,by simp,by simp,by simp,by simp,⟨rfl,fun h=>by simp at h⟩,fun i hi=>?_,fun i hi=>by simp at hi⟩;obtain rfl:i=0:=by simp at hi;omega
 exact⟨w.heap.size,0,c,rfl,⟨⟨hB.cell 0,aS _,hlt⟩,⟨hB.cell 1,aS _,hlt⟩,⟨hB.cell 2,aS _,hlt⟩,⟨hB.cell 3,aS _,hlt⟩,⟨hB.cell 4,aS _,hlt⟩⟩,h'⟩
theorem dR.at_{w:World}{A:Option Addr}{cap:Nat}{st:List Co}(h:dR w A cap st)(i:Nat)(hi:i<st.length):∃bk o e,A=some ⟨bk,o,none⟩∧bk<w.heap.size∧rK w e st[i]∧(∀k v,e.cells.toList[k]?=some v→k<3→w.cell? ⟨bk,o+i*3+k,none⟩=some v):=by
 obtain⟨hc,es,h1,h2⟩:=h;have hel:i<es.length:=by rw[h1.1];exact hi
 obtain⟨bk,o,hA,hcell⟩:=h2.2 (by omega);have hf:∀k v,es[i].cells.toList[k]?=some v→k<3→bE w 0 w.heap.size ⟨bk,o+(i*3+k),none⟩ v:=fun k v hv hk =>
  hcell (i*3+k) v (by rw[dw,ow _ 3 (fun _=>rfl) es i k hk es[i] (bN hel)];exact hv)
 refine⟨bk,o,es[i],hA,(hf 0 _ rfl (by omega)).2.2,h1.at_ hel hi,fun k v hv hk=>?_⟩;rw[lh];exact(hf k v hv hk).1
theorem aiE(w:World)(hT:eo w)(hM:kO w):Calls prog 13 #[] w fun e w'=>e=.returned (.bool true)∧Grow w w':=by
 have HT:=aa hT;have HM:=aa hM;have H1:=aa (aaq 0 0 none [] _ (zb 1 nA) Cv.zero Cv.zero Cv.zero Cv.zero w (dR.nil w) ed.nil (by omega) (aiB _ _) hT hM BP BP BP BP kw1 ka1);clear hT hM;go_enter func13,ntmps13;go_wp2_with fail;refine H1.o.mono ?_;rintro e w1 ⟨hg1,A1,c1,xX,xY,rfl,aas,aat⟩;have aN:=aa hg1;have aiF:=aa aas;have aiG:=aa (aat rfl);clear hg1 aas aat;have aQ:=aa ((aH w1 44 #[.slice A1 (sX [] []).length c1]).alloc (.cells #[.int .i64 Rp.zero.e,.int .i64 Rp.zero.n,.slice xX Rp.zero.ag.length xY,.int .i64 Rp.zero.gY] 31));have aG:=aa (df (w:=w1.alloc (.cells #[.slice A1 (sX [] []).length c1] 44)) (g:=w1.heap.size+1) (by simp) 31 (dD Rp.zero.e Rp.zero.n xX Rp.zero.ag.length xY Rp.zero.gY))
 have HG2:=aa ((aN.o.alloc (.cells #[.slice A1 (sX [] []).length c1] 44)).alloc (.cells #[.int .i64 Rp.zero.e,.int .i64 Rp.zero.n,.slice xX Rp.zero.ag.length xY,.int .i64 Rp.zero.gY] 31));have Md:=aa (aiF.o.grow (((ah w1).alloc (.cells #[.slice A1 (sX [] []).length c1] 44)).alloc (.cells #[.int .i64 Rp.zero.e,.int .i64 Rp.zero.n,.slice xX Rp.zero.ag.length xY,.int .i64 Rp.zero.gY] 31)));have Me:=aa (aiG.o.grow (((ah w1).alloc (.cells #[.slice A1 (sX [] []).length c1] 44)).alloc (.cells #[.int .i64 Rp.zero.e,.int .i64 Rp.zero.n,.slice xX Rp.zero.ag.length xY,.int .i64 Rp.zero.gY] 31)));have aiH:=aa (show ed 1 (sX [] []) from by have:=VV (q:=zb 1 nA) ed.nil aar zy;rwa [kn1] at this);go_wp2_with fail;refine dN ?_
 refine dO (S:=fun w'=>w'.cell? ⟨w1.heap.size,0,none⟩=some (.slice A1 (sX [] []).length c1)) (by kernel_rfl) ((aQ.o.grow (ah _).drew).cell 0) (fun hHeld=>?_);replace aQ:=aa (aQ.o.grow (ah _).drew);replace aG:=aa (aG.o.grow (ah _).drew);replace HG2:=aa (HG2.o.drew);replace Md:=aa (Md.o.grow (ah _).drew);replace Me:=aa (Me.o.grow (ah _).drew);generalize ((w1.alloc (.cells #[.slice A1 (sX [] []).length c1] 44)).alloc (.cells #[.int .i64 Rp.zero.e,.int .i64 Rp.zero.n,.slice xX Rp.zero.ag.length xY,.int .i64 Rp.zero.gY] 31)).drew=W0 at aQ aG HG2 Md Me hHeld ⊢;have fw:=aa (fun(W:World) (hg:Grow W0 W)=>(aQ.o.grow hg).cell 0)
 have kY:=aa (fun(W:World) (hg:Grow W0 W) (A:Option Addr) (hx:In W (dV 1 5) (xK A 2))=>aaq 1 c1 A1 _ _ (Ba 3 nA (dV 1 5)) Cv.zero Cv.zero Cv.zero (xK A 2) W (Md.o.grow hg) aiH.o (by omega) (aiC _ _ (aiA 1 5) (afo (by decide) (by decide))) (HT.o.grow (HG2.o.trans hg)) (HM.o.grow (HG2.o.trans hg)) BP BP BP hx kw2 ka2);refine aj 0 ?_;refine afR (b:=3) (c:=1) (f1:=9) (Qp:=#[.int .i64 1,.int .i64 5]) (bb:=true) (P:=fun s r=>s=sX [dV 1 5] []∧r=Rp.zero) (by rfl) (by rfl) (by rfl) (by rfl) (by rfl) ⟨⟨by rfl,by rfl,by rfl⟩,⟨_,_,_,by rfl⟩,⟨_,_,_,by rfl⟩,⟨_,_,_,by rfl⟩,⟨_,_,_,by rfl⟩,⟨_,_,_,by rfl⟩,⟨_,_,_,by rfl⟩,⟨_,_,_,by rfl⟩⟩ (by kernel_rfl) (by kernel_rfl) (by kernel_rfl) (by decide) (fun W hg=>fw.o W hg) (fun W=>by kernel_rfl) (fun W hg=>?_)
 refine(Yr 1 5 1 5 rfl rfl (by decide) (by decide) W).mono ?_;rintro ee W3 ⟨Ae,rfl,hin,hg3⟩;refine⟨_,(Value.agg (cP 3 ⟨#[97]⟩ ⟨#[]⟩ ⟨#[]⟩ false Cv.zero Cv.zero Cv.zero (xK Ae 2) 0)),18,#[.agg #[.slice A1 (sX [] []).length c1],(Value.agg (cP 3 ⟨#[97]⟩ ⟨#[]⟩ ⟨#[]⟩ false Cv.zero Cv.zero Cv.zero (xK Ae 2) 0))],rfl,hg3,fun W=>by kernel_rfl,fun W=>by kernel_rfl,fun W2 hg2=>(kY.o W2 (hg.trans (hg3.trans hg2)) Ae (hin.nj.grow hg2)).mono fun e w' h=>⟨_,_,⟨rfl,rfl⟩,h⟩,?_⟩;rintro s9 r9 W A dA c dc gs gr ⟨rfl,rfl⟩ ⟨Mf,hgr,hne,xC,hbs,hbr,hst,dE⟩;clear hin hg3 hg;simp only[fA,ui,rZ,r_,pA,Act.put,M9,MX,Je];obtain⟨bk,o,e5,hA,hbk,aW,hcell⟩:=hst.at_ 0 (by decide);subst hA;have L9:e5.dn=1:=aW.dn;have zk:=hcell 1 _ rfl (by omega);rw[L9] at zk
 have cm:=aa (HG2.o.trans xC);have aiI:=aa xC;have od:=aa (dE rfl);have Lx:=aa (show InL W e5.dA e5.dc [dV 1 5] from aW.ag);have sQ:=aa (fun(W':World) (hg:Grow W W')=>show (∀k v,(dD Rp.zero.e Rp.zero.n xX Rp.zero.ag.length xY Rp.zero.gY)[k]?=some v→W'.cell? ⟨w1.heap.size+1,k,none⟩=some v)∧(∀k v,(dD Rp.zero.e Rp.zero.n dA Rp.zero.ag.length dc Rp.zero.gY)[k]?=some v→W'.cell? ⟨gr,k,none⟩=some v)∧W'.cell? ⟨gs,0,none⟩=some (.slice (some ⟨bk,o,none⟩) 1 c)∧W'.cell? ⟨bk,o+1,none⟩=some (.slice e5.dA 1 e5.dc) from
  ⟨fun k v h=>((aG.o.grow (xC.trans hg)).cell k).trans h,fun k v h=>((hbr.grow hg).cell k).trans h,(hbs.grow hg).cell 0,(hg.below.cell (p:=⟨bk,o+1,none⟩) hbk).trans (by simpa using zk)⟩)
 clear Mf hgr hne xC hbs hbr hst dE hbk aW hcell L9 zk hHeld;go_wp2_with fail;refine dN ?_;refine dO (S:=fun w'=>(∀k v,(dD Rp.zero.e Rp.zero.n xX Rp.zero.ag.length xY Rp.zero.gY)[k]?=some v→w'.cell? ⟨w1.heap.size+1,k,none⟩=some v)∧(∀k v,(dD Rp.zero.e Rp.zero.n dA Rp.zero.ag.length dc Rp.zero.gY)[k]?=some v→w'.cell? ⟨gr,k,none⟩=some v)∧w'.cell? ⟨gs,0,none⟩=some (.slice (some ⟨bk,o,none⟩) 1 c)∧w'.cell? ⟨bk,o+1,none⟩=some (.slice e5.dA 1 e5.dc)) (by kernel_rfl) (sQ.o _ (ah _).drew) (fun hHeld=>?_);have bC:=aa (cm.o.trans (ah W).drew);have aau:=aa (od.o.grow (ah W).drew);have aav:=aa (Me.o.grow ((aiI.o.trans (ah W).drew)));have HE5:=aa (Lx.o.grow (ah W).drew)
 have Ep:=aa (fun(W':World) (hg:Grow W.drew W')=>sQ.o W' ((ah W).drew.trans hg));clear sQ;generalize W.drew=W5 at bC aau aav HE5 Ep hHeld ⊢;have hcl:((1:Nat):Int)=1:=rfl;refine aj 0 (hy:=bj fun w ax=>by obtain⟨hS1,gJ,Mg,Mh⟩:=ax;have q0:=hS1 0 _ rfl;have q1:=hS1 1 _ rfl;have q2:=hS1 2 _ rfl;have q3:=hS1 3 _ rfl;have p0:=gJ 0 _ rfl;have p1:=gJ 1 _ rfl;have p2:=gJ 2 _ rfl;have p3:=gJ 3 _ rfl;clear hS1 gJ;go_simp;try rfl) ?_;refine aj 1 ?_;refine aR 2 (fun K hK=>?_);have hC:=Ym Rp.zero Rp.zero xX none xY 0 W5 (aav.o.grow (ah W5)) (InL.nil _);go_simp;go_at_call 23;refine hC.mono ?_;rintro ee W6 ⟨x6,rfl,hx,hg⟩;obtain rfl:x6=true:=hx.2 rfl;have bR:=aa (sP (ah W5) hg);clear hC hx hg;refine aV hK (Ep.o _ bR.o) (fun hHeld=>?_);clear hK K
 refine aj 3 ?_;refine aj 4 (hy:=bj fun w ax=>by obtain⟨hS1,gJ,Mg,Mh⟩:=ax;have q0:=hS1 0 _ rfl;have q1:=hS1 1 _ rfl;have q2:=hS1 2 _ rfl;have q3:=hS1 3 _ rfl;have p0:=gJ 0 _ rfl;have p1:=gJ 1 _ rfl;have p2:=gJ 2 _ rfl;have p3:=gJ 3 _ rfl;clear hS1 gJ;go_simp;try rfl) ?_;refine aj 5 ?_;refine aR 6 (fun K hK=>?_);have hC:=Ym Rp.zero Rp.zero dA none dc 0 W6 (aau.o.grow bR.o) (InL.nil _);go_simp;go_at_call 23;refine hC.mono ?_;rintro ee W7 ⟨x7,rfl,hx,hg⟩;obtain rfl:x7=true:=hx.2 rfl;have aZ:=aa (sP bR.o hg);clear hC hx hg;refine aV hK (Ep.o _ aZ.o) (fun hHeld=>?_);clear hK K;refine aj 7 ?_;refine aj 8 ?_;refine aj 9 ?_
 refine aj 10 (hy:=bj fun w ax=>by obtain⟨hS1,gJ,Mg,Mh⟩:=ax;have q0:=hS1 0 _ rfl;have q1:=hS1 1 _ rfl;have q2:=hS1 2 _ rfl;have q3:=hS1 3 _ rfl;have p0:=gJ 0 _ rfl;have p1:=gJ 1 _ rfl;have p2:=gJ 2 _ rfl;have p3:=gJ 3 _ rfl;clear hS1 gJ;go_simp;try rfl) ?_;refine aj 11 ?_;refine aj 12 ?_;refine aj 13 ?_;refine aj 14 ?_;refine aj 15 ?_;refine aj 16 (hy:=bj fun w ax=>by obtain⟨hS1,gJ,Mg,Mh⟩:=ax;have q0:=hS1 0 _ rfl;have q1:=hS1 1 _ rfl;have q2:=hS1 2 _ rfl;have q3:=hS1 3 _ rfl;have p0:=gJ 0 _ rfl;have p1:=gJ 1 _ rfl;have p2:=gJ 2 _ rfl;have p3:=gJ 3 _ rfl;clear hS1 gJ;go_simp;try rfl) ?_;refine aj 17 ?_;refine aj 18 ?_
 refine aj 19 (hy:=bj fun w ax=>by obtain⟨hS1,gJ,Mg,Mh⟩:=ax;have q0:=hS1 0 _ rfl;have q1:=hS1 1 _ rfl;have q2:=hS1 2 _ rfl;have q3:=hS1 3 _ rfl;have p0:=gJ 0 _ rfl;have p1:=gJ 1 _ rfl;have p2:=gJ 2 _ rfl;have p3:=gJ 3 _ rfl;clear hS1 gJ;go_simp;try rfl) ?_;refine aR 20 (fun K hK=>?_);have hC:=Yr 1 5 1 5 rfl rfl (by decide) (by decide) W7;go_simp;go_at_call 9;refine hC.mono ?_;rintro ee W8 ⟨Ae,rfl,hin,hg⟩;have dQ:=aa (aZ.o.trans hg);have aiJ:=aa hin.nj;clear hC hin hg;refine aV hK (Ep.o _ dQ.o) (fun hHeld=>?_);clear hK K;refine aR 21 (fun K hK=>?_);go_simp;have Rz:=aa (InL.aiD aiJ.o);have eN:=aa (dQ.o.alloc (.cells (xK Ae 2).cells 27))
 have HL9:=aa (Yl [dV 1 5] [dV 1 5] e5.dA (some ⟨W8.heap.size,0,none⟩) e5.dc 1 (W8.alloc (.cells (xK Ae 2).cells 27)) (HE5.o.grow eN.o) Rz.o);refine aV hK (Ep.o _ eN.o) (fun hHeld=>?_);clear hK K;refine aR 22 (fun K hK=>?_);go_simp;go_at_call 19;refine HL9.o.mono ?_;rintro ee W10 ⟨x10,rfl,hx,hg⟩;obtain rfl:x10=true:=hx.2 rfl;have DU:=aa (eN.o.trans hg);clear hx hg;refine aV hK (Ep.o _ DU.o) (fun hHeld=>?_);clear hK K;refine aj 23 ?_;refine aj 24 ?_;refine cz ?_;clear hHeld;go_wp2_with fail;go_ret;exact⟨rfl,bC.o.trans DU.o⟩
end
end Go.Proofs.YtndjopkdbdcmdaaGreatDoor
