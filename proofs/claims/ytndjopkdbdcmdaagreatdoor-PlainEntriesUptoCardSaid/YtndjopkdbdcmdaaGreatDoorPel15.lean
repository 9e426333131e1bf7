/- Part 15 of the proof of pentries_card. -/
import Derived.Test.YtndjopkdbdcmdaaGreatDoorPel14
import Derived.Deep.CutBlock
import Derived.Deep.Onto
set_option linter.unusedVariables false
set_option linter.unusedSimpArgs false
set_option maxRecDepth 100000
set_option maxHeartbeats 12800000
open Go.Proofs.Tryz
namespace Go.Proofs.YtndjopkdbdcmdaaGreatDoor
section
open Go.RowKit
theorem dR.rS{w:World}{A:Option Addr}{cap:Nat}{st:List Co}(h:dR w A cap st)(i:Nat)(hi:i<st.length):∃bk o e,A=some ⟨bk,o,none⟩∧bk<w.heap.size∧rK w e st[i]∧(∀k v,e.cells.toList[k]?=some v→k<3→w.cell? ⟨bk,o+i*3+k,none⟩=some v):=by
 obtain⟨hc,es,h1,h2⟩:=h;have hel:i<es.length:=by rw[h1.1];exact hi
 obtain⟨bk,o,hA,hcell⟩:=h2.2 (by omega);have hf:∀k v,es[i].cells.toList[k]?=some v→k<3→bE w 0 w.heap.size ⟨bk,o+(i*3+k),none⟩ v:=fun k v hv hk =>
  hcell (i*3+k) v (by rw[dw,ow _ 3 (fun _=>rfl) es i k hk es[i] (bN hel)];exact hv)
 refine⟨bk,o,es[i],hA,(hf 0 _ rfl (by omega)).2.2,h1.at_ hel hi,fun k v hv hk=>?_⟩;rw[lh];exact(hf k v hv hk).1
theorem kq.rS{w:World}{A:Option Addr}{xs:List Ix}(h:kq w A xs)(i:Nat)(hi:i<xs.length):∃bk o,A=some ⟨bk,o,none⟩∧bk<w.heap.size∧w.cell? ⟨bk,o+i*3,none⟩=some (.string xs[i].name)∧w.cell? ⟨bk,o+i*3+1,none⟩=some (.string xs[i].path)∧w.cell? ⟨bk,o+i*3+2,none⟩=some (.bool xs[i].uniq):=by
 obtain⟨bk,o,hA,hcell⟩:=h.2 (by omega);have hf:∀k v,xs[i].cells.toList[k]?=some v→k<3→bE w 0 w.heap.size ⟨bk,o+(i*3+k),none⟩ v:=fun k v hv hk =>
  hcell (i*3+k) v (by rw[gm,ow _ 3 (fun _=>rfl) xs i k hk xs[i] (bN hi)];exact hv)
 refine⟨bk,o,hA,(hf 0 _ rfl (by omega)).2.2,(hf 0 _ rfl (by omega)).1,?_,?_⟩
 ·have:=(hf 1 _ rfl (by omega)).1;rwa [← lh] at this
 have:=(hf 2 _ rfl (by omega)).1;rwa [← lh] at this
def rT(names:List ByteArray)(s:ByteArray):Int:=if cQ names s=true then (bX names s:Int) else -1
theorem WA{names:List ByteArray}(hr:eQ (gF names)){j:Nat}(hj:j<names.length){s:ByteArray}(he:names[j]=s):rT names s=j:=by
 have hF:cQ names s=true:=(Kp hr s).2 (he ▸ aY hj);have h1:=O5 hF;have h2:=Kq hF;rw[bN h2] at h1;injection h1 with h1;have:bX names s=j:=hr.inj (i:=bX names s) (j:=j) (by rw[cY];exact h2) (by rw[cY];exact hj) (by rw[jb,jb,h1,he]);unfold rT;rw[ar hF,this]
theorem WB{names:List ByteArray}(hr:eQ (gF names)){s:ByteArray}(h:∀i (hi:i<names.length),names[i]≠s):rT names s=-1:=by
 unfold rT;rw[ai];intro hF;obtain⟨i,hi,e⟩:=kH ((Kp hr s).1 hF);exact h i hi e
theorem KP{a b:ByteArray}(h:a≠b):(a.toList==b.toList)=false:=by rw[MP];exact fun k=>h ((yx _ _).1 k)
theorem KQ(st:List Co)(s:ByteArray)(A:Option Addr)(cap:Nat)(w:World)(hst:dR w A cap st)(hr:eQ (gF (bh st)))(hn:st.length≤1000000) :
 Calls prog 69 #[.agg #[.slice A st.length cap],.string s] w fun e w'=>e=.returned (.int .i64 (rT (bh st) s))∧Grow w w':=by
 have HST:=aa hst;have HR:=aa hr;have HB:=aa (aH w 44 #[.slice A st.length cap]);have HG:=aa ((ah w).alloc (.cells #[.slice A st.length cap] 44));obtain⟨iD,hA⟩:∃a,rT (bh st) s=a:=⟨_,rfl⟩;rw[hA];have HA:=aa hA;have fq:=HB.o.cell;clear hst hr hA;go_enter func69,ntmps69;go_wp2_with fail;clear fq;go_loopg [5] (st.length+1) (fun gk i wr=>∃j:Nat,j≤st.length∧gk+j=st.length+1∧i=.int .i64 j∧(∀i (hi:i<st.length),i<j→st[i].name≠s)∧Grow w wr∧Blk wr w.heap.size 44 #[.slice A st.length cap]);exact⟨0,aS _,rfl,rfl,fun _ _ h=>absurd h (by omega),HG.o,HB.o⟩;obtain⟨j,hj,hg,rfl,hne,hgr,hb⟩:=hrel;obtain⟨gk',rfl⟩:=bP gk (by omega);have HN:=aa hne;have aO:=aa hgr;have qE:=aa hb;have fq:=hb.cell;clear hne hb;by_cases hlt:j<st.length
 ·obtain⟨bk,o,e,rfl,hbk,aW,hcell⟩:=(HST.o.grow hgr).rS j hlt;have h0:=hcell 0 _ rfl (by omega);rw[fF,aW.nm] at h0;obtain⟨q,hq⟩:∃q,st[j].name=q:=⟨_,rfl⟩;rw[hq] at h0;have HQ:=aa hq;clear hcell aW hgr hq;by_cases he:q=s
  ·have ot:(q.toList==s.toList)=true:=(yx _ _).2 he;have HE:=aa he;clear he;go_wp2_with fail;go_ret;refine⟨?_,aO.o⟩;rw[← HA.o,WA HR.o (j:=j) (by rw[cY];exact hlt) (by rw[jb,HQ.o,HE.o])];rfl
  have ot:(q.toList==s.toList)=false:=KP he;have HE:=aa he;clear he;go_wp2_with fail;go_roundg gk';refine⟨j+1,by omega,by omega,by go_num,fun i hi hij=>?_,aO.o,qE.o⟩;by_cases ie:i=j
  ·subst ie;rw[HQ.o];exact HE.o
  exact HN.o i hi (by omega);omega
 have hjl:j=st.length:=by omega
 subst hjl;clear hgr;go_wp2_with fail;go_ret;refine⟨?_,aO.o⟩;rw[← HA.o,WB HR.o fun i hi=>by rw[jb];exact HN.o i (by simpa using hi) (by simpa using hi)];rfl
theorem GA(nm:ByteArray)(dA:Option Addr)(dn dc:Nat)(xs:List Ix)(s:ByteArray)(A:Option Addr)(cap:Nat)(w:World)(hx:kq w A xs)(hr:eQ (gF (xs.map Ix.name)))(hn:xs.length≤1000000) :
 Calls prog 77 #[.agg #[.string nm,.slice dA dn dc,.slice A xs.length cap],.string s] w fun e w'=>e=.returned (.int .i64 (rT (xs.map Ix.name) s))∧Grow w w':=by
 have HX:=aa hx;have HR:=aa hr;have HB:=aa (aH w 48 #[.string nm,.slice dA dn dc,.slice A xs.length cap]);have HG:=aa ((ah w).alloc (.cells #[.string nm,.slice dA dn dc,.slice A xs.length cap] 48));obtain⟨iD,hA⟩:∃a,rT (xs.map Ix.name) s=a:=⟨_,rfl⟩;rw[hA];have HA:=aa hA;have fq:=HB.o.cell;clear hx hr hA;go_enter func77,ntmps77;go_wp2_with fail;clear fq;go_loopg [5] (xs.length+1) (fun gk i wr=>∃j:Nat,j≤xs.length∧gk+j=xs.length+1∧i=.int .i64 j∧(∀i (hi:i<xs.length),i<j→xs[i].name≠s)∧Grow w wr∧Blk wr w.heap.size 48 #[.string nm,.slice dA dn dc,.slice A xs.length cap]);exact⟨0,aS _,rfl,rfl,fun _ _ h=>absurd h (by omega),HG.o,HB.o⟩;obtain⟨j,hj,hg,rfl,hne,hgr,hb⟩:=hrel;obtain⟨gk',rfl⟩:=bP gk (by omega);have HN:=aa hne;have aO:=aa hgr
 have qE:=aa hb;have fq:=hb.cell;clear hne hb;by_cases hlt:j<xs.length
 ·obtain⟨bk,o,rfl,hbk,h0,-,-⟩:=kq.rS (kq.grow HX.o hgr) j hlt;obtain⟨q,hq⟩:∃q,xs[j].name=q:=⟨_,rfl⟩;rw[hq] at h0;have HQ:=aa hq;clear hgr hq;by_cases he:q=s
  ·have ot:(q.toList==s.toList)=true:=(yx _ _).2 he;have HE:=aa he;clear he;go_wp2_with fail;go_ret;refine⟨?_,aO.o⟩;rw[← HA.o,WA HR.o (j:=j) (by rw[cY];exact hlt) (by rw[jb,HQ.o,HE.o])];rfl
  have ot:(q.toList==s.toList)=false:=KP he;have HE:=aa he;clear he;go_wp2_with fail;go_roundg gk';refine⟨j+1,by omega,by omega,by go_num,fun i hi hij=>?_,aO.o,qE.o⟩;by_cases ie:i=j
  ·subst ie;rw[HQ.o];exact HE.o
  exact HN.o i hi (by omega);omega
 have hjl:j=xs.length:=by omega
 subst hjl;clear hgr;go_wp2_with fail;go_ret;refine⟨?_,aO.o⟩;rw[← HA.o,WB HR.o fun i hi=>by rw[jb];exact HN.o i (by simpa using hi) (by simpa using hi)];rfl
end
section
open Go.RowKit
theorem PM{v u:V}{s:ByteArray}(h:jd v s=some u):(v.k=7∧u∈v.l)∨(v.k≠7∧∃n,(n,u)∈v.f):=by
 obtain⟨k,n,b,l,f⟩:=v;by_cases hk:k=7
 ·subst hk;rw[yF] at h;split at h
  ·exact .inl ⟨rfl,yn h⟩
  cases h
 rw[vt hk,Ck] at h;obtain⟨⟨a,x⟩,h1,rfl⟩:=h;exact .inr ⟨hk,a,Cl h1⟩
theorem PN{α:Type}(g:α→List UInt8):∀(l:List α) (x:α),x∈l→(g x).length≤((l.map g).flatten).length
 | y::r,x,h=>by
  rw[eW,l5,bD];rcases iw.1 h with h | h
  ·rw[h];omega
  have:=PN g r x h;omega
theorem aeK{v u:V}{s:ByteArray}(h:jd v s=some u)(hv:v.good=0):u.good=0:=by
 obtain⟨h1,h2,h3,h4⟩:=KR.1 hv;obtain⟨k,n,b,l,f⟩:=v;have hm:=(JP k n b l f 64).1 h2;rw[iT] at h4;refine KR.2 ⟨Ks h h1,?_,?_,?_⟩
 ·rcases PM h with ⟨-,q⟩ | ⟨-,m,q⟩
  ·exact hm.2.2.1 u q
  exact hm.2.2.2 _ q
 ·rcases PM h with ⟨-,q⟩ | ⟨-,m,q⟩
  ·exact a_ (V.Nh q) h3
  exact a_ (V.Ni q) h3
 rw[rh] at h1;simp only[gV,iy] at h1;have ho:=h1.1.1.1;unfold V.own at ho;simp only[gV,iy] at ho;rcases PM h with ⟨hk,q⟩ | ⟨hk,m,q⟩
 ·have hk':k=7:=hk;subst hk';have:=PN V.bytes l u q;rw[ai (by decide),ai (by decide),ai (by decide),ar rfl] at h4;simp only[aU] at h4;omega
 have h8:k=8:=by
  rcases ho.2 with e | e
  ·exact e
  have q2:(m,u)∈f:=q;rw[zQ.1 e] at q2;simp at q2
 subst h8;have hm:=PN (fun x:ByteArray×V=>V.item x.1 x.2.bytes) f (m,u) q;have hi:(V.item m u.bytes).length=m.size+u.bytes.length+1:=by rw[V.item];simp
 rw[ai (by decide),ai (by decide),ai (by decide),ai (by decide),ar rfl] at h4;simp only[aU] at h4;dsimp only at hm;omega
theorem WC:∀{l:List ByteArray} {v u:V},kM v l=some u→v.good=0→u.good=0
 | [],v,u,h,hg=>by injection h with h;rw[← h];exact hg
 | s::r,v,u,h,hg=>by
  rw[kM,Jz] at h;obtain⟨x,h1,h2⟩:=h;exact WC h2 (aeK h1 hg)
theorem KS{v u:V}{s:ByteArray}(h:gB v s=some u):u.good=0:=by
 unfold gB at h;split at h
 ·rename_i hg;split at h
  ·injection h with h;rw[← h];exact hg
  exact WC h hg
 cases h
theorem aeL{path:ByteArray}{d:V}(h:eu d)(he:(cH path d).2.2≠0):(cH path d).2.2=14:=by
 obtain⟨i,hi,hK,-,-,-⟩:=h.id;unfold cH at he ⊢;rw[ai (by simpa using h.key)] at he ⊢
 cases hp:gB d path with
 | none=>rw[hp] at he;simp at he
 | some u =>
  rw[hp] at he;dsimp only at he ⊢;rw[hi,ni] at he ⊢;have AW:=KS hp;have e1:(iX [u,i] [false,false]).2=0∨(iX [u,i] [false,false]).2=14:=by
   unfold iX;rw[ai (by simp)];split
   ·right;rename_i h0;dsimp only;unfold qs at h0 ⊢;by_cases hu:(bK u).2=0
    ·rw[ai (by simpa using hu)] at h0;unfold qs at h0;rw[hK.bK] at h0;simp[qs] at h0
    rw[ar hu];unfold bK at hu ⊢;rw[ai (by simpa using AW)] at hu ⊢;split at hu
    ·rename_i h2;rw[ar h2]
    simp at hu
   split
   ·right;rfl
   left;rfl
  rcases e1 with e1 | e1
  ·rw[ai (by simpa using e1)] at he;simp at he
  rw[ar (by rw[e1];decide),e1]
end
section
open Go.RowKit Go.Shelf
def gS(v:V)(s:ByteArray):Option V:=if s.toList=[] then some v else kM v (nD s)
theorem WD(v:V)(s:ByteArray)(c:Cv)(w:World)(w0:World)(hg0:Grow w0 w)(om:s.toList=[])(hv:In w0 v c) :
 Calls prog 56 #[c.agg,.string s] w (kP w0 w (gS v s)):=by
 rw[gS,ar om];have HG:=aa (fun x:Cv=>((ah w).alloc (.cells c.cells 27)).alloc (.cells x.cells 27));have HB:=aa (fun x:Cv=>df (w:=w.alloc (.cells c.cells 27)) (g:=w.heap.size+1) (by simp) 27 x.cells);have HV:=aa hv;clear hv;go_enter func56,ntmps56;go_wp2_with fail;refine gK (pG rfl rfl rfl c (HB.o c)) rfl (Ob rfl (HG.o c) HV.o)
theorem aeM(k:Int)(n:Nat)(b:List UInt8)(l:List V)(f:List (ByteArray×V))(s:ByteArray)(c:Cv)(w:World)(hf:(V.mk k n b l f).formed=true)(om:¬ s.toList=[])(hs:s.size<4294967281)(w0:World)(hg0:Grow w0 w)(hv:In w0 (.mk k n b l f) c)
 (ih:∀(u:V) (t:ByteArray) (cu:Cv) (W:World),t.size<s.size→u.formed=true→Grow w0 W→In w0 u cu→Calls prog 56 #[cu.agg,.string t] W (kP w0 W (gS u t))) :
 Calls prog 56 #[c.agg,.string s] w (kP w0 w (gS (.mk k n b l f) s)):=by
 obtain⟨aB,aL,aF,cB,cL,cF,hce,-,-,-,-,-,h6,h7,h8,h9,-⟩:=hv.open;subst hce;have HG:=aa (((ah w).alloc (.cells (Cv.cells ⟨k,(n:Int),aB,b.length,cB,aL,l.length,cL,aF,f.length,cF⟩) 27)).alloc (.cells Cv.zero.cells 27));have aG:=aa ((aH w 27 (Cv.cells ⟨k,(n:Int),aB,b.length,cB,aL,l.length,cL,aF,f.length,cF⟩)).alloc (.cells Cv.zero.cells 27));have au:=aa (df (w:=w.alloc (.cells (Cv.cells ⟨k,(n:Int),aB,b.length,cB,aL,l.length,cL,aF,f.length,cF⟩) 27)) (g:=w.heap.size+1) (by simp) 27 Cv.zero.cells);have acg:s.toList.isEmpty=false:=by simpa using om
 have cm:=aa hg0;have HV:=aa hv;have HIH:=aa ih;have HF:=aa hf;have hlen:s.data.toList.length=s.size:=by simp
 clear hv ih hf hg0;go_enter func56,ntmps56;go_upto_block 0 with fail;go_cut [6] (fun i wx=>wx=((w.alloc (.cells (Cv.cells ⟨k,(n:Int),aB,b.length,cB,aL,l.length,cL,aF,f.length,cF⟩) 27)).alloc (.cells Cv.zero.cells 27))∧∃j:Nat,j≤s.size∧i=.int .i64 j∧(∀i (hi:i<s.data.toList.length),i<j→s.data.toList[i]≠46)∧(∀(h:j<s.data.toList.length),s.data.toList[j]=46))
 case first =>
  go_wp2_with fail;go_loopg [6] (s.size+1) (fun gk i wr=>wr=((w.alloc (.cells (Cv.cells ⟨k,(n:Int),aB,b.length,cB,aL,l.length,cL,aF,f.length,cF⟩) 27)).alloc (.cells Cv.zero.cells 27))∧∃j:Nat,j≤s.size∧gk+j=s.size+1∧i=.int .i64 j∧(∀i (hi:i<s.data.toList.length),i<j→s.data.toList[i]≠46));exact⟨rfl,0,by omega,by omega,rfl,fun i _ h=>absurd h (by omega)⟩;obtain⟨rfl,j,hj,iB,rfl,hne⟩:=hrel;have HN:=aa hne;clear hne;obtain⟨gk',rfl⟩:=bP gk (by omega);by_cases hlt:j<s.size
  ·obtain⟨y,hy⟩:∃y,s[j]'hlt=y:=⟨_,rfl⟩;have WE:s.data.toList[j]'(by omega)=y:=by rw[← hy,GC s j hlt]
   by_cases hd:y=46
   ·have HD:=aa (WE.trans hd);have hd2:((y.toNat:Int)==46)=true:=by rw[hd];rfl
    go_wp2_with fail;go_meet;exact⟨rfl,j,hj,rfl,HN.o,fun _=>HD.o⟩
   have hd2:((y.toNat:Int)==46)=false:=by
    simp only[pj,ne_eq];intro h;exact hd (sI.1 (by
     have:y.toNat=46:=by omega
     rw[this];rfl))
   have HD:=aa (fun h=>hd (WE.symm.trans h));go_wp2_with fail;go_roundg gk';refine⟨rfl,j+1,by omega,by omega,by go_num,fun i hi hij=>?_⟩;by_cases ie:i=j
   ·subst ie;exact HD.o
   exact HN.o i hi (by omega);omega
  obtain rfl:j=s.size:=by omega
  go_wp2_with fail;go_meet;exact⟨rfl,s.size,hj,rfl,HN.o,fun h=>absurd h (by omega)⟩
 obtain⟨rfl,j,hj,rfl,hne,WH⟩:=hcut;have cj:=aa hne;have aeN:=aa WH;clear hne WH;obtain⟨hd,hhd⟩:∃hd,s.extract 0 j=hd:=⟨_,rfl⟩;have WI:=aa hhd;go_upto_if 33 with fail;have pK:=aa (fun x:Cv=>HG.o.alloc (.cells x.cells 27));have GD:=aa (fun x:Cv=>aG.o.alloc (.cells x.cells 27));have GF:=aa (fun x:Cv=>au.o.alloc (.cells x.cells 27));have KT:=aa (fun x:Cv=>df (w:=((w.alloc (.cells (Cv.cells ⟨k,(n:Int),aB,b.length,cB,aL,l.length,cL,aF,f.length,cF⟩) 27)).alloc (.cells Cv.zero.cells 27))) (g:=w.heap.size+1+1) (by simp) 27 x.cells)
 go_cut [9,10] (fun t z wx=>∃(tb:Bool) (xc:Cv) (u:V),t=.bool tb∧Grow w wx∧Blk wx w.heap.size 27 (Cv.cells ⟨k,(n:Int),aB,b.length,cB,aL,l.length,cL,aF,f.length,cF⟩)∧Blk wx (w.heap.size+1) 27 Cv.zero.cells∧Blk wx (w.heap.size+1+1) 27 xc.cells ∧
  In w0 u xc∧((tb=true∧jd (.mk k n b l f) hd=some u∧k=7)∨(tb=false∧(k=7→jd (.mk k n b l f) hd=none)∧xc=Cv.zero)))
 case first =>
  have HI:=aa (fun w=>aeO hd w);by_cases hk:k=7
  ·subst hk;obtain⟨z,hz⟩:∃z,nN hd.data.toList=z:=⟨_,rfl⟩;have HST:=aa (yF (n:=n) (b:=b) (l:=l) (f:=f) (s:=hd));rw[hz] at HI HST;clear hz;by_cases hz0:0≤z
   ·rw[ar hz0] at HST;by_cases hz1:z<l.length
    ·obtain⟨i,rfl⟩:∃i:Nat,z=i:=⟨z.toNat,by omega⟩;have hi:i<l.length:=by omega
     rw[yl,bN hi] at HST;obtain⟨bk,o,x,ha,hbk,e0,e1,e2,e3,e4,hx⟩:=HV.o.fJ i hi;dsimp only at ha;subst ha;have HX:=aa hx;have e0z:(((w.alloc (.cells (Cv.cells ⟨7,(n:Int),aB,b.length,cB,some ⟨bk,o,none⟩,l.length,cL,aF,f.length,cF⟩) 27)).alloc (.cells Cv.zero.cells 27)).alloc (.cells #[.int .i64 0,.int .u64 0,.slice none 0 0,.slice none 0 0,.slice none 0 0] 27)).cell? ⟨bk,o+i*5,none⟩=some (.int .i64 x.k):=((cm.o.trans (pK.o Cv.zero)).below.cell hbk).trans e0
     have e1z:(((w.alloc (.cells (Cv.cells ⟨7,(n:Int),aB,b.length,cB,some ⟨bk,o,none⟩,l.length,cL,aF,f.length,cF⟩) 27)).alloc (.cells Cv.zero.cells 27)).alloc (.cells #[.int .i64 0,.int .u64 0,.slice none 0 0,.slice none 0 0,.slice none 0 0] 27)).cell? ⟨bk,o+i*5+1,none⟩=some (.int .u64 x.n):=((cm.o.trans (pK.o Cv.zero)).below.cell hbk).trans e1;have e2z:(((w.alloc (.cells (Cv.cells ⟨7,(n:Int),aB,b.length,cB,some ⟨bk,o,none⟩,l.length,cL,aF,f.length,cF⟩) 27)).alloc (.cells Cv.zero.cells 27)).alloc (.cells #[.int .i64 0,.int .u64 0,.slice none 0 0,.slice none 0 0,.slice none 0 0] 27)).cell? ⟨bk,o+i*5+2,none⟩=some (.slice x.aB x.nB x.cB):=((cm.o.trans (pK.o Cv.zero)).below.cell hbk).trans e2
     have e3z:(((w.alloc (.cells (Cv.cells ⟨7,(n:Int),aB,b.length,cB,some ⟨bk,o,none⟩,l.length,cL,aF,f.length,cF⟩) 27)).alloc (.cells Cv.zero.cells 27)).alloc (.cells #[.int .i64 0,.int .u64 0,.slice none 0 0,.slice none 0 0,.slice none 0 0] 27)).cell? ⟨bk,o+i*5+3,none⟩=some (.slice x.aL x.nL x.cL):=((cm.o.trans (pK.o Cv.zero)).below.cell hbk).trans e3;have e4z:(((w.alloc (.cells (Cv.cells ⟨7,(n:Int),aB,b.length,cB,some ⟨bk,o,none⟩,l.length,cL,aF,f.length,cF⟩) 27)).alloc (.cells Cv.zero.cells 27)).alloc (.cells #[.int .i64 0,.int .u64 0,.slice none 0 0,.slice none 0 0,.slice none 0 0] 27)).cell? ⟨bk,o+i*5+4,none⟩=some (.slice x.aF x.nF x.cF):=((cm.o.trans (pK.o Cv.zero)).below.cell hbk).trans e4;clear hx hz0 hz1;go_wp2_with (go_at_call 104;refine(HI.o _).mono ?_;rintro e w' ⟨rfl,rfl⟩);go_meet
     exact⟨true,x,l[i],rfl,pK.o x,GD.o x,GF.o x,KT.o x,HX.o,.inl ⟨rfl,HST.o,by simp⟩⟩
    have hn:l[z.toNat]?=none:=EK (by omega);rw[hn] at HST;clear hn;go_wp2_with (go_at_call 104;refine(HI.o _).mono ?_;rintro e w' ⟨rfl,rfl⟩);go_meet;exact⟨false,Cv.zero,V.zero,rfl,pK.o Cv.zero,GD.o Cv.zero,GF.o Cv.zero,KT.o Cv.zero,In.JK w0,.inr ⟨rfl,fun _=>HST.o,rfl⟩⟩
   rw[ai hz0] at HST;go_wp2_with (go_at_call 104;refine(HI.o _).mono ?_;rintro e w' ⟨rfl,rfl⟩);go_meet;exact⟨false,Cv.zero,V.zero,rfl,pK.o Cv.zero,GD.o Cv.zero,GF.o Cv.zero,KT.o Cv.zero,In.JK w0,.inr ⟨rfl,fun _=>HST.o,rfl⟩⟩
  have hkq:(k==7)=false:=by simpa using hk
  have HK:=aa hk;clear hk;go_wp2_with fail;go_meet;exact⟨false,Cv.zero,V.zero,rfl,pK.o Cv.zero,GD.o Cv.zero,GF.o Cv.zero,KT.o Cv.zero,In.JK w0,.inr ⟨rfl,fun h=>absurd h HK.o,rfl⟩⟩
 obtain⟨tb,xc,u,rfl,hw,hb2,hb4,kU,hu,hh⟩:=hcut;have hform:=HF.o;rw[rh] at hform;simp only[gV,nU,iy] at hform;have DC:=aa hform.2;have H7:=aa (show k=7→f.length=0 by
  intro h;have:=hform.1.1.1;unfold V.own at this;simp only[gV,iy] at this;omega)
 have HH:=aa hh;have HW:=aa hw;have aeP:=aa hb2;have aeQ:=aa hb4;have aeR:=aa kU;have HU:=aa hu;have hc2:=hb2.cell;have dC:=hb2.lt;clear hform hh hw hb2 hb4 kU hu;rename World=>wy;go_wp2_with fail;go_loopg [9,11] (f.length+1) (fun gk t i wr=>∃(p:Nat) (tb:Bool) (xc:Cv) (u:V),p≤f.length∧gk+p=f.length+1∧i=.int .i64 p∧t=.bool tb∧Grow w wr∧Blk wr w.heap.size 27 (Cv.cells ⟨k,(n:Int),aB,b.length,cB,aL,l.length,cL,aF,f.length,cF⟩)∧Blk wr (w.heap.size+1) 27 Cv.zero.cells∧Blk wr (w.heap.size+1+1) 27 xc.cells ∧
  In w0 u xc∧((tb=true∧jd (.mk k n b l f) hd=some u)∨(tb=false∧(k=7→jd (.mk k n b l f) hd=none)∧xc=Cv.zero∧∀i (hi:i<f.length),i<p→f[i].1≠hd)))
 refine⟨0,tb,xc,u,by omega,by omega,rfl,rfl,HW.o,aeP.o,aeQ.o,aeR.o,HU.o,?_⟩;rcases HH.o with ⟨h1,h2,-⟩ | ⟨h1,h2,h3⟩
 ·exact .inl ⟨h1,h2⟩
 exact .inr ⟨h1,h2,h3,fun i _ h=>absurd h (by omega)⟩;obtain⟨p,tb2,GG,u2,hp,iB,rfl,rfl,hwr,hr2,hr4,rM,hu2,Ac⟩:=hrel;have yV:=aa Ac;have gN:=aa hwr;have bI:=aa hr2;have cN:=aa hr4;have qA:=aa rM;have Dc:=aa hu2;have alT:=hr2.cell;have alU:=hr2.lt;clear Ac hwr hr2 hr4 rM hu2;obtain⟨gk',rfl⟩:=bP gk (by omega);by_cases hlt:p<f.length
 ·have HK7:=aa (show k≠7 from fun h=>by have:=H7.o h;omega);obtain⟨bk,o,x,ha,hbk,es,iA,e0,e1,e2,e3,e4,hx⟩:=HV.o.iR p hlt;dsimp only at ha;subst ha;replace es:=((cm.o.trans gN.o).below.cell hbk).trans es;replace e0:=((cm.o.trans gN.o).below.cell hbk).trans e0;replace e1:=((cm.o.trans gN.o).below.cell hbk).trans e1;replace e2:=((cm.o.trans gN.o).below.cell hbk).trans e2;replace e3:=((cm.o.trans gN.o).below.cell hbk).trans e3;replace e4:=((cm.o.trans gN.o).below.cell hbk).trans e4;replace hbk:=cU hbk (cm.o.trans gN.o).size;have HX:=aa hx;obtain⟨q,hq⟩:∃q,f[p].1=q:=⟨_,rfl⟩;rw[hq] at es;have HQ:=aa hq;have hc8:=qA.o.cell;have aeS:=qA.o.lt;have Wc:=qA.o.frozen;clear hx hq;by_cases he:q=hd
  ·have HST:=aa (show jd (.mk k n b l f) hd=some f[p].2 by rw[vt HK7.o,adE DC.o hlt (HQ.o.trans he)];rfl);have ot:(q.toList==hd.toList)=true:=by rw[he];simp
   clear he;go_wp2_with fail;go_roundg gk';exact⟨p+1,true,x,f[p].2,by omega,by omega,by go_num,rfl,gN.o.mf (Nat.le_add_right _ 2) x,bI.o.Fy (by omega) x,cN.o.Fy (by omega) x,vp (c:=x) qA.o,HX.o,.inl ⟨rfl,HST.o⟩⟩;omega
  have HE:=aa he;have ot:(q.toList==hd.toList)=false:=by
   simp only[pj,ne_eq];intro h;rw[toList_data,toList_data] at h;exact he (Ca (yh h))
  clear he;go_wp2_with fail;go_roundg gk';refine⟨p+1,tb2,GG,u2,by omega,by omega,by go_num,rfl,gN.o,bI.o,cN.o,qA.o,Dc.o,?_⟩;rcases yV.o with h1 | ⟨h1,h2,h3,h4⟩
  ·exact .inl h1
  refine .inr ⟨h1,h2,h3,fun i hi hij=>?_⟩;by_cases ie:i=p
  ·subst ie;rw[HQ.o];exact HE.o
  exact h4 i hi (by omega);omega
 obtain rfl:p=f.length:=by omega
 have vL:=aa (show gS (.mk k n b l f) s=(jd (.mk k n b l f) hd).bind fun u=>kM u (if j=s.size then [] else nD (s.extract (j+1) s.size)) by
  rw[gS,ai om];by_cases hjs:j=s.size
  ·rw[ar hjs,O_ (fun i hi=>cj.o i hi (by omega)),← WI.o,hjs,ByteArray.extract_zero_size];rfl
  rw[ai hjs,adD (k:=j) (by omega) cj.o (aeN.o (by omega)),WI.o];rfl)
 have gf:=cN.o.cell;have Fz:=cN.o.lt;have wP:=cN.o.frozen;have hc8:=qA.o.cell;have aeS:=qA.o.lt;rcases yV.o with ⟨rfl,hst⟩ | ⟨rfl,hno,rfl,hall⟩
 ·have HST:=aa hst;clear hst;by_cases hjs:j=s.size
  ·have HP:=aa (show gS (.mk k n b l f) s=some u2 by rw[vL.o,HST.o,ar hjs];rfl);subst hjs;go_wp2_with fail;refine gK (pG rfl rfl rfl GG (vp (c:=GG) cN.o)) rfl (Ob HP.o (gN.o.mf (fg _) GG) Dc.o)
  by_cases DD:j+1=s.size
  ·have PO:=aa (Ks HST.o HF.o);have HP:=aa (show gS (.mk k n b l f) s=none by
    have hz:(s.extract (j+1) s.size).size=0:=by rw[ByteArray.size_extract];omega
    have hz2:(s.extract (j+1) s.size).data.toList.length=0:=by simpa using hz
    rw[vL.o,HST.o,ai hjs,O_ (fun i hi=>absurd hi (by omega))];show (jd u2 _).bind _=none;rw[adF PO.o hz];rfl)
   have hb1:((j:Int)==(s.size:Int))=false:=by simp only[pj,ne_eq];omega
   have hb2:((j:Int)+1==(s.size:Int))=true:=by simp only[EF];omega
   clear hjs DD;go_wp2_with fail;refine gK (pG rfl rfl rfl Cv.zero (CX (c:=Cv.zero) cN.o)) rfl (Oc HP.o (gN.o.mf (fg _) Cv.zero))
  have PO:=aa (Ks HST.o HF.o);have alV:j<s.size:=by omega
  have hsz:(s.extract (j+1) s.size).size=s.size-(j+1):=by rw[ByteArray.size_extract];omega
  have HP:=aa (show gS (.mk k n b l f) s=gS u2 (s.extract (j+1) s.size) by
   rw[vL.o,HST.o,ai hjs,gS,ai]
   ·rfl
   intro h;rw[toList_data] at h;have h0:(s.extract (j+1) s.size).data.toList.length=0:=by rw[h];rfl
   have h1:(s.extract (j+1) s.size).data.toList.length=(s.extract (j+1) s.size).size:=by simp
   omega)
  have HC:=aa (HIH.o u2 (s.extract (j+1) s.size) GG wr.drew (by omega) PO.o (cm.o.trans gN.o.drew) Dc.o);have hb1:((j:Int)==(s.size:Int))=false:=by simp only[pj,ne_eq];omega
  clear hjs hsz;obtain⟨y,hy⟩:∃y,j+1=y:=⟨_,rfl⟩;have hyj:(j:Int)+1=(y:Int):=by omega
  have hys:y≤s.size:=by omega
  have hyw:IntKind.i64.wrap (y:Int)=(y:Int):=by rw[cZ];omega
  have hy0:(0:Int)≤(y:Int):=by omega
  have hy1:(y:Int)≤(s.size:Int):=by omega
  rw[hy] at HP HC;have hb2:((y:Int)==(s.size:Int))=false:=by simp only[pj,ne_eq];omega
  go_upto_region 22 with fail;go_region_law ((go_simp;go_at_call 56;refine HC.o.mono ?_;rintro e w2 ⟨hg2,x,t,u3,rfl,hx,hh⟩;have hb4:=(cN.o.grow ((ah wr).drew.trans hg2));have alW:=hb4.cell;have alX:=hb4.lt;have alY:=hb4.frozen));go_wp2_with fail;refine gK (pG rfl rfl rfl x (vp (c:=x) hb4)) rfl ?_;exact⟨(gN.o.trans ((ah wr).drew.trans hg2)).mf (fg _) x,x,t,u3,rfl,hx,by rw[HP.o];exact hh⟩
 have mR:=aa (show jd (.mk k n b l f) hd=none by
  by_cases hk:k=7
  ·exact hno hk
  rw[vt hk,J1 (fun i hi=>hall i hi hi)];rfl)
 have HP:=aa (show gS (.mk k n b l f) s=none by rw[vL.o,mR.o];rfl);clear hno hall;go_wp2_with fail;refine gK (pG rfl rfl rfl Cv.zero (CX (c:=Cv.zero) cN.o)) rfl (Oc HP.o (gN.o.mf (fg _) Cv.zero))
theorem AX(w0:World):∀(n:Nat) (v:V) (s:ByteArray) (c:Cv) (w:World),s.size≤n→s.size<4294967281→v.formed=true→Grow w0 w→In w0 v c →
 Calls prog 56 #[c.agg,.string s] w (kP w0 w (gS v s))
 | 0,v,s,c,w,hn,hs,hf,hg,hv=>WD v s c w w0 hg (by rw[toList_data];exact zQ.1 (by have h:s.data.toList.length=s.size:=(by simp);omega)) hv
 | n+1,v,s,c,w,hn,hs,hf,hg,hv=>by
  by_cases om:s.toList=[]
  ·exact WD v s c w w0 hg om hv
  obtain⟨k,m,b,l,f⟩:=v;exact aeM k m b l f s c w hf om hs w0 hg hv (fun u t cu W ht hu xC Az=>AX w0 n u t cu W (by omega) (by omega) hu xC Az)
end


section
open Go.RowKit Go.Shelf Go.WideShapes
theorem aeT(b:List UInt8)(B:Option Addr)(bc:Nat)(w:World)(hb:ba w B b)(hl:b.length≤70000000000000):Calls prog 106 #[.slice B b.length bc] w (fT w (b.map eZ)):=by
 have HB:=aa hb;clear hb;go_enter func106,ntmps106;go_wp2_with fail;go_loopg [3,4] (b.length+1) (fun gk o i wr=>∃(k:Nat) (A':Option Addr) (c':Nat),k≤b.length∧gk+k=b.length+1∧i=.int .i64 k∧o=.slice A' k c'∧Row wr w.heap.size (.slice A' k c') k ((b.take k).map eZ)∧Grow w wr);exact⟨0,none,0,aS _,rfl,rfl,rfl,iH _ _ _ _,ah w⟩;obtain⟨k,A',c',hk,hg,rfl,rfl,hr,hgr⟩:=hrel;have HR:=aa hr;have HG:=aa hgr;have hzz:=hgr.size;clear hr hgr;by_cases hlt:k<b.length
 ·obtain⟨gk',rfl⟩:=bP gk (by omega);obtain⟨bk,o,rfl,hcell⟩:=HB.o.2 (by omega);have hcw:=hcell k _ (uY b k hlt);have hc:=(HG.o.below.cell hcw.2.2).trans hcw.1;have hbl:bk<wr.heap.size:=cU hcw.2.2 HG.o.size;have HST:=aa (show (b.take (k+1)).map eZ=(b.take k).map eZ++[eZ b[k]] by rw[px b k hlt,lZ];rfl);obtain⟨x,tR⟩:∃x,b[k]=x:=⟨_,rfl⟩;rw[tR] at HST hc;have hc':wr.cell? ⟨bk,o+k,none⟩=some (.int .u8 (x.toNat:Int)):=hc;have hxl:=x.toNat_lt;have HF:=aa (show (((eZ x).toNat:Nat):Int)=255-(x.toNat:Int) by unfold eZ;rw[yf];omega);clear tR hcell hcw hc
  go_wp2_with (at_builtin;refine fK (ys:=[eZ x]) rfl (.tmp 11) (.tmp 17) _ rfl rfl (HR.o.alloc _) _ rfl (j6 _ HF.o (aH wr _ _)) (by simp only[aU,bn];omega) (by simp;omega) ?_;intro A4 c4 w4 hr4 hg4;have cN:=aa hr4;have bz:=aa (show Grow w w4 from ct (HG.o.alloc _) (dU hg4 (HR.o.alloc _) (by simp;omega)));clear hr4 hg4);go_roundg gk';have e:k+[eZ x].length=k+1:=rfl;have gZ:=cN.o;rw[e,← HST.o] at gZ;exact⟨k+1,A4,c4,by omega,by omega,by go_num,rfl,gZ,bz.o⟩;omega
 have hkb:k=b.length:=by omega
 go_wp2_with fail;go_ret;exact fT.of (by rw[hkb,fC]) (by simp[hkb]) HR.o HG.o
end




section
open Go.RowKit Go.Shelf Go.WideShapes
theorem km.WJ{w w1 w':World}{b:List UInt8}{A:Option Addr}{n c:Nat}(h1:w.heap.size≤w1.heap.size)(hn:n=b.length)(hr:Row w' w1.heap.size (.slice A n c) n b)(hg:Grow w w'):km w (b,0) (.returned (.tuple #[.slice A n c,.int .i64 0])) w':=by
 subst hn;exact⟨w1.heap.size,A,c,rfl,h1,hr,hg⟩
theorem aeU(v:V)(c:Cv)(w:World)(hd:v.depth≤1099511627776)(hsz:v.formed=true→v.bytes.length≤140737488355328)(hof:v.good=0→∀W,In W v c→Calls prog 105 #[c.agg] W (fT W v.key))(hv:In w v c):Calls prog 57 #[c.agg] w (km w (bK v)):=by
 have aP:=aa ((ah w).alloc (.cells c.cells 27));have bf:=aa (aH w 27 c.cells);have hcell:=(aH w 27 c.cells).cell;have tE:=aa (Ug v _ c hd hsz (hv.grow aP.o));have HV:=aa hv;have kQ:=aa hof;have hge:v.good=0∨v.good≠0:=by omega
 obtain⟨g,hg⟩:∃g,v.good=g:=⟨_,rfl⟩;rw[hg] at tE hge;have az:=aa hg;clear hv hof hg hsz;go_enter func57,ntmps57;go_wp2_with fail;refine tE.o.mono ?_;rintro e w1 ⟨rfl,hg1⟩;have eX:=bf.o.grow hg1;have aN:=aa (aP.o.trans hg1);have aQ:=aa eX;have hc1:=eX.cell;have lD:=eX.lt;have hs1:=aN.o.size;clear hg1 eX hcell;by_cases h0:g=0
 ·subst h0;have HC:=aa (kQ.o az.o w1 (HV.o.grow aN.o));go_wp2_with fail;refine HC.o.mono ?_;rintro e w2 ⟨A2,c2,rfl,hr2,hg2⟩;have bI:=aa hr2;have HG2:=aa (aN.o.trans hg2);obtain⟨KB,xa⟩:∃K,v.key=K:=⟨_,rfl⟩;rw[xa] at bI;clear hr2 hg2;have jE:=aa xa;rw[xa];by_cases hlen:96<KB.length
  ·have hof:bK v=([],14):=by unfold bK;rw[ai (by rw[az.o];simp),jE.o,ar hlen]
   have HO:=aa hof;clear hof xa;go_wp2_with fail;go_ret2;rw[HO.o];exact tH HG2.o
  have hof:bK v=(KB,0):=by unfold bK;rw[ai (by rw[az.o];simp),jE.o,ai hlen]
  have HO:=aa hof;clear hof xa;go_wp2_with fail;go_ret2;rw[HO.o];exact km.WJ hs1 rfl bI.o HG2.o
 have hgb:(g==0)=false:=by simpa using h0
 have hof:bK v=([],g):=by unfold bK;rw[ar (by rw[az.o];exact h0),az.o]
 have HO:=aa hof;clear hof;go_wp2_with fail;go_ret2;rw[HO.o];exact tH aN.o
end
section
open Go.RowKit Go.Shelf Go.WideShapes
theorem Row.y_{w:World}{base c:Nat}{A:Option Addr}{b:List UInt8}(h:Row w base (.slice A b.length c) b.length b):ba w A b:=
 dW (fun p u hp=>⟨hp.1,aS _,hp.2.2⟩) h.reads.1
theorem aeV(l:List V)(ts:List Bool)(A F:Option Addr)(cap fc:Nat)(w:World)(JV:∀v∈l,∀W c,In W v c→Calls prog 57 #[c.agg] W (km W (bK v)))(hv:InL w A cap l)(hf:Om w F ts)(hts:ts.length≤140737488355328)(hsm:96*l.length≤140737488355328) :
 Calls prog 59 #[.slice A l.length cap,.slice F ts.length fc] w (km w (iX l ts)):=by
 have hll:l.length≤140737488355328:=by omega
 have HV:=aa hv;have HF:=aa hf;have aeW:=aa JV;clear hv hf JV;by_cases hlen:l.length=ts.length
 ·have heq:((l.length:Int) != (ts.length:Int))=false:=by simp[hlen]
  have HLEN:=aa hlen;clear hlen;go_enter func59,ntmps59;go_wp2_with fail;go_loopg [6,7] (l.length+1) (fun gk o i wr=>∃(j:Nat) (xs:List UInt8) (A':Option Addr) (c':Nat),j≤l.length∧gk+j=l.length+1∧i=.int .i64 j∧o=.slice A' xs.length c'∧Row wr w.heap.size (.slice A' xs.length c') xs.length xs ∧
   xs=jD (l.take j) (ts.take j)∧xs.length≤96*j∧(∀i (hi:i<l.length),i<j→(bK l[i]).2=0)∧Grow w wr)
  exact⟨0,[],none,0,aS _,rfl,rfl,rfl,iH _ _ _ _,by simp[jD],by simp,fun _ _ h=>absurd h (by omega),ah w⟩;obtain⟨j,xs,A',c',hj,hg,rfl,rfl,hr,hacc,hxl,hz,hgr⟩:=hrel;obtain⟨gk',rfl⟩:=bP gk (by omega);have HR:=aa hr;have tF:=aa hacc;have HZ:=aa hz;have HG:=aa hgr;have fM:=py HV.o hgr;clear hr hacc hz hgr;by_cases hlt:j<l.length
  ·obtain⟨bk,o,x,ha,hbk,e0,e1,e2,e3,e4,hx⟩:=fM.fJ j hlt;dsimp only[kf] at ha;subst ha;have HX:=aa hx;have dC:j<ts.length:=by have:=HLEN.o;omega
   have kQ:=aa (aeW.o l[j] (aY hlt) wr x hx);obtain⟨KB,ke,fG⟩:∃kb ke,bK l[j]=(kb,ke):=⟨_,_,rfl⟩;rw[fG] at kQ;have gh:=aa fG;clear hx fM fG;go_wp2_with fail;refine kQ.o.mono ?_;rintro e w2 ⟨C4,B,bc,rfl,hb2,hr2,hg2⟩;dsimp only at hr2 ⊢;have UX:=hb2;have bI:=aa hr2;have HG2:=aa (HG.o.trans hg2);have yK:=aa hg2;clear hr2 hg2 hb2 e0 e1 e2 e3 e4;by_cases vv:ke=0
   ·subst vv;have hof:=UQ (show (bK l[j]).2=0 by rw[gh.o]);have hkb:l[j].key=KB:=by have:=gh.o;rw[hof] at this;exact(zU.1 this).1
    have Oo:KB.length≤96:=by rw[← hkb];exact(FJ (show (bK l[j]).2=0 by rw[gh.o])).2
    have jE:=aa hkb;have ko:=aa (Ol l ts j hlt dC);have vw:=aa (show ∀i (hi:i<l.length),i<j+1→(bK l[i]).2=0 from fun i hi hij=>by
     rcases MZ.1 hij with h | rfl
     ·exact HZ.o i hi h
     rw[gh.o])
    obtain⟨fb,fo,rfl,hfc⟩:=HF.o.2 (by omega);have tG:=((HG2.o.below.cell (hfc j (.bool ts[j]) (by simp[dC])).2.2).trans (hfc j (.bool ts[j]) (by simp[dC])).1);have JX:fb<w2.heap.size:=cU (hfc j (.bool ts[j]) (by simp[dC])).2.2 HG2.o.size;have Au:=aa (HR.o.grow yK.o);clear hof hkb hfc
    cases xb:ts[j] with
    | false =>
     rw[xb] at tG ko;rw[show flip false l[j].key=KB by rw[jE.o];rfl] at ko;clear xb;go_wp2_with (at_builtin;refine fK (ys:=KB) rfl (.tmp 38) (.tmp 39) _ rfl rfl Au.o _ rfl (ej dP bI.o.reads.1 (gM _)) (by omega) HG2.o.size ?_;intro A3 c3 w3 hr3 hg3;have d_:=aa hr3;have aJ:=aa (dU hg3 Au.o HG2.o.size);clear hr3 hg3);go_roundg gk';have hn:(xs++KB).length=xs.length+KB.length:=bD;exact⟨j+1,xs++KB,A3,c3,by omega,by omega,by go_num,by rw[hn],by rw[hn];exact d_.o,by rw[ko.o,← tF.o],by omega,vw.o,ct HG2.o aJ.o⟩;omega
    | true =>
     rw[xb] at tG ko;rw[show flip true l[j].key=KB.map eZ by rw[jE.o];rfl] at ko;clear xb;have HFA:=aa (aeT KB B bc w2 bI.o.y_ (by omega));go_wp2_with fail;refine HFA.o.mono ?_;rintro e w4 ⟨A5,c5,rfl,gZ,cr⟩;have hm:(KB.map eZ).length=KB.length:=cY ..;have gP:=aa gZ;have bC:=aa (HG2.o.trans cr);have C5:=aa (Au.o.grow cr);have sS:=bC.o.size;clear gZ cr;obtain⟨FB,PQ⟩:∃z,KB.map eZ=z:=⟨_,rfl⟩;rw[PQ] at gP ko hm;rw[PQ];have alZ:FB.length≤96:=by omega
     clear PQ hm;go_wp2_with (at_builtin;refine fK (ys:=FB) rfl (.tmp 38) (.tmp 39) _ rfl rfl C5.o _ rfl (ej dP gP.o.reads.1 (gM _)) (by omega) sS ?_;intro A3 c3 w3 hr3 hg3;have d_:=aa hr3;have aJ:=aa (dU hg3 C5.o sS);clear hr3 hg3);go_roundg gk';have hn:(xs++FB).length=xs.length+FB.length:=bD;exact⟨j+1,xs++FB,A3,c3,by omega,by omega,by go_num,by rw[hn],by rw[hn];exact d_.o,by rw[ko.o,← tF.o],by omega,vw.o,ct bC.o aJ.o⟩;omega
   have hkb:(ke==0)=false:=by simpa using vv
   have HA:=aa (UT HLEN.o vv j hlt HZ.o (by rw[gh.o]));go_wp2_with fail;go_ret2;rw[HA.o];exact tH HG2.o
  have hjl:j=l.length:=by omega
  have hz':∀i (hi:i<l.length),(bK l[i]).2=0:=fun i hi=>HZ.o i hi (by omega)
  have hxs:xs=jD l ts:=by rw[tF.o,hjl,fC,HLEN.o,fC]
  by_cases Oq:96<xs.length
  ·have HA:=aa (UU HLEN.o hz' (by rw[← hxs];exact Oq));clear hxs hz';go_wp2_with fail;go_ret2;rw[HA.o];exact tH HG.o
  have HA:=aa (UW HLEN.o hz' (by rw[← hxs];omega));have Kz:=aa hxs;clear hxs hz';go_wp2_with fail;go_ret2;rw[HA.o,← Kz.o];exact km.WJ (av _) rfl HR.o HG.o
 have heq:((l.length:Int) != (ts.length:Int))=true:=by simp[bne_iff_ne];omega
 have HA:=aa (UR hlen);clear hlen;go_enter func59,ntmps59;go_wp2_with fail;go_ret2;rw[HA.o];exact tH (ah w)
end
section
open Go.RowKit
theorem GH(v:V)(c:Cv)(w:World)(hd:v.depth≤1099511627776)(hsz:v.formed=true→v.bytes.length≤140737488355328)(hv:In w v c):Calls prog 57 #[c.agg] w (km w (bK v)):=
 aeU v c w hd hsz (fun hg=>aec v c hg) hv
theorem PR{d:V}(h8:d.k=8):gS d mK=jq d:=by
 obtain⟨k,n,b,l,f⟩:=d;have z_:k=8:=h8;subst z_;unfold gS;rw[ai (by rw[N_];simp),O_ (by decide),kM,vt (by decide)];unfold jq;show Option.bind ((f.find? fun x=>decide (x.1=mK)).map Prod.snd) _=(f.find? fun x=>decide (x.1=mK)).map Prod.snd
 cases (f.find? fun x=>decide (x.1=mK)).map Prod.snd<;>rfl
theorem GI{v:V}(h:v.good=0)(s:ByteArray):gB v s=gS v s:=by rw[gB,ar h,gS]
theorem WK{d i:V}(hd:d.good=0)(h8:d.k=8)(h:jq d=some i):i.good=0:=by
 rw[← PR h8,← GI hd] at h;exact KS h
theorem KU(v:V)(c:Cv)(w:World)(eP:v.count≤20000)(hsz:v.formed=true→v.bytes.length≤140737488355328)(hv:In w v c):Calls prog 27 #[c.agg] w (km w (bt v)):=by
 have aP:=aa ((ah w).alloc (.cells c.cells 27));have bf:=aa (aH w 27 c.cells);have hcell:=(aH w 27 c.cells).cell;have tE:=aa (Fp v _ c eP hsz (hv.grow aP.o));have HV:=aa hv;obtain⟨g,hg⟩:∃g,v.good=g:=⟨_,rfl⟩;rw[hg] at tE;have az:=aa hg;have HK:Hid (c.k=v.k):=aa (by obtain⟨k,n,b,l,f⟩:=v;obtain⟨aB,aL,aF,cB,cL,cF,rfl,_⟩:=In.open hv;rfl);clear hv hg hsz;go_enter func27,ntmps27;go_wp2_with fail;refine tE.o.mono ?_;rintro e w1 ⟨rfl,hg1⟩;have eX:=bf.o.grow hg1;have aN:=aa (aP.o.trans hg1);have aQ:=aa eX;have hc1:=eX.cell;have lD:=eX.lt;clear hg1 eX hcell;by_cases h0:g=0
 ·subst h0;by_cases h8:c.k=8
  ·have PS:v.k=8:=by rw[← HK.o];exact h8
   have WL:=PR PS;have pL:=aa (fun w2 (h:Grow w w2)=>AX w 3 v mK c w2 (by decide) (by decide) (mJ az.o).1 h HV.o);rw[WL] at pL;have H8:=aa h8;have PT:=aa PS;have CO:(c.k==8)=true:=by rw[h8];rfl
   clear h8 PS WL;go_wp2_with fail;refine(pL.o w1 aN.o).mono ?_;rintro e w2 ⟨hg2,ci,t,u,rfl,tI,hres⟩;have HG2:=aa (aN.o.trans hg2);have aJ:=aa ((aN.o.trans hg2).alloc (.cells ci.cells 27));have Ot:=aa (aH w2 27 ci.cells);have FM:=Ot.o.cell;have yN:=aa tI;clear tI hg2;rcases hres with ⟨hid,rfl⟩ | ⟨hid,rfl,rfl,rfl⟩
   ·have HP:=aa (show bt v=bK u by unfold bt;rw[ai (by have:=az.o;omega),ai (by rw[PT.o];simp),hid]);have AW:=WK az.o PT.o hid;have kQ:=aa (GH u ci _ (CP (a_ (FL hid) eP)) (fun hf=>by have:=(mJ AW).2;omega) (yN.o.grow aJ.o));clear hid AW;go_wp2_with fail;refine kQ.o.mono ?_;rintro e w3 ⟨base,A3,c3,rfl,hb3,hr3,hg3⟩;have d_:=aa hr3;have bz:=aa (aJ.o.trans hg3);have aX:=aa (a_ aJ.o.size hb3);clear hr3 hg3 hb3;go_wp2_with fail;go_ret2;rw[HP.o];exact⟨base,A3,c3,rfl,aX.o,d_.o,bz.o⟩
   go_wp2_with fail;go_ret2;rw[show bt v=([],14) by unfold bt;rw[ai (by have:=az.o;omega),ai (by rw[PT.o];simp),hid]];exact tH aJ.o
  go_wp2_with fail;go_ret2;rw[show bt v=([],4) by unfold bt;rw[ai (by have:=az.o;omega),ar (by rw[← HK.o];exact h8)]];exact tH aN.o
 go_wp2_with fail;go_ret2;rw[show bt v=([],g) by unfold bt;rw[ar (by have:=az.o;omega),az.o]];exact tH aN.o
abbrev t_(v:V):ByteArray:=⟨(bt v).1.toArray⟩
theorem DG(v:V)(c:Cv)(w:World)(eP:v.count≤20000)(hsz:v.formed=true→v.bytes.length≤140737488355328)(hv:In w v c):Calls prog 71 #[c.agg] w fun e w'=>e=.returned (.string (t_ v))∧Grow w w':=by
 have aP:=aa ((ah w).alloc (.cells c.cells 27));have bf:=aa (aH w 27 c.cells);have hcell:=(aH w 27 c.cells).cell;have HK:=aa (KU v c _ eP hsz (hv.grow aP.o));obtain⟨⟨kb,ke⟩,hk⟩:∃p,bt v=p:=⟨_,rfl⟩;unfold t_;rw[hk] at HK ⊢;clear hv hk hsz;go_enter func71,ntmps71;go_wp2_with fail;refine HK.o.mono ?_;rintro e w1 ⟨base,A3,c3,rfl,hb3,hr3,hg3⟩;dsimp only at hr3 ⊢;have hcs:=ly c3 hr3.reads.1;have aN:=aa (aP.o.trans hg3);clear hcell hb3 hr3 hg3;go_wp2_with fail;go_ret;exact⟨rfl,aN.o⟩
theorem KV(x:Ix)(v:V)(c:Cv)(w:World)(hx:x.path.size<4294967281)(eP:v.count≤20000)(hfit:v.fit)(hsz:v.formed=true→v.bytes.length≤140737488355328)(hv:In w v c):Calls prog 29 #[x.agg,c.agg] w (yP w (cH x.path v)):=by
 have aP:=aa (((ah w).alloc (.cells x.cells 64)).alloc (.cells c.cells 27));have C_:=aa ((aH w 64 x.cells).alloc (.cells c.cells 27));have bf:=aa (df (w:=w.alloc (.cells x.cells 64)) (g:=w.heap.size+1) (by simp) 27 c.cells);have hcell:=bf.o.cell;have HV:=aa hv;have Ar:=aa hfit;have HKEY:=aa (KU v c _ eP hsz (hv.grow aP.o));obtain⟨⟨kb,ke⟩,fG⟩:∃r,bt v=r:=⟨_,rfl⟩;rw[fG] at HKEY;have gh:=aa fG;clear hv fG hfit hsz;go_enter func29,ntmps29;go_wp2_with fail;refine HKEY.o.mono ?_;rintro e w1 ⟨base,Ak,ck,rfl,hbk,F4,hg1⟩;dsimp only at F4 ⊢;have aQ:=aa (bf.o.grow hg1);have Da:=aa (C_.o.grow hg1);have hc1:=aQ.o.cell;have ek:=aQ.o.lt;have aN:=aa (aP.o.trans hg1);clear hg1 F4 hbk hcell HKEY;by_cases h0:ke=0
 ·subst h0;have hok:eu v:=⟨by rw[gh.o],Ar.o,eP⟩;obtain⟨i,hi,hK,hkey,hgd,h8⟩:=hok.id;have fh:=(mJ hgd).1;have pL:=aa (fun w2 (h:Grow w w2)=>AX w 3 v mK c w2 (by decide) (by decide) fh h HV.o);rw[PR h8,hi] at pL;have Db:=aa (fun w2 (h:Grow w w2)=>AX w x.path.size v x.path c w2 (av _) hx fh h HV.o);rw[← GI hgd] at Db;have HI:=aa hi;have az:=aa hgd;have H8:=aa h8;have cJ:=aa hok;clear hi hK hkey hgd h8 fh hok;go_wp2_with fail;refine(pL.o w1 aN.o).mono ?_;rintro e w3 ⟨hg3,ci,t3,u3,rfl,tD,F5⟩;obtain⟨hu3,rfl⟩:some i=some u3∧t3=true:=by
   rcases F5 with h | ⟨h,-⟩
   ·exact h
   cases h
  injection hu3 with hu3;subst hu3;have yH:=aa tD;have aJ:=aa ((aN.o.trans hg3).alloc (.cells ci.cells 27));have PU:=hg3.alloc (.cells ci.cells 27);have aX:=aa (aQ.o.grow PU);have WM:=aa (Da.o.grow PU);have yI:=aa (aH w3 27 ci.cells);have hc3:=aX.o.cell;have ny:=aX.o.lt;have hx3:=WM.o.cell;have aeX:=WM.o.lt;clear F5 pL tD hg3 PU hc1 ek;go_wp2_with fail;refine(Db.o _ aJ.o).mono ?_;rintro e w2 ⟨hg2,cu,t,u,rfl,tI,hres⟩;have yN:=aa tI;have bz:=aa ((aJ.o.trans hg2).alloc (.cells cu.cells 27));have C3:=aa ((yI.o.grow hg2).alloc (.cells cu.cells 27));have KW:=aa (aH w2 27 cu.cells);have FM:=C3.o.cell;have hli:=C3.o.lt;have Az:=KW.o.cell;clear tI hc3 ny hx3 aeX Db hg2;rcases hres with ⟨hp,rfl⟩ | ⟨hp,rfl,rfl,rfl⟩
  ·have HP:=aa hp;have AW:=KS hp;have WN:=WK az.o H8.o HI.o;have HR:=aa (InL.row2 (yN.o.grow bz.o) (yH.o.grow bz.o));have F6:=Vk ((w2.alloc (.cells cu.cells 27)).alloc (.cells (cells2 cu ci) 27)) false false;have xe:=((ah (w2.alloc (.cells cu.cells 27))).alloc (.cells (cells2 cu ci) 27));have Dd:=(xe.trans (ah _)).alloc (.cells #[.bool false,.bool false] 4);have rF:=HR.o.grow ((ah _).alloc (.cells #[.bool false,.bool false] 4));have hal:=aeV [u,i] [false,false] _ _ 2 2 _ (fun y hy W cy vM=>by
    have WO:y.count≤20000∧y.good=0:=by
     rcases iw.1 hy with rfl | hy
     ·exact⟨a_ (Vj HP.o) eP,AW⟩
     rw[uP] at hy;subst hy;exact⟨a_ (FL HI.o) eP,WN⟩
    exact GH y cy W (CP WO.1) (fun hf=>by have:=(mJ WO.2).2;omega) vM) rF F6 (by simp) (by simp)
   simp only[dh] at hal;have WQ:(iX [u,i] [false,false]).2≠0→cH x.path v=([],false,14):=fun h=>by
    have he:(cH x.path v).2.2=(iX [u,i] [false,false]).2∧cH x.path v=([],false,(cH x.path v).2.2):=by
     unfold cH;rw[gh.o,ai (by simp),HP.o];simp only[HI.o,ni];rw[ar h];exact⟨rfl,rfl⟩
    have h14:=aeL cJ.o (by rw[he.1];exact h);rw[he.2,h14]
   have WR:=aa WQ;obtain⟨⟨ab,ae⟩,AA⟩:∃r,iX [u,i] [false,false]=r:=⟨_,rfl⟩;rw[AA] at hal WR;have qw:=aa hal;have Kj:=aa AA;have bR:=aa (bz.o.trans Dd);clear hal AA rF F6 xe Dd AW WN HR hp WQ;go_wp2_with fail;refine qw.o.mono ?_;rintro e w4 ⟨base,A4,c4,rfl,hb4,hr4,hg4⟩;dsimp only at hr4 ⊢;have bC:=aa (bR.o.trans hg4);have au:=aa (a_ bR.o.size hb4);have cN:=aa hr4;clear hg4 hb4 hr4 FM hli Az;by_cases he:ae=0
   ·subst he;go_wp2_with fail;go_ret3;rw[show cH x.path v=(ab,true,0) by unfold cH;rw[gh.o,ai (by simp),HP.o];simp only[HI.o,ni,Kj.o];rfl];exact⟨base,A4,c4,rfl,au.o,cN.o,bC.o⟩
   go_wp2_with fail;go_ret3;rw[WR.o he];exact OL bC.o
  go_wp2_with fail;go_ret3;rw[show cH x.path v=([],false,0) by unfold cH;rw[gh.o,ai (by simp),hp]];exact OL bz.o
 go_wp2_with fail;go_ret3;rw[show cH x.path v=([],false,ke) by unfold cH;rw[gh.o,ar h0]];exact OL aN.o
end
section
open Go.RowKit
theorem xD:∀(a b:List UInt8),Op.bytesLess a b=cD a b
 | [],[]=>by simp[cD,Lib.compareBytes,Op.bytesLess]
 | [],_::_=>by simp[cD,Lib.compareBytes,Op.bytesLess]
 | _::_,[]=>by simp[cD,Lib.compareBytes,Op.bytesLess]
 | x::a,y::b=>by
  have ih:=xD a b;unfold cD at ih ⊢;rw[Lib.compareBytes];unfold Op.bytesLess;by_cases h1:x<y
  ·simp[h1]
  by_cases h2:y<x
  ·have h3:¬ x=y:=fun e=>by subst e;exact h1 h2
   simp[h1,h2,h3]
  have h3:x=y:=by
   have:=UInt8.not_lt.1 h1;have:=UInt8.not_lt.1 h2;exact UInt8.le_antisymm ‹x≤y› ‹y≤x›
  subst h3;simpa [h1] using ih
theorem WS(l:List UInt8):(⟨l.toArray⟩:ByteArray).toList=l:=by rw[toList_data]
theorem PV{keys:List (List UInt8)}(h:eQ keys)(k:List UInt8){j:Nat}(hj:j<keys.length):eI (keys.take (j+1)) k=if cD keys[j] k=true then j+1 else eI (keys.take j) k:=by
 have e:keys.take (j+1)=keys.take j++[keys[j]]:=by rw[Cm,bN hj];rfl
 split
 ·rename_i hl;unfold eI;have hall:∀x∈keys.take (j+1),cD x k=true:=fun x hx=>by
   obtain⟨i,hi,rfl⟩:=kH hx;rw[eD] at hi;rw[Cb];rcases dH i j with hij | hij
   ·exact vD _ _ _ (h.lt hij hj) hl
   have:i=j:=by omega
   subst this;exact hl
  rw[List.countP_eq_length.2 hall,eD];omega
 rename_i hl;unfold eI;rw[e,List.countP_append];simp[hl]
theorem DI{ag:List V}(h:eQ (iZ ag)){j:Nat}(hj:j<ag.length){k:List UInt8}(e:(bt ag[j]).1=k):iM ag k=j∧jg ag k=true:=by
 have hF:jg ag k=true:=by rw[Gj,Kn h];exact jx.2 ⟨ag[j],aY hj,e⟩
 refine⟨?_,hF⟩;have h1:=O3 (by rw[Gj] at hF;exact hF);rw[Ko];have hl:kN (iZ ag) k<(iZ ag).length:=(kE.1 h1).1;rw[bN hl] at h1;injection h1 with h1;exact h.inj hl (by rw[cY];exact hj) (by rw[h1,jb,e])
theorem aeY{ag:List V}(h:eQ (iZ ag)){k:List UInt8}(e:∀i (hi:i<ag.length),(bt ag[i]).1≠k):jg ag k=false:=by
 rcases uU (jg ag k) with hF | hF
 ·rw[Gj,Kn h] at hF;obtain⟨d,hd,hk⟩:=jx.1 hF;obtain⟨i,hi,rfl⟩:=kH hd;exact absurd hk (e i hi)
 exact hF
theorem eu.bytes{d:V}(h:eu d):d.formed=true→d.bytes.length≤140737488355328:=fun _=>by
 obtain⟨i,-,-,-,hg,-⟩:=h.id;have:=(mJ hg).2;omega
theorem GJ(nm:ByteArray)(ag:List V)(dA xA:Option Addr)(dc xn xc:Nat)(k:List UInt8)(w:World)(hd:InL w dA dc ag)(hok:∀d∈ag,eu d)(hr:eQ (iZ ag))(hl:ag.length≤1000000) :
 Calls prog 70 #[.agg #[.string nm,.slice dA ag.length dc,.slice xA xn xc],.string ⟨k.toArray⟩] w fun e w'=>e=.returned (.tuple #[.int .i64 (iM ag k),.bool (jg ag k)])∧Grow w w':=by
 have HD:=aa hd;have cJ:=aa hok;have HR:=aa hr;have HL:=aa hl;have HB:=aa (aH w 48 #[.string nm,.slice dA ag.length dc,.slice xA xn xc]);have HG:=aa ((ah w).alloc (.cells #[.string nm,.slice dA ag.length dc,.slice xA xn xc] 48));obtain⟨kS,qG⟩:∃s,(⟨k.toArray⟩:ByteArray)=s:=⟨_,rfl⟩;have DJ:=aa (show kS.toList=k by rw[← qG];exact WS k);rw[qG];have fq:=HB.o.cell;clear hd hok hr hl qG;go_enter func70,ntmps70;go_wp2_with fail;clear fq;go_loopg [6,7] (ag.length+1) (fun gk n i wr=>∃j:Nat,j≤ag.length∧gk+j=ag.length+1∧i=.int .i64 j∧n=.int .i64 (eI ((iZ ag).take j) k:Nat)∧(∀i (hi:i<ag.length),i<j→(bt ag[i]).1≠k)∧Grow w wr∧Blk wr w.heap.size 48 #[.string nm,.slice dA ag.length dc,.slice xA xn xc])
 exact⟨0,aS _,rfl,rfl,by simp[eI],fun _ _ h=>absurd h (by omega),HG.o,HB.o⟩;obtain⟨j,hj,hg,rfl,rfl,hne,hgr,hb⟩:=hrel;obtain⟨gk',rfl⟩:=bP gk (by omega);have hl0:=HL.o;have HN:=aa hne;have aO:=aa hgr;have qE:=aa hb;have fq:=hb.cell;obtain⟨N,hN⟩:∃N,eI ((iZ ag).take j) k=N:=⟨_,rfl⟩;rw[hN];have kA:=aa hN;clear hne hb hN;by_cases hlt:j<ag.length
 ·obtain⟨bk,o,x,ha,hbk,e0,e1,e2,e3,e4,hx⟩:=(HD.o.grow hgr).fJ j hlt;dsimp only[kf] at ha;subst ha;have oI:=cJ.o ag[j] (aY hlt);have ue:=aa (PV HR.o k (j:=j) (by rw[cY];exact hlt));have HK:=aa (DG ag[j] x wr oI.count oI.bytes hx);unfold t_ at HK;obtain⟨q,hq⟩:∃q,(bt ag[j]).1=q:=⟨_,rfl⟩;obtain⟨qS,PW⟩:∃s,(⟨(bt ag[j]).1.toArray⟩:ByteArray)=s:=⟨_,rfl⟩;rw[PW] at HK;have KX:=aa (show qS.toList=q by rw[← PW,WS,hq]);have HQ:=aa hq;clear oI hx hgr hq PW;go_wp2_with fail;refine HK.o.mono ?_;rintro e w2 ⟨rfl,hg2⟩;have HG2:=aa (aO.o.trans hg2);have aG:=aa (qE.o.grow hg2);clear hg2 e0 e1 e2 e3 e4 fq;by_cases he:q=k
  ·have ot:(qS.toList==kS.toList)=true:=by rw[KX.o,DJ.o,he];simp
   have HE:=aa he;clear he;go_wp2_with fail;go_ret2;obtain⟨r1,r2⟩:=DI HR.o hlt (HQ.o.trans HE.o);rw[r1,r2];exact⟨rfl,HG2.o⟩
  have ot:(qS.toList==kS.toList)=false:=by rw[KX.o,DJ.o];simpa using he
  have HE:=aa he;clear he;have nk:∀i (hi:i<ag.length),i<j+1→(bt ag[i]).1≠k:=fun i hi hij=>by
   by_cases ie:i=j
   ·subst ie;rw[HQ.o];exact HE.o
   exact HN.o i hi (by omega)
  have WT:=aa nk;clear nk;by_cases hls:cD q k=true
  ·have hl2:Op.bytesLess qS.toList kS.toList=true:=by rw[xD,KX.o,DJ.o];exact hls
   have lK:=aa hls;clear hls;go_wp2_with fail;go_roundg gk';refine⟨j+1,by omega,by omega,by go_num,?_,WT.o,HG2.o,aG.o⟩;rw[ue.o];simp only[jb,HQ.o];rw[ar lK.o];go_num;omega
  have hl2:Op.bytesLess qS.toList kS.toList=false:=by rw[xD,KX.o,DJ.o];simpa using hls
  have lK:=aa hls;clear hls;go_wp2_with fail;go_roundg gk';refine⟨j+1,by omega,by omega,by go_num,?_,WT.o,HG2.o,aG.o⟩;rw[ue.o];simp only[jb,HQ.o];rw[ai lK.o,kA.o];omega
 have hjl:j=ag.length:=by omega
 subst hjl;have hF:=aeY HR.o fun i hi=>HN.o i hi hi
 have hN:iM ag k=N:=by
  rw[Ko,Gh HR.o,← kA.o,pV (by rw[cY];exact av _)]
 have HF:=aa hF;have wX:=aa hN;clear hF hN hgr;go_wp2_with fail;go_ret2;rw[HF.o,wX.o];exact⟨rfl,aO.o⟩
end
section
open Go.RowKit
theorem WU(n cap mb:Nat)(A:Option Addr)(el:Nat→Cc)(s:ByteArray)(w:World)(hn:n≤140737488355328)(hrow:wN w A 3 n (fun j=>(el j).cells))(h0:w.cell? ⟨mb,0,none⟩=some (.slice A n cap))(h2:w.cell? ⟨mb,2,none⟩=some (.string s))(hmb:mb<w.heap.size) :
 Calls prog 115 #[.pointer (some ⟨mb,0,none⟩)] w fun e w'=>e=.returned (.tuple #[.int .i64 (jS (qx (fun j=>(el j).nm) s) n:Nat),.bool (jB (qx (fun j=>(el j).nm) s) n)])∧Grow w w':=by
 have aC:=aa (fun w1 (h:Grow w w1)=>abq n (qx (fun j=>(el j).nm) s) el A cap (.string s) w1 hn (hrow.grow h) (fun j hj w' hg=>adr (el j) s w'));have oJ:=aa hmb;obtain⟨RN,GK⟩:∃R,jS (qx (fun j=>(el j).nm) s) n=R:=⟨_,rfl⟩;obtain⟨RF,WV⟩:∃R,jB (qx (fun j=>(el j).nm) s) n=R:=⟨_,rfl⟩;rw[GK,WV] at aC ⊢;clear hrow GK WV;go_enter func115,ntmps115;go_wp2_with fail;refine dN ?_;refine dO (S:=fun w'=>Grow w w'∧w'.cell? ⟨mb,0,none⟩=some (.slice A n cap)∧w'.cell? ⟨mb,2,none⟩=some (.string s)) (by kernel_rfl) (⟨(ah w).drew,h0,h2⟩) (fun hHeld=>?_);refine gW 0 ?_;refine gW 1 ?_;refine gW 2 ?_;refine gW 3 ?_;refine gW 4 ?_;refine gW 5 ?_;refine gW 6 ?_;refine gW 7 ?_;refine gW 8 ?_;refine gW 9 ?_;refine aR 10 (fun K hK=>?_);go_simp;go_at_call 162
 refine(aC.o _ hHeld.1).mono ?_;rintro ee w3 ⟨rfl,hg3⟩;refine aV hK (⟨hHeld.1.trans hg3,(hg3.below.cell (p:=⟨mb,0,none⟩) (cU oJ.o hHeld.1.size)).trans hHeld.2.1,(hg3.below.cell (p:=⟨mb,2,none⟩) (cU oJ.o hHeld.1.size)).trans hHeld.2.2⟩) (fun hHeld=>?_);clear hK K;refine aj 11 ?_;refine aj 12 ?_;refine aj 13 ?_;refine aj 14 ?_;refine cz ?_;go_wp2_with fail;go_ret2;exact⟨rfl,hHeld.1⟩
end
section
open Go.RowKit
theorem aeZ(n cap mb gb o:Nat)(el:Nat→Cc)(s:ByteArray)(w:World)(hn:n≤140737488355328)(hrow:wN w (some ⟨gb,o,none⟩) 3 n (fun j=>(el j).cells))(h0:w.cell? ⟨mb,0,none⟩=some (.slice (some ⟨gb,o,none⟩) n cap))(h2:w.cell? ⟨mb,2,none⟩=some (.string s))(hmb:mb<w.heap.size)(hf:jB (qx (fun j=>(el j).nm) s) n=true) :
 Calls prog 117 #[.pointer (some ⟨mb,0,none⟩)] w fun e w'=>e=.returned (.pointer (some ⟨gb,o+jS (qx (fun j=>(el j).nm) s) n*3,none⟩))∧Grow w w':=by
 have mS:=aa (WU n cap mb (some ⟨gb,o,none⟩) el s w hn hrow h0 h2 hmb);have hlt:jS (qx (fun j=>(el j).nm) s) n<n:=by
  unfold jB at hf;simp only[gV,iy] at hf;exact hf.1
 rw[hf] at mS;obtain⟨RN,GK⟩:∃R,jS (qx (fun j=>(el j).nm) s) n=R:=⟨_,rfl⟩;rw[GK] at mS hlt ⊢;have HM:=aa (fun w=>Af 5 w);have H0:=aa (fun(w1:World) (h:Grow w w1)=>(h.below.cell (p:=⟨mb,0,none⟩) hmb).trans h0);clear hrow GK hf h0 h2;go_enter func117,ntmps117;go_wp2_with fail;refine mS.o.mono ?_;rintro e w1 ⟨rfl,hg⟩;have HG:=aa hg;have hm0:=H0.o w1 hg;clear hg;go_wp2_with fail;refine(HM.o w1).mono ?_;rintro e w2 ⟨rfl,rfl⟩;have hi0:(0:Int)≤(RN:Int):=by omega
 have hi1:(RN:Int)<(n:Int):=by omega
 go_wp2_with fail;go_ret;exact⟨rfl,HG.o⟩
end

section
open Go.RowKit
abbrev AY(A:Option Addr)(n cap:Nat)(d:Int)(c i p:ByteArray)(u:Bool)(k l h x:Cv)(qn:Int):Array Value:=
 #[.slice A n cap,.int .i64 d,.string c,.string i,.string p,.bool u,.int .i64 k.k,.int .u64 k.n,.slice k.aB k.nB k.cB,.slice k.aL k.nL k.cL,.slice k.aF k.nF k.cF,
  .int .i64 l.k,.int .u64 l.n,.slice l.aB l.nB l.cB,.slice l.aL l.nL l.cL,.slice l.aF l.nF l.cF,.int .i64 h.k,.int .u64 h.n,.slice h.aB h.nB h.cB,.slice h.aL h.nL h.cL,.slice h.aF h.nF h.cF,
  .int .i64 x.k,.int .u64 x.n,.slice x.aB x.nB x.cB,.slice x.aL x.nL x.cL,.slice x.aF x.nF x.cF,.int .i64 qn,.int .i64 0,.int .i64 0,.slice none 0 0,.int .i64 0]
structure fO (w:World) (B mb:Nat) (A:Option Addr) (cap:Nat) (es:List Cc) (st:List Co) (q:Rq) (ck cl ch cx:Cv):Prop where
 lo:B≤mb
 own:Own w B A cap es st
 blk:Blk w mb 96 (AY A st.length cap q.bp q.aD q.index q.path q.unique ck cl ch cx q.n)
 key:eG w B q.key ck
 low:eG w B q.low cl
 high:eG w B q.high ch
 doc:eG w B q.doc cx
section
variable {w:World} {B mb cap:Nat} {A:Option Addr} {es:List Cc} {st:List Co} {q:Rq} {ck cl ch cx:Cv}
theorem fO.lt(h:fO w B mb A cap es st q ck cl ch cx):mb<w.heap.size:=h.blk.lt
theorem fO.le(h:fO w B mb A cap es st q ck cl ch cx):B≤w.heap.size:=a_ h.lo (pk h.lt)
theorem fO.grow{w':World}(h:fO w B mb A cap es st q ck cl ch cx)(hg:Grow w w'):fO w' B mb A cap es st q ck cl ch cx:=
 ⟨h.lo,h.own.grow h.le hg,h.blk.grow hg,h.key.below hg.below h.le (av _),h.low.below hg.below h.le (av _),h.high.below hg.below h.le (av _),h.doc.below hg.below h.le (av _)⟩
theorem fO.el(h:fO w B mb A cap es st q ck cl ch cx):es.length=st.length:=h.own.two.1
theorem fO.oz(h:fO w B mb A cap es st q ck cl ch cx):(fun j=>(es.getD j Cc.zero).nm)=fun j=>(bh st).getD j ⟨#[]⟩:=by
 funext j;rw[jN,jN,qX];by_cases hj:j<st.length
 ·have hj':j<es.length:=by rw[h.el];exact hj
  rw[bN hj,bN hj'];exact(h.own.two.at_ hj' hj).nm
 have hel:=h.el;rw[EK (show es.length≤j by omega),EK (show st.length≤j by omega)];rfl
theorem fO.PX(h:fO w B mb A cap es st q ck cl ch cx):wN w A 3 st.length (fun j=>(es.getD j Cc.zero).cells):=fun j hj=>by
 have hj':j<es.length:=by rw[h.el];exact hj
 have hr:=ku (S:=fun _=>False) h.own.row (fun _ _ h=>h);obtain⟨bk,o,e,hc⟩:=hr.2 (by omega);have hc0:=hc 0 _ (bN (by rw[Vr];omega));refine⟨bk,o,e,hc0.2.1,fun i v hi=>?_⟩;have h3:i<3:=by
  rcases dH i 3 with h3 | h3
  ·exact h3
  rw[uL (by simpa using h3)] at hi;cases hi
 have hget:es.getD j Cc.zero=es[j]:=by rw[jN,bN hj'];rfl
 change (es.getD j Cc.zero).cells[i]?=some v at hi;rw[hget] at hi;have:=hc (j*3+i) v (by rw[dw,ow _ 3 (fun _=>rfl) es j i h3 es[j] (bN hj')];rw[pg];exact hi);rw[← lh] at this;exact this.1
theorem fO.short{N:Nat}(h:ed N st):st.length≤140737488355328:=a_ h.n (by omega)
theorem ae0(h:fO w B mb A cap es st q ck cl ch cx)(hs:st.length≤140737488355328) :
 Calls prog 115 #[.pointer (some ⟨mb,0,none⟩)] w fun e w'=>e=.returned (.tuple #[.int .i64 (bX (bh st) q.aD:Nat),.bool (cQ (bh st) q.aD)])∧Grow w w':=by
 have h0:w.cell? ⟨mb,0,none⟩=some (.slice A st.length cap):=by rw[h.blk.cell];rfl
 have h2:w.cell? ⟨mb,2,none⟩=some (.string q.aD):=by rw[h.blk.cell];rfl
 have:=WU st.length cap mb A (fun j=>es.getD j Cc.zero) q.aD w hs h.PX h0 h2 h.lt;rw[h.oz] at this;unfold bX cQ;rw[cY];exact this
theorem ae1(h:fO w B mb A cap es st q ck cl ch cx)(hs:st.length≤140737488355328)(hf:cQ (bh st) q.aD=true){gb:Nat}(hA:A=some ⟨gb,0,none⟩) :
 Calls prog 117 #[.pointer (some ⟨mb,0,none⟩)] w fun e w'=>e=.returned (.pointer (some ⟨gb,bX (bh st) q.aD*3,none⟩))∧Grow w w':=by
 subst hA;have h0:w.cell? ⟨mb,0,none⟩=some (.slice (some ⟨gb,0,none⟩) st.length cap):=by rw[h.blk.cell];rfl
 have h2:w.cell? ⟨mb,2,none⟩=some (.string q.aD):=by rw[h.blk.cell];rfl
 have:=aeZ st.length cap mb gb 0 (fun j=>es.getD j Cc.zero) q.aD w hs h.PX h0 h2 h.lt (by
  rw[h.oz];unfold cQ at hf;rw[cY] at hf;exact hf)
 rw[h.oz,dg] at this;unfold bX;rw[cY];exact this
theorem fO.gb(h:fO w B mb A cap es st q ck cl ch cx)(hf:cQ (bh st) q.aD=true):∃gb,A=some ⟨gb,0,none⟩∧B≤gb∧gb<w.heap.size∧gb≠mb:=by
 have hl:=(nJ hf).2.2.2;obtain⟨g,cur,e,hb,hg,-⟩:=mP h.own.row (by omega);refine⟨g,e,hb,(pn.1 hg).1,fun e'=>?_⟩;exact fH h.own.row h.blk (by decide) (by rw[e,← e'];rfl)
theorem fO.co(h:fO w B mb A cap es st q ck cl ch cx)(hf:cQ (bh st) q.aD=true){gb:Nat}(hA:A=some ⟨gb,0,none⟩):∃e,es[bX (bh st) q.aD]?=some e∧iY w B e (bH st q.aD) ∧
 (∀i v,e.cells[i]?=some v→w.cell? ⟨gb,bX (bh st) q.aD*3+i,none⟩=some v):=by
 obtain⟨h1,-,-,hl⟩:=nJ hf;have hl':bX (bh st) q.aD<es.length:=by rw[h.el];exact hl
 refine⟨es[bX (bh st) q.aD],bN hl',h.own.two.2 _ _ _ (bN hl') h1,fun i v hi=>?_⟩;obtain⟨bk,o,e,-,hc⟩:=h.PX _ hl;rw[hA] at e;injection e with e;injection e with e1 e2;subst e1 e2;have hget:es.getD (bX (bh st) q.aD) Cc.zero=es[bX (bh st) q.aD]:=by rw[jN,bN hl'];rfl
 have:=hc i v (by dsimp only;rw[hget];exact hi);rwa [dg] at this
end
def qH(w:World)(B mb:Nat)(r:ov)(e:Ending)(w':World):Prop:=
 Below B w w'∧match r with
  | .error k=>e=.panicked (thrown k)
  | .ok (st',n,ag)=>e=.returned (.tuple #[])∧mb<w'.heap.size∧∃A cap dA dc,w'.cell? ⟨mb,0,none⟩=some (.slice A st'.length cap)∧dR w' A cap st' ∧
   w'.cell? ⟨mb,28,none⟩=some (.int .i64 n)∧w'.cell? ⟨mb,29,none⟩=some (.slice dA ag.length dc)∧InL w' dA dc ag
theorem qH.err{w w':World}{B mb:Nat}{r:ov}{k:Int}(hb:Below B w w')(hr:r=.error k):qH w B mb r (.panicked (thrown k)) w':=by subst hr;exact⟨hb,rfl⟩
theorem qH.ok{w w':World}{B mb:Nat}{r:ov}{st':List Co}{n:Int}{ag:List V}(hb:Below B w w')(hr:r=.ok (st',n,ag))(hm:mb<w'.heap.size){A dA:Option Addr}{cap dc:Nat}(h0:w'.cell? ⟨mb,0,none⟩=some (.slice A st'.length cap))(hs:dR w' A cap st')
 (KY:w'.cell? ⟨mb,28,none⟩=some (.int .i64 n)) (PY:w'.cell? ⟨mb,29,none⟩=some (.slice dA ag.length dc)) (hd:InL w' dA dc ag):qH w B mb r (.returned (.tuple #[])) w':=by
 subst hr;exact⟨hb,rfl,hm,A,cap,dA,dc,h0,hs,KY,PY,hd⟩
theorem InL.nil(w:World):InL w none 0 []:=by
 unfold InL In;rw[IsV];exact⟨rfl,rfl,rfl,rfl,rfl,by decide,by decide,by decide,by simp,by simp,by simp,by simp,by simp,by simp,⟨rfl,fun h=>by simp at h⟩,fun i hi=>by simp at hi,fun i hi=>by simp at hi⟩
end
section
open Go.RowKit
def WW(w:World)(S:Nat→Prop):Prop:=∀q,S q→∃T cs,Blk w q T cs∧T≠27∧T≠64
theorem iY.far{S:Nat→Prop}{w:World}{B:Nat}{e:Cc}{c:Co}(h:iY w B e c)(hT:WW w S):(∀g,bM e.dA=some g→¬ S g)∧(∀g,bM e.xA=some g→¬ S g):=by
 obtain⟨cs,h1,h2⟩:=h.ag;refine⟨fun g hg hs=>?_,fun g hg hs=>?_⟩
 ·obtain⟨T,ds,hb,t1,t2⟩:=hT g hs;exact fH h1 hb (fun e=>t1 e.symm) hg
 obtain⟨T,ds,hb,t1,t2⟩:=hT g hs;exact fH h.aq hb (fun e=>t2 e.symm) hg
theorem iY.nj{w:World}{B:Nat}{e:Cc}{c:Co}(h:iY w B e c)(hB:B≤w.heap.size)(hl:c.ag.length≤140737488355328):rK w e c:=
 (h.r (S:=fun _=>False) hB (fun _ h=>h.elim) (fun _ _ h=>h) (fun _ _ h=>h) hl).mono jW
theorem iY.grow{w w':World}{B:Nat}{e:Cc}{c:Co}(h:iY w B e c)(hB:B≤w.heap.size)(hg:Grow w w'):iY w' B e c:=h.keep (jh (S:=fun _=>False) hg) hB (fun _ h=>h.elim) (fun _ _ h=>h) (fun _ _ h=>h)
theorem ae2{S:Nat→Prop}{w w':World}{B cap':Nat}{A':Option Addr}{es':List Cc}{st':List Co}(two:Two (iY w B) es' st')(hk:Kept S w w')(hB:B≤w.heap.size)(hs:∀q,S q→B≤q)(hT:WW w S)(hl:∀c∈st',c.ag.length≤140737488355328)
 (hrow:w'.ownsRow B 48 3 (.slice A' st'.length cap') st'.length (dw es')):dR w' A' cap' st':=by
 refine⟨(nH hrow).1,es',⟨two.1,fun j e c he hc=>?_⟩,(ku (S:=fun _=>False) hrow (fun _ _ h=>h)).mono jW⟩;have ho:=two.2 j e c he hc;have hf:=ho.far hT;exact(ho.keep hk hB hs hf.1 hf.2).nj (a_ hB hk.size) (hl c (yn hc))
theorem ae3{S:Nat→Prop}{w w':World}{B cap p:Nat}{A:Option Addr}{es:List Cc}{st:List Co}{e':Cc}{c':Co}(h:Own w B A cap es st)(hk:Kept S w w')(hB:B≤w.heap.size)(hs:∀q,S q→B≤q)
 (ho:∀(j:Nat) (e:Cc),j≠p→es[j]?=some e→(∀g,bM e.dA=some g→¬ S g)∧(∀g,bM e.xA=some g→¬ S g)) (hl:∀c∈st,c.ag.length≤140737488355328) (hp:rK w' e' c')
 (hrow:w'.ownsRow B 48 3 (.slice A st.length cap) st.length (dw (es.set p e'))):dR w' A cap (st.set p c'):=by
 refine⟨by rw[j5];exact(nH hrow).1,es.set p e',Two.set' h.two.1 p (fun j e c hj he hc=>?_) hp,?_⟩
 ·have vN:=h.two.2 j e c he hc;have hf:=ho j e hj he;exact(vN.keep hk hB hs hf.1 hf.2).nj (a_ hB hk.size) (hl c (yn hc))
 rw[j5];exact(ku (S:=fun _=>False) hrow (fun _ _ h=>h)).mono jW
section
variable {w:World} {B mb cap:Nat} {A:Option Addr} {es:List Cc} {st:List Co} {q:Rq} {ck cl ch cx:Cv}
theorem fO.GL(h:fO w B mb A cap es st q ck cl ch cx):bM A≠some mb:=fH h.own.row h.blk (by decide)
end
theorem ed.dl{N:Nat}{st:List Co}(h:ed N st)(hN:N≤1000000):∀c∈st,c.ag.length≤140737488355328:=fun c hc=>by have:=(h.co c hc).nd;omega
end
section
open Go.RowKit
section
variable {w:World} {B mb cap gb P:Nat} {A:Option Addr} {es:List Cc} {st:List Co} {q:Rq} {ck cl ch cx:Cv} {e:Cc} {c:Co}
theorem iY.KC(aW:iY w B e c)(hB:B≤w.heap.size)(hl:c.ag.length≤140737488355328):InL w e.dA e.dc c.ag:=(aW.nj hB hl).ag
end
def Sx(mb gb:Nat)(R:Option Addr)(q:Nat):Prop:=q=mb∨q=gb∨bM R=some q
end
section
open Go.RowKit
def DK(e:Cc)(R:Option Addr):Prop:=R=none∨R=e.dA∨R=e.xA
section
variable {w:World} {B mb cap gb P:Nat} {A:Option Addr} {es:List Cc} {st:List Co} {q:Rq} {ck cl ch cx:Cv} {e:Cc} {c:Co} {R:Option Addr}
theorem DK.le(hR:DK e R)(aW:iY w B e c):∀g,bM R=some g→B≤g∧g<w.heap.size:=by
 intro g hg;obtain⟨cs,h1,h2⟩:=aW.ag;rcases hR with rfl | rfl | rfl
 ·cases hg
 ·exact bO h1 g (by rw[cE];exact hg)
 exact bO aW.aq g (by rw[cE];exact hg)
theorem DK.ae4(hR:DK e R)(aW:iY w B e c){k:Nat}{T:TypeId}{cs:Array Value}(hb:Blk w k T cs)(h1:T≠27)(h2:T≠64):bM R≠some k:=by
 obtain⟨ds,r1,r2⟩:=aW.ag;rcases hR with rfl | rfl | rfl
 ·intro h;cases h
 ·exact fH r1 hb (fun e=>h1 e.symm)
 exact fH aW.aq hb (fun e=>h2 e.symm)
theorem fO.GM(h:fO w B mb A cap es st q ck cl ch cx)(hA:A=some ⟨gb,0,none⟩)(hn:0<st.length):∃cur,Blk w gb 48 cur∧B≤gb:=by
 obtain⟨g,cur,e,hb,hg,-⟩:=mP h.own.row hn;rw[hA] at e
 cases e
 exact⟨cur,hg,hb⟩
theorem ae5(h:fO w B mb A cap es st q ck cl ch cx)(hA:A=some ⟨gb,0,none⟩)(he:es[P]?=some e)(aW:iY w B e c)(hP:P<st.length)(hR:DK e R){w5:World}{e':Cc}{c':Co}(hk:Kept (Sx mb gb R) w w5)(hl:∀c∈st,c.ag.length≤140737488355328)(hp:rK w5 e' c')
 (hrow:w5.ownsRow B 48 3 (.slice A st.length cap) st.length (dw (es.set P e'))):dR w5 A cap (st.set P c'):=by
 obtain⟨cur,hgb,xe⟩:=h.GM hA (by omega);refine ae3 h.own hk h.le ?_ (fun j e2 hj ot=>?_) hl hp hrow
 ·rintro k (rfl | rfl | hk)
  ·exact h.lo
  ·exact xe
  exact(hR.le aW k hk).1
 have Fw:j<st.length:=by rw[← h.el];exact(kE.1 ot).1
 have vN:=h.own.two.2 j e2 st[j] ot (bN Fw);obtain⟨ds,r1,r2⟩:=vN.ag;obtain⟨ds',s1,s2⟩:=aW.ag;refine⟨fun g hg hs=>?_,fun g hg hs=>?_⟩
 ·rcases hs with rfl | rfl | hs
  ·exact fH r1 h.blk (by decide) hg
  ·exact fH r1 hgb (by decide) hg
  rcases hR with rfl | rfl | rfl
  ·cases hs
  ·exact h.own.Gb j P e2 e ot he hj g hg hs
  exact Di r1 aW.aq (by decide) g hg hs
 rcases hs with rfl | rfl | hs
 ·exact fH vN.aq h.blk (by decide) hg
 ·exact fH vN.aq hgb (by decide) hg
 rcases hR with rfl | rfl | rfl
 ·cases hs
 ·exact Di vN.aq s1 (by decide) g hg hs
 exact h.own.Gc j P e2 e ot he hj g hg hs
theorem ae6(h:fO w B mb A cap es st q ck cl ch cx)(hA:A=some ⟨gb,0,none⟩)(he:es[P]?=some e)(aW:iY w B e c)(hP:P<st.length)(hR:DK e R){w4:World}(hk:Kept (fun k=>k=mb∨bM R=some k) w w4){k:Nat}{v:Value}{e':Cc}(hk3:k<3)(fG:e'.cells.toList=e.cells.toList.set k v) :
 (w4.setCell ⟨gb,P*3+k,none⟩ v).ownsRow B 48 3 (.slice A st.length cap) st.length (dw (es.set P e')):=by
 obtain⟨cur,hgb,xe⟩:=h.GM hA (by omega);have hel:=h.el;obtain⟨hPe,xw⟩:=kE.1 he;have h4:=gD h.own.row hk (fun g hg hs=>by
  rw[hA] at hg
  cases hg
  rcases hs with hs | hs
  ·exact h.GL (by rw[hA,← hs];rfl)
  exact hR.ae4 aW hgb (by decide) (by decide) hs)
 subst hA;exact OV h4 hPe hel hk3 (by rw[xw];exact fG)
theorem ae7{w4 w5:World}{k:Nat}{v:Value}(hk:Kept (fun k=>k=mb∨bM R=some k) w w4)(h5:w5=w4.setCell ⟨gb,k,none⟩ v):Kept (Sx mb gb R) w w5:=by
 subst h5;exact(hk.mono (fun q hq=>hq.elim (fun h=>.inl h) (fun h=>.inr (.inr h)))).set (p:=⟨gb,k,none⟩) (.inr (.inl rfl)) v
end
theorem ae8{w:World}{base g n c z D:Nat}{T:TypeId}{xs vs:List Value}(h:w.ownsRow base T z (.slice (some ⟨g,0,none⟩) n c) n xs)(hD:D<n)(hz:vs.length=z) :
 (w.setCells g (D*z) vs).ownsRow base T z (.slice (some ⟨g,0,none⟩) n c) n (xs.take (D*z)++vs++xs.drop ((D+1)*z)):=by
 obtain⟨g',cur,e,hb,hg,h1,h2,h3,ht,hl⟩:=mP h (by omega)
 cases e
 have hDz:D*z+z≤n*z:=by rw[← Ch];exact iu z hD
 have hnz:n*z≤cur.size:=by rw[h3];exact iu z h1
 obtain⟨cur',hg',hs',hl'⟩:=xE hg vs (o:=D*z) (by omega);have e1:(D+1)*z=D*z+z:=by rw[jM,ng]
 refine Gd hb hg' h1 h2 (by rw[hs',h3]) ?_ ?_
 ·rw[hl',List.take_append,pV (by simp[hz];omega),← ht,e1,List.drop_take,List.take_take,pW (by omega)];simp only[bD,eD,ye,pW (show D*z≤cur.size by omega),hz]
 rw[bD,bD,eD,iI,hl,hz,e1];omega
end
section
open Go.RowKit
section
variable {α:Type} (f:α→List Value) (z:Nat) (hz:∀x,(f x).length=z) (hp:0<z)
include hz hp
theorem ae9(l:List α)(j:Nat)(u:Value)(h:((l.map f).flatten)[j]?=some u):∃i k x,j=i*z+k∧k<z∧l[i]?=some x∧(f x)[k]?=some u:=by
 have hj:j<l.length*z:=by
  have:=(kE.1 h).1;rwa [De f z hz] at this
 have hd:z*(j / z)+j % z=j:=sM j z;have hk:j % z<z:=uT _ hp;have hi:j / z<l.length:=by rw[zR hp];exact hj
 refine⟨j / z,j % z,l[j / z],by rw[nW];exact hd.symm,hk,bN hi,?_⟩;rw[← ow f z hz l (j / z) (j % z) hk l[j / z] (bN hi),nW,hd];exact h
end
theorem ae_{C:Addr→Value→Prop}{k:Int}{n:Nat}{b:List UInt8}{l:List V}{f:List (ByteArray×V)}{c:Cv}(h:IsV C (.mk k n b l f) c)(i:Nat)(hil:i<l.length):∃bk o x,c.aL=some ⟨bk,o,none⟩∧kI C bk (o+i*5) x∧IsV C l[i] x:=by
 rw[IsV] at h;exact h.2.2.2.2.2.2.2.2.2.2.2.2.2.2.2.1 i hil
theorem PZ{C:Addr→Value→Prop}{A:Option Addr}{ag:List V}{cap:Nat}(h:IsV C (.mk 7 0 [] ag []) (kf A ag.length cap)) :
 ∃cs,Reads C 5 A ag.length (fD cs)∧Two (fun v c=>IsV C v c) ag cs:=by
 have hx:∀i,∃x:Cv,∀hi:i<ag.length,∃bk o,A=some ⟨bk,o,none⟩∧kI C bk (o+i*5) x∧IsV C ag[i] x:=fun i=>by
  by_cases hi:i<ag.length
  ·obtain⟨bk,o,x,h1,h2,h3⟩:=ae_ h i hi;exact⟨x,fun _=>⟨bk,o,h1,h2,h3⟩⟩
  exact⟨Cv.zero,fun hi'=>absurd hi' hi⟩
 obtain⟨x,hx⟩:=Classical.axiomOfChoice hx;have hget:∀i,i<ag.length→((List.range ag.length).map x)[i]?=some (x i):=fun i hi=>by
  rw[qX,List.getElem?_range hi];rfl
 refine⟨(List.range ag.length).map x,⟨by rw[adv];simp,fun hn=>?_⟩,by simp,fun i v c hv hc=>?_⟩
 ·obtain⟨bk,o,e,-,-⟩:=hx 0 hn;refine⟨bk,o,e,fun j u hu=>?_⟩;obtain⟨i,k,y,rfl,hk,hy,hu⟩:=ae9 _ 5 (fun _=>rfl) (by decide) _ j u hu;have hi:i<ag.length:=by
   have:=(kE.1 hy).1;simpa using this
  rw[hget i hi] at hy
  cases hy
  obtain⟨wK,o',e',h5,-⟩:=hx i hi;rw[e] at e'
  cases e'
  obtain⟨c0,c1,c2,c3,c4⟩:=h5;rcases k with _ | _ | _ | _ | _ | k
  ·cases hu;exact c0
  ·cases hu;exact c1
  ·cases hu;exact c2
  ·cases hu;exact c3
  ·cases hu;exact c4
  omega
 obtain⟨hi,rfl⟩:=kE.1 hv;rw[hget i hi] at hc
 cases hc
 obtain⟨bk,o,-,-,h3⟩:=hx i hi;exact h3
structure vO (w:World) (B:Nat) (A:Option Addr) (cap:Nat) (jT es:List Cc) (st:List Co) (j:Nat):Prop where
 row:w.ownsRow B 48 3 (.slice A st.length cap) st.length (dw es)
 len:es.length=st.length
 done:∀i a c,i<j→es[i]?=some a→st[i]?=some c→iY w B a c
 rest:∀i,j≤i→es[i]?=jT[i]?
 Gb:∀(i k:Nat) (a b:Cc),i<j→k<j→es[i]?=some a→es[k]?=some b→i≠k→∀g,bM a.dA=some g→bM b.dA≠some g
 Gc:∀(i k:Nat) (a b:Cc),i<j→k<j→es[i]?=some a→es[k]?=some b→i≠k→∀g,bM a.xA=some g→bM b.xA≠some g
section
variable {w W:World} {B cap j gb:Nat} {A:Option Addr} {jT es:List Cc} {st:List Co} {e':Cc} {c:Co}
theorem vO.start(h:w.ownsRow B 48 3 (.slice A st.length cap) st.length (dw es))(hl:es.length=st.length):vO w B A cap es es st 0:=
 ⟨h,hl,fun _ _ _ h=>absurd h (Nat.not_lt_zero _),fun _ _=>rfl,fun _ _ _ _ h=>absurd h (Nat.not_lt_zero _),fun _ _ _ _ h=>absurd h (Nat.not_lt_zero _)⟩
theorem vO.finish(h:vO w B A cap jT es st j)(hj:st.length≤j):Own w B A cap es st:=by
 have hlt:∀(i:Nat) (a:Cc),es[i]?=some a→i<j:=fun i a ha=>by
  have:=(kE.1 ha).1;have:=h.len;omega
 exact⟨h.row,⟨h.len,fun i a c ha hc=>h.done i a c (hlt i a ha) ha hc⟩,fun i k a b ha hb=>h.Gb i k a b (hlt i a ha) (hlt k b hb) ha hb,fun i k a b ha hb=>h.Gc i k a b (hlt i a ha) (hlt k b hb) ha hb⟩
theorem vO.step(h:vO w B A cap jT es st j)(hB:B≤w.heap.size)(hj:j<st.length)(hc:st[j]?=some c)(hA:A=some ⟨gb,0,none⟩)(hgb:B≤gb)(hk:Kept (fun k=>k=gb) w W)
 (hrow:W.ownsRow B 48 3 (.slice A st.length cap) st.length (dw (es.set j e'))) (aW:iY W B e' c) (hD:∀g,bM e'.dA=some g→w.heap.size≤g) (hX:∀g,bM e'.xA=some g→w.heap.size≤g):vO W B A cap jT (es.set j e') st (j+1):=by
 have hje:j<es.length:=by rw[h.len];exact hj
 have WX:bM A=some gb:=by rw[hA];rfl
 have hs:∀q,q=gb→B≤q:=fun q hq=>hq ▸ hgb
 have za:∀i,i≠j→(es.set j e')[i]?=es[i]?:=fun i hi=>List.getElem?_set_ne (sN hi)
 have hsj:(es.set j e')[j]?=some e':=by rw[List.getElem?_set_self hje]
 have hold:∀i a,i<j→es[i]?=some a→(∀g,bM a.dA=some g→g<w.heap.size)∧(∀g,bM a.xA=some g→g<w.heap.size)∧(∀g,bM a.dA=some g→¬ g=gb)∧(∀g,bM a.xA=some g→¬ g=gb):=fun i a hi ha=>by
  have hst:i<st.length:=by omega
  have ho:=h.done i a st[i] hi ha (bN hst);obtain⟨cs,r1,-⟩:=ho.ag;exact⟨fun g hg=>(bO r1 g (by rw[cE];exact hg)).2,fun g hg=>(bO ho.aq g (by rw[cE];exact hg)).2,
   fun g hg e=>Di r1 h.row (by decide) g hg (e ▸ WX),fun g hg e=>Di ho.aq h.row (by decide) g hg (e ▸ WX)⟩
 refine⟨hrow,by rw[j5];exact h.len,fun i a c' hi ha hc'=>?_,fun i hi=>by rw[za i (by omega)];exact h.rest i (by omega),fun i k a b hi hk ha hb hne g hg=>?_,fun i k a b hi hk ha hb hne g hg=>?_⟩
 ·by_cases hij:i=j
  ·subst hij;rw[hsj] at ha;rw[hc] at hc'
   cases ha
   cases hc'
   exact aW
  rw[za i hij] at ha;obtain⟨-,-,h1,h2⟩:=hold i a (by omega) ha;exact(h.done i a c' (by omega) ha hc').keep hk hB hs h1 h2
 ·by_cases hij:i=j
  ·subst hij;rw[hsj] at ha
   cases ha
   rw[za k (sN hne)] at hb;intro h2;have h3:=(hold k b (by omega) hb).1 g h2;have h4:=hD g hg;omega
  rw[za i hij] at ha;by_cases hkj:k=j
  ·subst hkj;rw[hsj] at hb
   cases hb
   intro h2;have h3:=(hold i a (by omega) ha).1 g hg;have h4:=hD g h2;omega
  rw[za k hkj] at hb;exact h.Gb i k a b (by omega) (by omega) ha hb hne g hg
 by_cases hij:i=j
 ·subst hij;rw[hsj] at ha
  cases ha
  rw[za k (sN hne)] at hb;intro h2;have h3:=(hold k b (by omega) hb).2.1 g h2;have h4:=hX g hg;omega
 rw[za i hij] at ha;by_cases hkj:k=j
 ·subst hkj;rw[hsj] at hb
  cases hb
  intro h2;have h3:=(hold i a (by omega) ha).2.1 g hg;have h4:=hX g h2;omega
 rw[za k hkj] at hb;exact h.Gc i k a b (by omega) (by omega) ha hb hne g hg
end
end
section
open Go.RowKit
theorem Reads.GN{C:Addr→Value→Prop}{z:Nat}{A:Option Addr}{n:Nat}{xs:List Value}(h:Reads C z A n xs)(k:Nat)(hk:k≤n):Reads C z A k (xs.take (k*z)):=by
 refine⟨by rw[eD,h.1];exact pW (iu z hk),fun hn=>?_⟩;obtain⟨bk,o,e,hc⟩:=h.2 (by omega);refine⟨bk,o,e,fun j u hu=>hc j u ?_⟩;rw[Cn] at hu;split at hu
 ·exact hu
 cases hu
theorem Reads.GP{C:Addr→Value→Prop}{z:Nat}{A:Option Addr}{n:Nat}{xs:List Value}(h:Reads C z A n xs)(k cap:Nat)(hk:k≤n)(hc:n≤cap):Reads C z (if cap=k then A else A.map (·.add (k*z))) (n-k) (xs.drop (k*z)):=by
 refine⟨by rw[iI,h.1,Nat.sub_mul],fun hn=>?_⟩;obtain⟨bk,o,rfl,hcell⟩:=h.2 (by omega);rw[ai (by omega)];refine⟨bk,o+k*z,by simp[add_lit],fun j u hu=>?_⟩;rw[wC] at hu;rw[lh];exact hcell _ u hu
section
variable {ops:Array Oper} {rest:List Oper} {Q:Exit→Act→World→Prop} {a:Act} {w0 w:World}
theorem uf(s x:Operand)(t e:TypeId)(z gi:Nat)(zv:Value)(ht:prog.underlying t=some (.slice e))(hi:(prog.info? e).map (fun i=>(i.zero,i.size,i.bytes))=some (some zv,z,gi))(hzs:zv.cells.size=z){d:Option Tmp}{tt:TypeId}{p:String}{af:Array Edge}
 {v:Value} {n:Nat} {xs:List Value} (hv:a.eval s=v) (hown:w.ownsRow w0.heap.size e z v n xs) {u:Value} {m:Nat} {news:List Value} (hx:a.eval x=u) (hs:Src prog z t u m news w) (hb:(n+m)*gi≤140737488355328) (h63:n+m≤maxLen) (hg0:Grow w0 w)
 (h:∀A c w',w'.ownsRow w0.heap.size e z (.slice A (n+m) c) (n+m) (xs++news)→Grow w0 w'→wpList prog ops Q rest (a.put d (.slice A (n+m) c)) w') :
 wpList prog ops Q (⟨d,.call { callee:=.builtin .append,args:=#[s,x],argTypes:=#[t,t] },tt,p,af,none⟩::rest) a w:=by
 obtain⟨i0,h0,h1,h2,h3⟩:=info_parts hi;exact sO rfl s x t t rfl w0.heap.size e i0 zv z gi ht h0 h1 h2 h3 hzs v n xs hv hown u m news hx hs hb h63 hg0.size (fun A c w' k1 k2 k3=>h A c w' k1 (hg0.grown k2 (fun k hk=>(bO hown k hk).1)))
theorem A_(s x:Operand)(t e:TypeId)(z gi:Nat)(zv:Value)(ht:prog.underlying t=some (.slice e))(hi:(prog.info? e).map (fun i=>(i.zero,i.size,i.bytes))=some (some zv,z,gi))(hzs:zv.cells.size=z){d:Option Tmp}{tt:TypeId}{p:String}{af:Array Edge}
 (hv:a.eval s=.slice none 0 0) {u:Value} {m:Nat} {news:List Value} (hx:a.eval x=u) (hs:Src prog z t u m news w) (hb:m*gi≤140737488355328) (h63:m≤maxLen) (hg0:Grow w0 w)
 (h:∀A c w',w'.ownsRow w0.heap.size e z (.slice A m c) m news→Grow w0 w'→wpList prog ops Q rest (a.put d (.slice A m c)) w') :
 wpList prog ops Q (⟨d,.call { callee:=.builtin .append,args:=#[s,x],argTypes:=#[t,t] },tt,p,af,none⟩::rest) a w:=
 uf s x t e z gi zv ht hi hzs hv (iH _ _ _ _) hx hs (by rw[dg];exact hb) (by omega) hg0 (fun A c w' k1 k2=>by
  rw[dg,mF] at k1;rw[dg];exact h A c w' k1 k2)
end
theorem WY{w:World}{A:Option Addr}{n:Nat}{cs:List Cv}(h:Reads (bE w 0 w.heap.size) 5 A n (fD cs))(i c:Nat)(hi:i≤n):Src prog 5 24 (.slice A i c) i (fD (cs.take i)) w:=by
 have hh:=ej (c:=c) lF (h.GN i hi) (fun u hu=>Dh cs u (yq hu));rwa [show (fD cs).take (i*5)=fD (cs.take i) from yR (fun e:Cv=>e.cells.toList) 5 (fun _=>rfl) cs i] at hh
theorem afa{w:World}{A:Option Addr}{n:Nat}{cs:List Cv}(h:Reads (bE w 0 w.heap.size) 5 A n (fD cs))(i c cap:Nat)(hi:i≤n)(hc:n≤cap):Src prog 5 24 (.slice (if cap=i then A else A.map (·.add (i*5))) (n-i) c) (n-i) (fD (cs.drop i)) w:=by
 have hh:=ej (c:=c) lF (h.GP i cap hi hc) (fun u hu=>Dh cs u (qY hu));rwa [show (fD cs).drop (i*5)=fD (cs.drop i) from tO (fun e:Cv=>e.cells.toList) 5 (fun _=>rfl) cs i] at hh
theorem WZ{A:Option Addr}{n cap i:Nat}(h1:i≤n)(h2:n≤cap)(w:World):(Instr.sliceAt 24 (.slice A n cap) none (some (.int .i64 (i:Int))) none).run prog w=.ok (.slice A i cap) w:=by
 have k1:(0:Int)≤(i:Int):=by omega
 have k2:(i:Int)≤(n:Int):=by omega
 have k3:(i:Int)≤(cap:Int):=by omega
 rcases A with _ | a<;>go_simp
theorem P4{A:Option Addr}{n cap i:Nat}(h1:i≤n)(h2:n≤cap):∃B,(∀w,(Instr.sliceAt 24 (.slice A n cap) (some (.int .i64 (i:Int))) none none).run prog w=.ok (.slice B (n-i) (cap-i)) w) ∧
 ∀(w:World) (c:Nat) (cs:List Cv),Reads (bE w 0 w.heap.size) 5 A n (fD cs)→Src prog 5 24 (.slice B (n-i) c) (n-i) (fD (cs.drop i)) w:=by
 have k1:(0:Int)≤(i:Int):=by omega
 have k2:(i:Int)≤(n:Int):=by omega
 have k3:(i:Int)≤(cap:Int):=by omega
 exact⟨if cap=i then A else A.map (·.add (i*5)),fun w=>by rcases A with _ | a<;>go_simp,fun w c cs h=>afa h i c cap h1 h2⟩
theorem P5{w:World}{g:Nat}(c:Cv)(hb:Blk w g 27 c.cells):Src prog 5 24 (.slice (some ⟨g,0,none⟩) 1 1) 1 c.cells.toList w:=
 Src.ofSlice _ lF ⟨g,0,none⟩ 1 1 _ rfl (fun j u hu=>by
  rw[add_lit,dg,hb.cell j,← hu,pg]) (fun u hu=>by
  simp only[iw,wD,wE] at hu;rcases hu with rfl | rfl | rfl | rfl | rfl<;>rfl)
theorem P6(a b:List Cv):fD (a++b)=fD a++fD b:=by unfold fD;rw[lZ,zP]
theorem W9{w:World}{base n c:Nat}{A:Option Addr}{cs:List Cv}{ag:List V}(h:w.ownsRow base 27 5 (.slice A n c) n (fD cs))(ht:Two (fun v x=>In w v x) ag cs)(hn:n=ag.length)(hl:ag.length≤140737488355328):InL w A c ag:=by
 subst hn;exact OU (dW jW (ku (S:=fun _=>False) h (fun _ _ h=>h))) ht (nH h).1 hl
theorem W_{w0 w:World}{base n c P q:Nat}{A:Option Addr}{cs:List Cv}{cx:Cv}{ag:List V}{d:V}(h:w.ownsRow base 27 5 (.slice A n c) n (fD (cs.take P)++cx.cells.toList++fD (cs.drop q)))(ht:Two (fun v x=>In w0 v x) ag cs)(hx:In w0 d cx)(hg:Grow w0 w)
 (hn:n=(ag.take P++d::ag.drop q).length) (hl:ag.length≤1000000):InL w A c (ag.take P++d::ag.drop q):=by
 refine W9 (base:=base) (cs:=cs.take P++cx::cs.drop q) ?_ ((ht.mono fun a b k=>py k hg).take P |>.append (Two.cons (hx.grow hg) ((ht.mono fun a b k=>py k hg).drop q))) hn ?_
 ·rw[P6,show cx::cs.drop q=[cx]++cs.drop q from rfl,P6,← mE];simpa [fD] using h
 rw[bD,aU,eD,iI];omega
theorem afb{w0 w:World}{base n c P q:Nat}{A:Option Addr}{cs:List Cv}{ag:List V}(h:w.ownsRow base 27 5 (.slice A n c) n (fD (cs.take P)++fD (cs.drop q)))(ht:Two (fun v x=>In w0 v x) ag cs)(hg:Grow w0 w)
 (hn:n=(ag.take P++ag.drop q).length) (hl:ag.length≤1000000):InL w A c (ag.take P++ag.drop q):=by
 refine W9 (base:=base) (cs:=cs.take P++cs.drop q) ?_ ((ht.mono fun a b k=>py k hg).take P |>.append ((ht.mono fun a b k=>py k hg).drop q)) hn ?_
 ·rw[P6];exact h
 rw[bD,eD,iI];omega
theorem afc:(prog.info? 48).map (·.size)=some 3:=by kernel_rfl
theorem Xa:(prog.info? 44).map (·.size)=some 1:=by kernel_rfl
theorem KZ{F:Func}{W:World}{i vb:Nat}{tmps cs:Array Value}(hF:F.results=#[ResultVar.cell i 48])(h2:tmps.getD i undef=.pointer (some ⟨vb,0,none⟩))(hs:cs.size=3)(hv:Blk W vb 48 cs) :
 (results F tmps).run prog W=.ok (.agg cs) W:=by
 have hl:=EJ (P:=prog) W vb 48 48 cs (0,0) _ hv underlying48 rfl (by rw[hs];exact afc);have h2':tmps[i]?.getD undef=.pointer (some ⟨vb,0,none⟩):=by simpa using h2
 simp[results,hF,h2',asAddr,hl]
theorem Xb{F:Func}{W:World}{i vb:Nat}{tmps cs:Array Value}(hF:F.results=#[ResultVar.cell i 44])(h2:tmps.getD i undef=.pointer (some ⟨vb,0,none⟩))(hs:cs.size=1)(hv:Blk W vb 44 cs) :
 (results F tmps).run prog W=.ok (.agg cs) W:=by
 have hl:=EJ (P:=prog) W vb 44 44 cs (0,0) _ hv underlying44 rfl (by rw[hs];exact Xa);have h2':tmps[i]?.getD undef=.pointer (some ⟨vb,0,none⟩):=by simpa using h2
 simp[results,hF,h2',asAddr,hl]
end
section
open Go.RowKit
theorem afd(path:ByteArray)(ag:List V):(jr path ag).length≤ag.length:=by
 unfold jr;split
 ·rw[(xk _).length_eq];exact M7 _ _
 exact aS _
end
section
open Go.RowKit
def gT(w:World)(g:Nat):Prop:=∀i u,w.cell? ⟨g,i,none⟩=some u→(∃a l c,u=.slice a l c)∨∃n,u=.int .i64 n
section
variable {S:Nat→Prop} {w w':World} (hk:Kept S w w') (hp:∀g,S g→gT w g)
include hk in
theorem gT.keep{p:Addr}{u:Value}(hs:¬ S p.block)(h:bE w 0 w.heap.size p u):bE w' 0 w'.heap.size p u:=
 ⟨(uQ (hk.block p.block h.2.2 hs)).trans h.1,aS _,cU h.2.2 hk.size⟩
include hp in
theorem gT.not{bk o:Nat}{u:Value}(h:bE w 0 w.heap.size ⟨bk,o,none⟩ u)(h1:∀a l c,u≠.slice a l c)(h2:∀n,u≠.int .i64 n):¬ S bk:=fun hs=>by
 rcases hp bk hs o u h.1 with ⟨a,l,c,e⟩ | ⟨n,e⟩
 ·exact h1 _ _ _ e
 exact h2 _ e
include hk hp in
theorem gT.reads{z n i:Nat}{A:Option Addr}{xs:List Value}(h:Reads (bE w 0 w.heap.size) z A n xs)(hx:0<n→∃u,xs[i]?=some u∧(∀a l c,u≠.slice a l c)∧∀n,u≠.int .i64 n):Reads (bE w' 0 w'.heap.size) z A n xs:=by
 refine⟨h.1,fun hn=>?_⟩;obtain⟨bk,o,e,hc⟩:=h.2 hn;obtain⟨u,hu,h1,h2⟩:=hx hn;have hs:=gT.not hp (hc i u hu) h1 h2;exact⟨bk,o,e,fun j v hv=>gT.keep hk hs (hc j v hv)⟩
include hk hp in
theorem ba.GQ{A:Option Addr}{b:List UInt8}(h:ba w A b):ba w' A b:=gT.reads hk hp (i:=0) h (fun hn=>by
 rcases b with _ | ⟨x,r⟩
 ·simp at hn
 exact⟨.int .u8 x.toNat,rfl,fun _ _ _ e=>(by cases e),fun _ e=>(by cases e)⟩)
include hk hp in
theorem IsV.GQ(v:V):∀c,IsV (bE w 0 w.heap.size) v c→IsV (bE w' 0 w'.heap.size) v c:=by
 induction v using V.ind with
 | h k n b l f hl hf =>
  intro c hv;rw[IsV] at hv ⊢;obtain⟨e1,e2,e3,e4,e5,h1,h2,h3,h4,h5,h6,h7,h8,h9,hb,hL,hF⟩:=hv;refine⟨e1,e2,e3,e4,e5,h1,h2,h3,h4,h5,h6,h7,h8,h9,gT.reads hk hp (i:=0) hb (fun hn=>?_),fun i hi=>?_,fun i hi=>?_⟩
  ·rcases b with _ | ⟨x,r⟩
   ·simp at hn
   exact⟨.int .u8 x.toNat,rfl,fun _ _ _ e=>(by cases e),fun _ e=>(by cases e)⟩
  ·obtain⟨bk,o,x,e,⟨a1,a2,a3,a4,a5⟩,kv⟩:=hL i hi;have hs:=gT.not hp a2 (fun _ _ _ e=>by cases e) (fun _ e=>by cases e);exact⟨bk,o,x,e,⟨gT.keep hk hs a1,gT.keep hk hs a2,gT.keep hk hs a3,gT.keep hk hs a4,gT.keep hk hs a5⟩,hl _ (aY _) _ kv⟩
  obtain⟨bk,o,x,e,ks,kz,⟨a1,a2,a3,a4,a5⟩,kv⟩:=hF i hi;have hs:=gT.not hp a2 (fun _ _ _ e=>by cases e) (fun _ e=>by cases e);exact⟨bk,o,x,e,gT.keep hk hs ks,kz,⟨gT.keep hk hs a1,gT.keep hk hs a2,gT.keep hk hs a3,gT.keep hk hs a4,gT.keep hk hs a5⟩,hf _ (aY _) _ kv⟩
include hk hp in
theorem dR.GQ{A:Option Addr}{cap:Nat}{st:List Co}(h:dR w A cap st):dR w' A cap st:=by
 obtain⟨hc,es,h1,h2⟩:=h;refine⟨hc,es,h1.mono fun e c k=>⟨k.nm,k.dn,k.xn,k.xc,IsV.GQ hk hp _ _ k.ag,gT.reads hk hp (i:=0) k.aq (fun hn=>?_)⟩,gT.reads hk hp (i:=0) h2 (fun hn=>?_)⟩
 ·rcases hx:c.aq with _ | ⟨x,r⟩
  ·rw[hx] at hn;simp at hn
  exact⟨.string x.name,rfl,fun _ _ _ e=>(by cases e),fun _ e=>(by cases e)⟩
 have hl:=h1.1;rcases es with _ | ⟨x,r⟩
 ·simp at hl;omega
 exact⟨.string x.nm,rfl,fun _ _ _ e=>(by cases e),fun _ e=>(by cases e)⟩
end
theorem K0{w:World}{g:Nat}{T:TypeId}{a:Option Addr}{l c:Nat}(h:Blk w g T #[.slice a l c]):gT w g:=fun i u hu=>by
 rw[h.cell i] at hu
 match i,hu with
 | 0,hu=>cases hu;exact .inl ⟨_,_,_,rfl⟩
 | i+1,hu=>simp at hu
theorem K1{w:World}{g:Nat}{T:TypeId}{e n k:Int}{A:Option Addr}{l c:Nat}(h:Blk w g T (dD e n A l c k)):gT w g:=fun i u hu=>by
 rw[h.cell i] at hu
 match i,hu with
 | 0,hu=>cases hu;exact .inr ⟨_,rfl⟩
 | 1,hu=>cases hu;exact .inr ⟨_,rfl⟩
 | 2,hu=>cases hu;exact .inl ⟨_,_,_,rfl⟩
 | 3,hu=>cases hu;exact .inr ⟨_,rfl⟩
 | i+4,hu=>simp at hu
theorem GS{w W:World}{g4 g5:Nat}{A A' B B':Option Addr}{l l' c c' m m' d d':Nat}{e n k e' n' k':Int}(hg:Grow w W)(h4:w.heap.size≤g4)(h5:w.heap.size≤g5)(hne:g4≠g5)(H4:Blk W g4 44 #[.slice A l c])(H5:Blk W g5 31 (dD e n B m d k)) :
 let W':=((((W.setCell ⟨g4,0,none⟩ (.slice A' l' c')).setCell ⟨g5,0,none⟩ (.int .i64 e')).setCell ⟨g5,1,none⟩ (.int .i64 n')).setCell ⟨g5,2,none⟩ (.slice B' m' d')).setCell ⟨g5,3,none⟩ (.int .i64 k')
 Grow w W'∧Blk W' g4 44 #[.slice A' l' c']∧Blk W' g5 31 (dD e' n' B' m' d' k')∧(∀{X:Option Addr} {cap:Nat} {st:List Co},dR W X cap st→dR W' X cap st)∧∀{g:Nat} {T:TypeId} {cs:Array Value},Blk W g T cs→g≠g4→g≠g5→Blk W' g T cs:=by
 refine⟨((((hg.setCell (p:=⟨g4,0,none⟩) h4 _).setCell (p:=⟨g5,0,none⟩) h5 _).setCell (p:=⟨g5,1,none⟩) h5 _).setCell (p:=⟨g5,2,none⟩) h5 _).setCell (p:=⟨g5,3,none⟩) h5 _,
  ((((H4.bg 0 _).far (p:=⟨g5,0,none⟩) hne _).far (p:=⟨g5,1,none⟩) hne _).far (p:=⟨g5,2,none⟩) hne _).far (p:=⟨g5,3,none⟩) hne _,
  ((((H5.far (p:=⟨g4,0,none⟩) (fun e=>hne e.symm) _).bg 0 _).bg 1 _).bg 2 _).bg 3 _,fun h=>h.GQ (S:=fun q=>q=g4∨q=g5) ?_ (fun q hq=>?_),fun h n4 n5=>((((h.far (p:=⟨g4,0,none⟩) n4 _).far (p:=⟨g5,0,none⟩) n5 _).far (p:=⟨g5,1,none⟩) n5 _).far (p:=⟨g5,2,none⟩) n5 _).far (p:=⟨g5,3,none⟩) n5 _⟩
 ·exact(((((eK (S:=fun q=>q=g4∨q=g5) W).set (p:=⟨g4,0,none⟩) (.inl rfl) _).set (p:=⟨g5,0,none⟩) (.inr rfl) _).set (p:=⟨g5,1,none⟩) (.inr rfl) _).set (p:=⟨g5,2,none⟩) (.inr rfl) _).set (p:=⟨g5,3,none⟩) (.inr rfl) _
 rcases hq with rfl | rfl
 ·exact K0 H4
 exact K1 H5
end
abbrev al0:=@gT.keep
abbrev al1:=@gT.reads
section
open Go.RowKit
def jt(w:World)(S:Nat→Prop):Prop:=∀(p:Addr) (u:Value),S p.block→w.cell? p=some u→(∀n,u≠.int .u8 n)∧(∀n,u≠.int .u64 n)∧∀s,u≠.string s
theorem jt.u8{w:World}{S:Nat→Prop}(h:jt w S){p:Addr}{n:Int}(hc:bE w 0 w.heap.size p (.int .u8 n)):fp w S p (.int .u8 n):=⟨hc.1,hc.2.2,fun hs=>(h p _ hs hc.1).1 n rfl⟩
theorem jt.str{w:World}{S:Nat→Prop}(h:jt w S){p:Addr}{s:ByteArray}(hc:bE w 0 w.heap.size p (.string s)):fp w S p (.string s):=⟨hc.1,hc.2.2,fun hs=>(h p _ hs hc.1).2.2 s rfl⟩
theorem jt.Xc{w:World}{S:Nat→Prop}(h:jt w S){bk o:Nat}{c:Cv}(hc:kI (bE w 0 w.heap.size) bk o c):kI (fp w S) bk o c:=by
 obtain⟨h0,h1,h2,h3,h4⟩:=hc;have hn:¬ S bk:=fun hs=>(h ⟨bk,o+1,none⟩ _ hs h1.1).2.1 _ rfl
 exact⟨⟨h0.1,h0.2.2,hn⟩,⟨h1.1,h1.2.2,hn⟩,⟨h2.1,h2.2.2,hn⟩,⟨h3.1,h3.2.2,hn⟩,⟨h4.1,h4.2.2,hn⟩⟩
theorem IsV.bare{w:World}{S:Nat→Prop}(h:jt w S)(v:V):∀c,IsV (bE w 0 w.heap.size) v c→IsV (fp w S) v c:=by
 induction v using V.ind with
 | h k n b l f hl hf =>
  intro c hv;rw[IsV] at hv ⊢;obtain⟨e1,e2,e3,e4,e5,h1,h2,h3,h4,h5,h6,h7,h8,h9,hb,hL,hF⟩:=hv;refine⟨e1,e2,e3,e4,e5,h1,h2,h3,h4,h5,h6,h7,h8,h9,⟨hb.1,fun hn=>?_⟩,fun i hi=>?_,fun i hi=>?_⟩
  ·obtain⟨bk,o,e,hc⟩:=hb.2 hn;refine⟨bk,o,e,fun j u hu=>?_⟩;have hu':=hc j u hu;unfold bw at hu;rw[qX] at hu
   cases hx:b[j]? with
   | none=>rw[hx] at hu;cases hu
   | some x =>
    rw[hx] at hu
    cases hu
    exact h.u8 hu'
  ·obtain⟨bk,o,x,e,k0,kv⟩:=hL i hi;exact⟨bk,o,x,e,h.Xc k0,hl _ (aY _) _ kv⟩
  obtain⟨bk,o,x,e,ks,kz,k0,kv⟩:=hF i hi;exact⟨bk,o,x,e,h.str ks,kz,h.Xc k0,hf _ (aY _) _ kv⟩
theorem Reads.bare{w:World}{S:Nat→Prop}(h:jt w S){z:Nat}{A:Option Addr}{n:Nat}{xs:List Value}(hr:Reads (bE w 0 w.heap.size) z A n xs)(h0:0<n→∃s,xs[0]?=some (.string s)):Reads (fp w S) z A n xs:=
 ⟨hr.1,fun hn=>by
  obtain⟨bk,o,e,hc⟩:=hr.2 hn;obtain⟨s,hs⟩:=h0 hn;have hn:¬ S bk:=fun hS=>(h _ _ hS (hc 0 _ hs).1).2.2 s rfl
  exact⟨bk,o,e,fun j u hu=>⟨(hc j u hu).1,(hc j u hu).2.2,hn⟩⟩⟩
theorem afe{xs:List Ix}(h:0<xs.length):∃s,(gm xs)[0]?=some (.string s):=by
 cases xs with
 | nil=>simp at h
 | cons x r=>exact⟨x.name,rfl⟩
theorem aff{es:List Cc}(h:0<es.length):∃s,(dw es)[0]?=some (.string s):=by
 cases es with
 | nil=>simp at h
 | cons x r=>exact⟨x.nm,rfl⟩
theorem vB.bare{w:World}{S:Nat→Prop}(h:jt w S){e:Cc}{c:Co}(k:rK w e c):vB (fp w S) e c:=
 ⟨k.nm,k.dn,k.xn,k.xc,IsV.bare h _ _ k.ag,k.aq.bare h afe⟩
theorem dR.bare{w w':World}{S:Nat→Prop}{A:Option Addr}{cap:Nat}{st:List Co}(hst:dR w A cap st)(h:jt w S)(hk:Kept S w w'):dR w' A cap st:=by
 obtain⟨hc,es,h1,h2⟩:=hst;refine⟨hc,es,h1.mono fun a b k=>((vB.bare h k).mono (xg hk fun _ h=>h)).mono jW,((h2.bare h fun hn=>aff (by rw[h1.1];exact hn)).mono (xg hk fun _ h=>h)).mono jW⟩
theorem InL.bare{w w':World}{S:Nat→Prop}{A:Option Addr}{cap:Nat}{l:List V}(hl:InL w A cap l)(h:jt w S)(hk:Kept S w w'):InL w' A cap l:=
 iL jW _ _ (iL (xg hk fun _ h=>h) _ _ (IsV.bare h _ _ hl))
theorem jt.P7{w:World}{rb:Nat}{T:TypeId}{e n k:Int}{A:Option Addr}{l c:Nat}(hb:Blk w rb T (dD e n A l c k)):jt w (fun q=>q=rb):=by
 intro p u hp hc;obtain⟨g,o,pr⟩:=p;have hp':g=rb:=hp;subst hp'
 cases pr with
 | some x =>
  unfold World.cell? at hc;rw[show w.heap[g]?=_ from hb] at hc;simp at hc
 | none =>
 rw[hb.cell] at hc;have ho:o<4:=by
  rcases dH o 4 with h | h
  ·exact h
  rw[uL (by simpa using h)] at hc;cases hc
 have h4:o=0∨o=1∨o=2∨o=3:=by omega
 rcases h4 with rfl | rfl | rfl | rfl<;>cases hc<;>refine⟨fun n h=>?_,fun n h=>?_,fun s h=>?_⟩<;>cases h
end
section
open Go.RowKit V
def nA:ByteArray:=⟨#[97]⟩
def nX:ByteArray:=⟨#[120]⟩
def iV(n:Nat):V:=.mk 3 n [] [] []
def dV(i x:Nat):V:=.mk 8 0 [] [] [(mK,iV i),(nX,iV x)]
theorem Xd{v:V}(h1:v.formed=true)(h2:v.most≤64)(h3:v.depth≤16)(h4:v.bytes.length≤4096):v.good=0:=KR.2 ⟨h1,h2,h3,h4⟩
theorem P8(n:Nat):(iV n).formed=true:=by unfold iV;rw[rh];unfold V.own;simp
theorem Xe(n:Nat):(iV n).most≤64:=by unfold iV;rw[V.Ng];decide
theorem Xf(n:Nat):(iV n).depth=0:=by unfold iV;rw[V.yu];rfl
theorem Xg(n:Nat):(iV n).bytes.length=9:=by unfold iV;rw[iT];simp[jA]
theorem afg(n:Nat):(iV n).good=0:=Xd (P8 n) (Xe n) (by rw[Xf];omega) (by rw[Xg];omega)
theorem afh(n:Nat):(iV n).count=1:=by unfold iV;rw[u6];simp
theorem P9{n:Nat}(h:n<18446744073709551616):(iV n).fit:=by unfold iV;rw[V.fit];exact⟨h,fun x hx=>by simp at hx,fun x hx=>by simp at hx⟩
theorem afi(n:Nat):(iV n).key.length=13:=by
 unfold iV;rw[fk,ai (by decide),ai (by decide),ar rfl];unfold mM;simp[fS]
theorem afj{n:Nat}(h:n<18446744073709551616):V.Keyed (iV n):=⟨⟨P8 n,P9 h⟩,afg n,by rw[afi];omega⟩
theorem afk{f:List (ByteArray×V)}(hl:f.length≤2)(hf:(V.mk 8 0 [] [] f).formed=true)(hx:∀x∈f,∃n,x.2=iV n)(hs:∀x∈f,x.1.size≤64):(V.mk 8 0 [] [] f).good=0:=by
 refine Xd hf ((JP _ _ _ _ _ 64).2 ⟨by simp,by omega,by simp,fun x h=>by obtain⟨n,hn⟩:=hx x h;rw[hn];exact Xe n⟩) ?_ ?_
 ·rw[V.Nj];have:=(Cw (f.map fun x=>x.2.depth) 0 0).2 ⟨av _,fun y hy=>by
   obtain⟨x,h,rfl⟩:=jx.1 hy;obtain⟨n,hn⟩:=hx x h;rw[hn,Xf];omega⟩
  omega
 rw[zZ];have key:∀l:List (ByteArray×V),(∀x∈l,(∃n,x.2=iV n)∧x.1.size≤64)→((l.map fun x=>V.item x.1 x.2.bytes).flatten).length≤l.length*100:=by
  intro l
  induction l with
  | nil=>intro _;simp
  | cons x r ih =>
   intro h;have h1:=ih fun y hy=>h y (pX _ hy)
   obtain⟨⟨n,hn⟩,hz⟩:=h x nY;rw[eW,l5,bD,aU];have:(V.item x.1 x.2.bytes).length=x.1.size+x.2.bytes.length+1:=by rw[V.item];simp
   rw[this,hn,Xg];omega
 have:=key f fun x h=>⟨hx x h,hs x h⟩
 simp only[aU];omega
theorem afl:V.name nX=true:=by decide +kernel
theorem afm:V.name mK=true:=by decide +kernel
theorem afn(i x:Nat):(dV i x).good=0:=by
 unfold dV;refine afk (by simp) ?_ (fun y hy=>?_) (fun y hy=>?_)
 ·rw[rh];simp[V.own,P8,afl,afm];decide
 ·simp at hy;rcases hy with rfl | rfl
  ·exact⟨_,rfl⟩
  exact⟨_,rfl⟩
 simp at hy;rcases hy with rfl | rfl
 ·show mK.size≤64;decide
 show nX.size≤64;decide
theorem afo{i x:Nat}(hi:i<18446744073709551616)(hx:x<18446744073709551616):(dV i x).fit:=by
 unfold dV;rw[V.fit];refine⟨by decide,fun y hy=>by simp at hy,fun y hy=>?_⟩;simp at hy;rcases hy with rfl | rfl
 ·exact P9 hi
 exact P9 hx
theorem afp(i x:Nat):jq (dV i x)=some (iV i):=by show (List.find? (fun x:ByteArray×V=>decide (x.1=mK)) [(mK,iV i),(nX,iV x)]).map Prod.snd=_;simp
theorem afq{i:Nat}(h:i<18446744073709551616):bK (iV i)=((iV i).key,0):=(afj h).bK
theorem Xh{i:Nat}(x:Nat)(h:i<18446744073709551616):bt (dV i x)=((iV i).key,0):=by
 unfold bt;rw[ai (by rw[afn];simp),ai (show ¬ (dV i x).k≠8 from fun h=>h rfl),afp];exact afq h
def Ba(d:Int)(c:ByteArray)(x:V):Rq:=⟨d,c,⟨#[]⟩,⟨#[]⟩,false,V.zero,V.zero,V.zero,x,0⟩
def zb(d:Int)(c:ByteArray):Rq:=⟨d,c,⟨#[]⟩,⟨#[]⟩,false,V.zero,V.zero,V.zero,V.zero,0⟩
def sX(ag:List V)(aq:List Ix):List Co:=[⟨nA,ag,aq⟩]
theorem Xi:cQ [nA] nA=true∧bX [nA] nA=0:=by constructor<;>decide
theorem P_(ag:List V)(aq:List Ix):bH (sX ag aq) nA=⟨nA,ag,aq⟩:=by
 unfold bH sX;simp[bh,Xi.2]
theorem afr{st st':List Co}{q:Rq}{n:Int}{ag:List V}(h:kp st q=.ok (st',n,ag)):mO st q=(st',⟨0,n,ag,0⟩):=by unfold mO;rw[h]
theorem Xj{st:List Co}{q:Rq}(h:q.bp=1):kp st q=mN st q:=by unfold kp;rw[h];rfl
theorem afs{st:List Co}{q:Rq}(h:q.bp=3):kp st q=pM st q:=by unfold kp;rw[h];rfl
theorem Qa(ag:List V)(aq:List Ix):cQ (bh (sX ag aq)) nA=true∧bX (bh (sX ag aq)) nA=0:=Xi
theorem aft(ag:List V)(aq:List Ix)(c:Co):(sX ag aq).set 0 c=[c]:=rfl
theorem kn1:mO [] (zb 1 nA)=(sX [] [],Rp.zero):=by
 refine afr (Xj rfl |>.trans ?_);unfold mN;have h1:V.name nA=true:=by decide +kernel
 rw[show (zb 1 nA).aD=nA from rfl,h1,ai (by decide),ai (show ¬ cQ (bh []) nA=true from by decide),ai (by decide)];rfl
theorem afu{ag:List V}{aq:List Ix}{q:Rq}{K:List UInt8}(hc:q.aD=nA)(hk:bt q.doc=(K,0))(hx:tN q.doc aq=0)(h4:¬ (jg ag K=true∧q.bp≠3))(hcl:yQ (fN ag q.doc) aq=false) :
 pM (sX ag aq) q=.ok (sX (fN ag q.doc) aq,if jg ag K=true then 1 else 0,[]):=by
 unfold pM;rw[hc,(Qa ag aq).1,(Qa ag aq).2,P_,hk];dsimp only;rw[ai (by decide),ai (by decide),ai (by rw[hx];decide),ai h4,ai (by rw[hcl];decide),aft];rfl
end
section
open Go.RowKit Go.ChangeShapes Go.ChangeAt Go.Shelf Go.WideShapes
theorem afv(W:World)(h:W.ShapedOpen prog):kO W:=by
 obtain⟨m,hm⟩:=N7.s1_3 W h;exact⟨m,hm,Na _ _ hm⟩
end
end Go.Proofs.YtndjopkdbdcmdaaGreatDoor
