/- Part 14 of the proof of pgets_card. -/
import Derived.Test.YtndjopkdbdcmdaaGreatDoorPge11
import Derived.Test.YtndjopkdbdcmdaaGreatDoorPge13
set_option linter.unusedVariables false
set_option linter.unusedSimpArgs false
set_option maxRecDepth 100000
set_option maxHeartbeats 12800000
open Go.Proofs.Tryz
open Go.RowKit
namespace Go.Proofs.YtndjopkdbdcmdaaGreatDoor
variable {A A' A5 A6 A7 dA:Option Addr}{B N base c c' dC g hi i j lo mb vb z:Nat}{F:Func}{P:Program}{Q:Exit→Act→World→Prop}{S Y:Nat→Prop}{T t:TypeId}{W w w' w1 w4 w5:World}{a:Act}{af:Array Edge}{ag:List V}{aj:List Ix}{cs cur tmps:Array Value}{d:Option Tmp}{es:List Cc}{ops:Array Oper}{p:String}{path s:ByteArray}{q:Rq}{rest:List Oper}{st st':List Co}{u v:Value}{vs xs:List Value}{x y:Operand}
theorem cQ.pN{cap:Nat}(h:cQ w A cap st)(i:Nat)(hi:i<st.length):∃bk o e,A=some ⟨bk,o,none⟩∧bk<w.heap.size∧qL w e st[i]∧(∀k v,e.cells.toList[k]?=some v→k<3→w.cell? ⟨bk,o+i*3+k,none⟩=some v):=by
 obtain⟨hc,es,h1,h2⟩:=h;have hel:i<es.length:=by rw[h1.1];exact hi
 obtain⟨bk,o,hA,hcell⟩:=h2.2 (by omega);have hf:∀k v,es[i].cells.toList[k]?=some v→k<3→bQ w 0 w.heap.size ⟨bk,o+(i*3+k),none⟩ v:=fun k v hv hk =>
  hcell (i*3+k) v (by rw[cY,mV _ 3 (fun _=>rfl) es i k hk es[i] (bH hel)];exact hv)
 refine⟨bk,o,es[i],hA,(hf 0 _ rfl (by omega)).2.2,h1.at_ hel hi,fun k v hv hk=>?_⟩;rw[lu];exact(hf k v hv hk).1
theorem jR.pN{xs:List Ix}(h:jR w A xs)(i:Nat)(hi:i<xs.length):∃bk o,A=some ⟨bk,o,none⟩∧bk<w.heap.size∧w.cell? ⟨bk,o+i*3,none⟩=some (.string xs[i].name)∧w.cell? ⟨bk,o+i*3+1,none⟩=some (.string xs[i].path)∧w.cell? ⟨bk,o+i*3+2,none⟩=some (.bool xs[i].uniq):=by
 obtain⟨bk,o,hA,hcell⟩:=h.2 (by omega);have hf:∀k v,xs[i].cells.toList[k]?=some v→k<3→bQ w 0 w.heap.size ⟨bk,o+(i*3+k),none⟩ v:=fun k v hv hk =>
  hcell (i*3+k) v (by rw[dQ,mV _ 3 (fun _=>rfl) xs i k hk xs[i] (bH hi)];exact hv)
 refine⟨bk,o,hA,(hf 0 _ rfl (by omega)).2.2,(hf 0 _ rfl (by omega)).1,?_,?_⟩
 ·have:=(hf 1 _ rfl (by omega)).1;rwa [← lu] at this
 have:=(hf 2 _ rfl (by omega)).1;rwa [← lu] at this
def tP(names:List ByteArray)(s:ByteArray):Int:=if cr names s=true then (bg names s:Int) else -1
theorem Xk{names:List ByteArray}(hr:fw (gP names))(hj:j<names.length)(he:names[j]=s):tP names s=j:=by
 have hF:cr names s=true:=(K4 hr s).2 (he ▸ aS hj);have h1:=PV hF;have h2:=El hF;rw[bH h2] at h1;injection h1 with h1;have:bg names s=j:=hr.inj (i:=bg names s) (j:=j) (by rw[dE];exact h2) (by rw[dE];exact hj) (by rw[iO,iO,h1,he]);unfold tP;rw[aD hF,this]
theorem Xl{names:List ByteArray}(hr:fw (gP names))(h:∀i (hi:i<names.length),names[i]≠s):tP names s=-1:=by
 unfold tP;rw[ak];intro hF;obtain⟨i,hi,e⟩:=sQ ((K4 hr s).1 hF);exact h i hi e
theorem Qg{a b:ByteArray}(h:a≠b):(a.toList==b.toList)=false:=by rw[J7];exact fun k=>h ((Bl _ _).1 k)
theorem Ld(st:List Co)(s:ByteArray)(A:Option Addr)(cap:Nat)(w:World)(hst:cQ w A cap st)(hr:fw (gP (aP st)))(hn:st.length≤1000000) :
 Calls prog 69 #[.agg #[.slice A st.length cap],.string s] w fun e w'=>e=.returned (.int .i64 (tP (aP st) s))∧Grow w w':=by
 have HST:=aa hst;have HR:=aa hr;have HB:=aa (az w 44 #[.slice A st.length cap]);have HG:=aa ((ah w).alloc (.cells #[.slice A st.length cap] 44));obtain⟨iJ,hA⟩:∃a,tP (aP st) s=a:=⟨_,rfl⟩;rw[hA];have HA:=aa hA;have fH:=HB.o.cell;clear hst hr hA;go_enter func69,ntmps69;go_wp2_with fail;clear fH;go_loopg [5] (st.length+1) (fun gk i wr=>∃j:Nat,j≤st.length∧gk+j=st.length+1∧i=.int .i64 j∧(∀i (hi:i<st.length),i<j→st[i].name≠s)∧Grow w wr∧Blk wr w.heap.size 44 #[.slice A st.length cap]);exact⟨0,aR _,rfl,rfl,fun _ _ h=>absurd h (by omega),HG.o,HB.o⟩;obtain⟨j,hj,hg,rfl,hne,hgr,hb⟩:=hrel;obtain⟨gk',rfl⟩:=bz gk (by omega);have HN:=aa hne;have aJ:=aa hgr;have qO:=aa hb;have fH:=hb.cell;clear hne hb;by_cases hlt:j<st.length
 ·obtain⟨bk,o,e,rfl,hbk,aA,hcell⟩:=(HST.o.grow hgr).pN j hlt;have h0:=hcell 0 _ rfl (by omega);rw[fX,aA.nm] at h0;obtain⟨q,hq⟩:∃q,st[j].name=q:=⟨_,rfl⟩;rw[hq] at h0;have HQ:=aa hq;clear hcell aA hgr hq;by_cases he:q=s
  ·have om:(q.toList==s.toList)=true:=(Bl _ _).2 he;have HE:=aa he;clear he;go_wp2_with fail;go_ret;refine⟨?_,aJ.o⟩;rw[← HA.o,Xk HR.o (j:=j) (by rw[dE];exact hlt) (by rw[iO,HQ.o,HE.o])];rfl
  have om:(q.toList==s.toList)=false:=Qg he;have HE:=aa he;clear he;go_wp2_with fail;go_roundg gk';refine⟨j+1,by omega,by omega,by go_num,fun i hi hij=>?_,aJ.o,qO.o⟩;by_cases pJ:i=j
  ·subst pJ;rw[HQ.o];exact HE.o
  exact HN.o i hi (by omega);omega
 have hjl:j=st.length:=by omega
 subst hjl;clear hgr;go_wp2_with fail;go_ret;refine⟨?_,aJ.o⟩;rw[← HA.o,Xl HR.o fun i hi=>by rw[iO];exact HN.o i (by simpa using hi) (by simpa using hi)];rfl
theorem GW(nm:ByteArray)(dA:Option Addr)(dn dc:Nat)(xs:List Ix)(s:ByteArray)(A:Option Addr)(cap:Nat)(w:World)(hx:jR w A xs)(hr:fw (gP (xs.map Ix.name)))(hn:xs.length≤1000000) :
 Calls prog 77 #[.agg #[.string nm,.slice dA dn dc,.slice A xs.length cap],.string s] w fun e w'=>e=.returned (.int .i64 (tP (xs.map Ix.name) s))∧Grow w w':=by
 have HX:=aa hx;have HR:=aa hr;have HB:=aa (az w 48 #[.string nm,.slice dA dn dc,.slice A xs.length cap]);have HG:=aa ((ah w).alloc (.cells #[.string nm,.slice dA dn dc,.slice A xs.length cap] 48));obtain⟨iJ,hA⟩:∃a,tP (xs.map Ix.name) s=a:=⟨_,rfl⟩;rw[hA];have HA:=aa hA;have fH:=HB.o.cell;clear hx hr hA;go_enter func77,ntmps77;go_wp2_with fail;clear fH;go_loopg [5] (xs.length+1) (fun gk i wr=>∃j:Nat,j≤xs.length∧gk+j=xs.length+1∧i=.int .i64 j∧(∀i (hi:i<xs.length),i<j→xs[i].name≠s)∧Grow w wr∧Blk wr w.heap.size 48 #[.string nm,.slice dA dn dc,.slice A xs.length cap]);exact⟨0,aR _,rfl,rfl,fun _ _ h=>absurd h (by omega),HG.o,HB.o⟩;obtain⟨j,hj,hg,rfl,hne,hgr,hb⟩:=hrel;obtain⟨gk',rfl⟩:=bz gk (by omega);have HN:=aa hne;have aJ:=aa hgr
 have qO:=aa hb;have fH:=hb.cell;clear hne hb;by_cases hlt:j<xs.length
 ·obtain⟨bk,o,rfl,hbk,h0,-,-⟩:=jR.pN (BS HX.o hgr) j hlt;obtain⟨q,hq⟩:∃q,xs[j].name=q:=⟨_,rfl⟩;rw[hq] at h0;have HQ:=aa hq;clear hgr hq;by_cases he:q=s
  ·have om:(q.toList==s.toList)=true:=(Bl _ _).2 he;have HE:=aa he;clear he;go_wp2_with fail;go_ret;refine⟨?_,aJ.o⟩;rw[← HA.o,Xk HR.o (j:=j) (by rw[dE];exact hlt) (by rw[iO,HQ.o,HE.o])];rfl
  have om:(q.toList==s.toList)=false:=Qg he;have HE:=aa he;clear he;go_wp2_with fail;go_roundg gk';refine⟨j+1,by omega,by omega,by go_num,fun i hi hij=>?_,aJ.o,qO.o⟩;by_cases pJ:i=j
  ·subst pJ;rw[HQ.o];exact HE.o
  exact HN.o i hi (by omega);omega
 have hjl:j=xs.length:=by omega
 subst hjl;clear hgr;go_wp2_with fail;go_ret;refine⟨?_,aJ.o⟩;rw[← HA.o,Xl HR.o fun i hi=>by rw[iO];exact HN.o i (by simpa using hi) (by simpa using hi)];rfl
theorem Qh{v u:V}(h:jl v s=some u):(v.k=7∧u∈v.l)∨(v.k≠7∧∃n,(n,u)∈v.f):=by
 obtain⟨k,n,b,l,f⟩:=v;by_cases hk:k=7
 ·subst hk;rw[BL] at h;split at h
  ·exact .inl ⟨rfl,Be h⟩
  cases h
 rw[wQ hk,FV] at h;obtain⟨⟨a,x⟩,h1,rfl⟩:=h;exact .inr ⟨hk,a,FW h1⟩
theorem Qi{α:Type}(g:α→List UInt8):∀(l:List α) (x:α),x∈l→(g x).length≤((l.map g).flatten).length
 | y::r,x,h=>by
  rw[fN,l8,bp];rcases jI.1 h with h | h
  ·rw[h];omega
  have:=Qi g r x h;omega
theorem aeJ{v u:V}(h:jl v s=some u)(hv:v.good=0):u.good=0:=by
 obtain⟨h1,h2,h3,h4⟩:=Le.1 hv;obtain⟨k,n,b,l,f⟩:=v;have hm:=(KN k n b l f 64).1 h2;rw[iP] at h4;refine Le.2 ⟨P4 h h1,?_,?_,?_⟩
 ·rcases Qh h with ⟨-,q⟩ | ⟨-,m,q⟩
  ·exact hm.2.2.1 u q
  exact hm.2.2.2 _ q
 ·rcases Qh h with ⟨-,q⟩ | ⟨-,m,q⟩
  ·exact aV (V.Om q) h3
  exact aV (V.Oo q) h3
 rw[tj] at h1;simp only[ig,iy] at h1;have ho:=h1.1.1.1;unfold V.own at ho;simp only[ig,iy] at ho;rcases Qh h with ⟨hk,q⟩ | ⟨hk,m,q⟩
 ·have hk':k=7:=hk;subst hk';have:=Qi V.bytes l u q;rw[ak (by decide),ak (by decide),ak (by decide),aD rfl] at h4;simp only[aU] at h4;omega
 have h8:k=8:=by
  rcases ho.2 with e | e
  ·exact e
  have q2:(m,u)∈f:=q;rw[AW.1 e] at q2;simp at q2
 subst h8;have hm:=Qi (fun x:ByteArray×V=>V.item x.1 x.2.bytes) f (m,u) q;have hi:(V.item m u.bytes).length=m.size+u.bytes.length+1:=by rw[V.item];simp
 rw[ak (by decide),ak (by decide),ak (by decide),ak (by decide),aD rfl] at h4;simp only[aU] at h4;dsimp only at hm;omega
theorem Xm:∀{l:List ByteArray} {v u:V},pH v l=some u→v.good=0→u.good=0
 | [],v,u,h,hg=>by injection h with h;rw[← h];exact hg
 | s::r,v,u,h,hg=>by
  rw[pH,Option.bind_eq_some_iff] at h;obtain⟨x,h1,h2⟩:=h;exact Xm h2 (aeJ h1 hg)
theorem Lf{v u:V}(h:mq v s=some u):u.good=0:=by
 unfold mq at h;split at h
 ·rename_i hg;split at h
  ·injection h with h;rw[← h];exact hg
  exact Xm h hg
 cases h
theorem aeK{d:V}(h:gh d)(he:(eB path d).2.2≠0):(eB path d).2.2=14:=by
 obtain⟨i,hi,hK,-,-,-⟩:=h.id;unfold eB at he ⊢;rw[ak (by simpa using h.key)] at he ⊢
 cases hp:mq d path with
 | none=>rw[hp] at he;simp at he
 | some u =>
  rw[hp] at he;dsimp only at he ⊢;rw[hi,pq] at he ⊢;have Ca:=Lf hp;have e1:(jt [u,i] [false,false]).2=0∨(jt [u,i] [false,false]).2=14:=by
   unfold jt;rw[ak (by simp)];split
   ·right;rename_i h0;dsimp only;unfold rV at h0 ⊢;by_cases hu:(bl u).2=0
    ·rw[ak (by simpa using hu)] at h0;unfold rV at h0;rw[hK.bl] at h0;simp[rV] at h0
    rw[aD hu];unfold bl at hu ⊢;rw[ak (by simpa using Ca)] at hu ⊢;split at hu
    ·rename_i h2;rw[aD h2]
    simp at hu
   split
   ·right;rfl
   left;rfl
  rcases e1 with e1 | e1
  ·rw[ak (by simpa using e1)] at he;simp at he
  rw[aD (by rw[e1];decide),e1]


section
open Go.RowKit Go.Shelf Go.WideShapes
theorem aeL(b:List UInt8)(B:Option Addr)(bc:Nat)(w:World)(hb:bh w B b)(hl:b.length≤70000000000000):Calls prog 106 #[.slice B b.length bc] w (gm w (b.map iq)):=by
 have HB:=aa hb;clear hb;go_enter func106,ntmps106;go_wp2_with fail;go_loopg [3,4] (b.length+1) (fun gk o i wr=>∃(k:Nat) (A':Option Addr) (c':Nat),k≤b.length∧gk+k=b.length+1∧i=.int .i64 k∧o=.slice A' k c'∧Row wr w.heap.size (.slice A' k c') k ((b.take k).map iq)∧Grow w wr);exact⟨0,none,0,aR _,rfl,rfl,rfl,jb _ _ _ _,ah w⟩;obtain⟨k,A',c',hk,hg,rfl,rfl,hr,hgr⟩:=hrel;have HR:=aa hr;have HG:=aa hgr;have hzz:=hgr.size;clear hr hgr;by_cases hlt:k<b.length
 ·obtain⟨gk',rfl⟩:=bz gk (by omega);obtain⟨bk,o,rfl,hcell⟩:=HB.o.2 (by omega);have hcw:=hcell k _ (wE b k hlt);have hc:=(HG.o.below.cell hcw.2.2).trans hcw.1;have hbl:bk<wr.heap.size:=bG hcw.2.2 HG.o.size;have HST:=aa (show (b.take (k+1)).map iq=(b.take k).map iq++[iq b[k]] by rw[py b k hlt,l7];rfl);obtain⟨x,vh⟩:∃x,b[k]=x:=⟨_,rfl⟩;rw[vh] at HST hc;have hc':wr.cell? ⟨bk,o+k,none⟩=some (.int .u8 (x.toNat:Int)):=hc;have hxl:=x.toNat_lt;have HF:=aa (show (((iq x).toNat:Nat):Int)=255-(x.toNat:Int) by unfold iq;rw[Dc];omega);clear vh hcell hcw hc
  go_wp2_with (at_builtin;refine gA (ys:=[iq x]) rfl (.tmp 11) (.tmp 17) _ rfl rfl (HR.o.alloc _) _ rfl (lD _ HF.o (az wr _ _)) (by simp only[aU,bT];omega) (by simp;omega) ?_;intro A4 c4 w4 hr4 hg4;have bY:=aa hr4;have bP:=aa (show Grow w w4 from cJ (HG.o.alloc _) (ej hg4 (HR.o.alloc _) (by simp;omega)));clear hr4 hg4);go_roundg gk';have e:k+[iq x].length=k+1:=rfl;have iA:=bY.o;rw[e,← HST.o] at iA;exact⟨k+1,A4,c4,by omega,by omega,by go_num,rfl,iA,bP.o⟩;omega
 have hkb:k=b.length:=by omega
 go_wp2_with fail;go_ret;exact gm.of (by rw[hkb,fT]) (by simp[hkb]) HR.o HG.o
end
section
open Go.RowKit Go.Shelf Go.WideShapes
theorem kY.Xn{b:List UInt8}{n:Nat}(h1:w.heap.size≤w1.heap.size)(hn:n=b.length)(hr:Row w' w1.heap.size (.slice A n c) n b)(hg:Grow w w'):kY w (b,0) (.returned (.tuple #[.slice A n c,.int .i64 0])) w':=by
 subst hn;exact⟨w1.heap.size,A,c,rfl,h1,hr,hg⟩
theorem aeM(v:V)(c:Cv)(w:World)(hd:v.depth≤1099511627776)(hsz:v.formed=true→v.bytes.length≤140737488355328)(hof:v.good=0→∀W,In W v c→Calls prog 105 #[c.agg] W (gm W v.key))(hv:In w v c):Calls prog 57 #[c.agg] w (kY w (bl v)):=by
 have aN:=aa ((ah w).alloc (.cells c.cells 27));have bO:=aa (az w 27 c.cells);have hcell:=(az w 27 c.cells).cell;have oD:=aa (V8 v _ c hd hsz (hv.grow aN.o));have HV:=aa hv;have kB:=aa hof;have hge:v.good=0∨v.good≠0:=by omega
 obtain⟨g,hg⟩:∃g,v.good=g:=⟨_,rfl⟩;rw[hg] at oD hge;have aC:=aa hg;clear hv hof hg hsz;go_enter func57,ntmps57;go_wp2_with fail;refine oD.o.mono ?_;rintro e w1 ⟨rfl,hg1⟩;have fp:=bO.o.grow hg1;have aO:=aa (aN.o.trans hg1);have cP:=aa fp;have hc1:=fp.cell;have ku:=fp.lt;have hs1:=aO.o.size;clear hg1 fp hcell;by_cases h0:g=0
 ·subst h0;have HC:=aa (kB.o aC.o w1 (HV.o.grow aO.o));go_wp2_with fail;refine HC.o.mono ?_;rintro e w2 ⟨A2,c2,rfl,hr2,hg2⟩;have bM:=aa hr2;have HG2:=aa (aO.o.trans hg2);obtain⟨KB,yf⟩:∃K,v.key=K:=⟨_,rfl⟩;rw[yf] at bM;clear hr2 hg2;have jO:=aa yf;rw[yf];by_cases hlen:96<KB.length
  ·have hof:bl v=([],14):=by unfold bl;rw[ak (by rw[aC.o];simp),jO.o,aD hlen]
   have HO:=aa hof;clear hof yf;go_wp2_with fail;go_ret2;rw[HO.o];exact uY HG2.o
  have hof:bl v=(KB,0):=by unfold bl;rw[ak (by rw[aC.o];simp),jO.o,ak hlen]
  have HO:=aa hof;clear hof yf;go_wp2_with fail;go_ret2;rw[HO.o];exact kY.Xn hs1 rfl bM.o HG2.o
 have hgb:(g==0)=false:=by simpa using h0
 have hof:bl v=([],g):=by unfold bl;rw[aD (by rw[aC.o];exact h0),aC.o]
 have HO:=aa hof;clear hof;go_wp2_with fail;go_ret2;rw[HO.o];exact uY aO.o
end
section
open Go.RowKit Go.Shelf Go.WideShapes
theorem Row.Lg{b:List UInt8}(h:Row w base (.slice A b.length c) b.length b):bh w A b:=
 eV (fun p u hp=>⟨hp.1,aR _,hp.2.2⟩) h.reads.1
theorem aeN(l:List V)(ts:List Bool)(A F:Option Addr)(cap fc:Nat)(w:World)(KG:∀v∈l,∀W c,In W v c→Calls prog 57 #[c.agg] W (kY W (bl v)))(hv:InL w A cap l)(hf:Pw w F ts)(hts:ts.length≤140737488355328)(hsm:96*l.length≤140737488355328) :
 Calls prog 59 #[.slice A l.length cap,.slice F ts.length fc] w (kY w (jt l ts)):=by
 have hll:l.length≤140737488355328:=by omega
 have HV:=aa hv;have HF:=aa hf;have aeO:=aa KG;clear hv hf KG;by_cases hlen:l.length=ts.length
 ·have heq:((l.length:Int) != (ts.length:Int))=false:=by simp[hlen]
  have HLEN:=aa hlen;clear hlen;go_enter func59,ntmps59;go_wp2_with fail;go_loopg [6,7] (l.length+1) (fun gk o i wr=>∃(j:Nat) (xs:List UInt8) (A':Option Addr) (c':Nat),j≤l.length∧gk+j=l.length+1∧i=.int .i64 j∧o=.slice A' xs.length c'∧Row wr w.heap.size (.slice A' xs.length c') xs.length xs ∧
   xs=jN (l.take j) (ts.take j)∧xs.length≤96*j∧(∀i (hi:i<l.length),i<j→(bl l[i]).2=0)∧Grow w wr)
  exact⟨0,[],none,0,aR _,rfl,rfl,rfl,jb _ _ _ _,by simp[jN],by simp,fun _ _ h=>absurd h (by omega),ah w⟩;obtain⟨j,xs,A',c',hj,hg,rfl,rfl,hr,hacc,hxl,hz,hgr⟩:=hrel;obtain⟨gk',rfl⟩:=bz gk (by omega);have HR:=aa hr;have uX:=aa hacc;have HZ:=aa hz;have HG:=aa hgr;have eF:=oc HV.o hgr;clear hr hacc hz hgr;by_cases hlt:j<l.length
  ·obtain⟨bk,o,x,ha,hbk,e0,e1,e2,e3,e4,hx⟩:=eF.fh j hlt;dsimp only[js] at ha;subst ha;have HX:=aa hx;have dO:j<ts.length:=by have:=HLEN.o;omega
   have kB:=aa (aeO.o l[j] (aS hlt) wr x hx);obtain⟨KB,ke,eQ⟩:∃kb ke,bl l[j]=(kb,ke):=⟨_,_,rfl⟩;rw[eQ] at kB;have fq:=aa eQ;clear hx eF eQ;go_wp2_with fail;refine kB.o.mono ?_;rintro e w2 ⟨BG,B,bc,rfl,hb2,hr2,hg2⟩;dsimp only at hr2 ⊢;have Ws:=hb2;have bM:=aa hr2;have HG2:=aa (HG.o.trans hg2);have uW:=aa hg2;clear hr2 hg2 hb2 e0 e1 e2 e3 e4;by_cases tJ:ke=0
   ·subst tJ;have hof:=Wm (show (bl l[j]).2=0 by rw[fq.o]);have hkb:l[j].key=KB:=by have:=fq.o;rw[hof] at this;exact(Bc.1 this).1
    have Px:KB.length≤96:=by rw[← hkb];exact(Gt (show (bl l[j]).2=0 by rw[fq.o])).2
    have jO:=aa hkb;have jP:=aa (Pv l ts j hlt dO);have BH:=aa (show ∀i (hi:i<l.length),i<j+1→(bl l[i]).2=0 from fun i hi hij=>by
     rcases N4.1 hij with h | rfl
     ·exact HZ.o i hi h
     rw[fq.o])
    obtain⟨fb,fo,rfl,hfc⟩:=HF.o.2 (by omega);have rW:=((HG2.o.below.cell (hfc j (.bool ts[j]) (by simp[dO])).2.2).trans (hfc j (.bool ts[j]) (by simp[dO])).1);have KJ:fb<w2.heap.size:=bG (hfc j (.bool ts[j]) (by simp[dO])).2.2 HG2.o.size;have BI:=aa (HR.o.grow uW.o);clear hof hkb hfc
    cases yg:ts[j] with
    | false =>
     rw[yg] at rW jP;rw[show flip false l[j].key=KB by rw[jO.o];rfl] at jP;clear yg;go_wp2_with (at_builtin;refine gA (ys:=KB) rfl (.tmp 38) (.tmp 39) _ rfl rfl BI.o _ rfl (eW fk bM.o.reads.1 (iI _)) (by omega) HG2.o.size ?_;intro A3 c3 w3 hr3 hg3;have cE:=aa hr3;have aG:=aa (ej hg3 BI.o HG2.o.size);clear hr3 hg3);go_roundg gk';have hn:(xs++KB).length=xs.length+KB.length:=bp;exact⟨j+1,xs++KB,A3,c3,by omega,by omega,by go_num,by rw[hn],by rw[hn];exact cE.o,by rw[jP.o,← uX.o],by omega,BH.o,cJ HG2.o aG.o⟩;omega
    | true =>
     rw[yg] at rW jP;rw[show flip true l[j].key=KB.map iq by rw[jO.o];rfl] at jP;clear yg;have HFA:=aa (aeL KB B bc w2 bM.o.Lg (by omega));go_wp2_with fail;refine HFA.o.mono ?_;rintro e w4 ⟨A5,c5,rfl,iA,bK⟩;have hm:(KB.map iq).length=KB.length:=dE ..;have eP:=aa iA;have a_:=aa (HG2.o.trans bK);have D9:=aa (BI.o.grow bK);have xX:=a_.o.size;clear iA bK;obtain⟨FB,Qj⟩:∃z,KB.map iq=z:=⟨_,rfl⟩;rw[Qj] at eP jP hm;rw[Qj];have anq:FB.length≤96:=by omega
     clear Qj hm;go_wp2_with (at_builtin;refine gA (ys:=FB) rfl (.tmp 38) (.tmp 39) _ rfl rfl D9.o _ rfl (eW fk eP.o.reads.1 (iI _)) (by omega) xX ?_;intro A3 c3 w3 hr3 hg3;have cE:=aa hr3;have aG:=aa (ej hg3 D9.o xX);clear hr3 hg3);go_roundg gk';have hn:(xs++FB).length=xs.length+FB.length:=bp;exact⟨j+1,xs++FB,A3,c3,by omega,by omega,by go_num,by rw[hn],by rw[hn];exact cE.o,by rw[jP.o,← uX.o],by omega,BH.o,cJ a_.o aG.o⟩;omega
   have hkb:(ke==0)=false:=by simpa using tJ
   have HA:=aa (Wo HLEN.o tJ j hlt HZ.o (by rw[fq.o]));go_wp2_with fail;go_ret2;rw[HA.o];exact uY HG2.o
  have hjl:j=l.length:=by omega
  have hz':∀i (hi:i<l.length),(bl l[i]).2=0:=fun i hi=>HZ.o i hi (by omega)
  have hxs:xs=jN l ts:=by rw[uX.o,hjl,fT,HLEN.o,fT]
  by_cases Py:96<xs.length
  ·have HA:=aa (Wp HLEN.o hz' (by rw[← hxs];exact Py));clear hxs hz';go_wp2_with fail;go_ret2;rw[HA.o];exact uY HG.o
  have HA:=aa (Wq HLEN.o hz' (by rw[← hxs];omega));have Lb:=aa hxs;clear hxs hz';go_wp2_with fail;go_ret2;rw[HA.o,← Lb.o];exact kY.Xn (au _) rfl HR.o HG.o
 have heq:((l.length:Int) != (ts.length:Int))=true:=by simp[bne_iff_ne];omega
 have HA:=aa (Wn hlen);clear hlen;go_enter func59,ntmps59;go_wp2_with fail;go_ret2;rw[HA.o];exact uY (ah w)
end
theorem aeP(n cap mb:Nat)(A:Option Addr)(el:Nat→Cc)(s:ByteArray)(w:World)(hn:n≤140737488355328)(hrow:rK w A 3 n (fun j=>(el j).cells))(h0:w.cell? ⟨mb,0,none⟩=some (.slice A n cap))(h2:w.cell? ⟨mb,2,none⟩=some (.string s))(hmb:mb<w.heap.size)(hf:gj (lL (fun j=>(el j).nm) s) n=false) :
 Calls prog 117 #[.pointer (some ⟨mb,0,none⟩)] w fun e w'=>e=.panicked (thrown 5)∧Grow w w':=by
 have jn:=aa (Qf n cap mb A el s w hn hrow h0 h2 hmb);rw[hf] at jn;obtain⟨RN,pK⟩:∃R,il (lL (fun j=>(el j).nm) s) n=R:=⟨_,rfl⟩;rw[pK] at jn;have HM:=aa (fun w=>oh 5 w);clear hrow pK hf h0 h2;go_enter func117,ntmps117;go_wp2_with fail;refine jn.o.mono ?_;rintro e w1 ⟨rfl,hg⟩;have HG:=aa hg;clear hg;go_wp2_with fail;refine(HM.o w1).mono ?_;rintro e w2 ⟨rfl,rfl⟩;go_wp2_with fail;exact⟨rfl,rfl,HG.o⟩
theorem aeQ(n cap mb gb o:Nat)(el:Nat→Cc)(s:ByteArray)(w:World)(hn:n≤140737488355328)(hrow:rK w (some ⟨gb,o,none⟩) 3 n (fun j=>(el j).cells))(h0:w.cell? ⟨mb,0,none⟩=some (.slice (some ⟨gb,o,none⟩) n cap))(h2:w.cell? ⟨mb,2,none⟩=some (.string s))(hmb:mb<w.heap.size)(hf:gj (lL (fun j=>(el j).nm) s) n=true) :
 Calls prog 117 #[.pointer (some ⟨mb,0,none⟩)] w fun e w'=>e=.returned (.pointer (some ⟨gb,o+il (lL (fun j=>(el j).nm) s) n*3,none⟩))∧Grow w w':=by
 have jn:=aa (Qf n cap mb (some ⟨gb,o,none⟩) el s w hn hrow h0 h2 hmb);have hlt:il (lL (fun j=>(el j).nm) s) n<n:=by
  unfold gj at hf;simp only[ig,iy] at hf;exact hf.1
 rw[hf] at jn;obtain⟨RN,pK⟩:∃R,il (lL (fun j=>(el j).nm) s) n=R:=⟨_,rfl⟩;rw[pK] at jn hlt ⊢;have HM:=aa (fun w=>jK 5 w);have H0:=aa (fun(w1:World) (h:Grow w w1)=>(h.below.cell (p:=⟨mb,0,none⟩) hmb).trans h0);clear hrow pK hf h0 h2;go_enter func117,ntmps117;go_wp2_with fail;refine jn.o.mono ?_;rintro e w1 ⟨rfl,hg⟩;have HG:=aa hg;have hm0:=H0.o w1 hg;clear hg;go_wp2_with fail;refine(HM.o w1).mono ?_;rintro e w2 ⟨rfl,rfl⟩;have hi0:(0:Int)≤(RN:Int):=by omega
 have hi1:(RN:Int)<(n:Int):=by omega
 go_wp2_with fail;go_ret;exact⟨rfl,HG.o⟩
def Lh(w:World)(ag:List V)(k:V)(e:Ending)(w':World):Prop:=
 Grow w w'∧(((bl k).2≠0∧e=.panicked (thrown (bl k).2))∨((bl k).2=0∧gj (oG ag (bl k).1) ag.length=false∧e=.panicked (thrown 17)) ∨
  ((bl k).2=0∧gj (oG ag (bl k).1) ag.length=true∧e=.returned (.int .i64 (il (oG ag (bl k).1) ag.length:Nat))))
theorem aeR(ag:List V)(k:V)(ck:Cv)(mb pb po cap:Nat)(A:Option Addr)(w:World)(Xo:k.count≤20000)(dY:∀v∈ag,v.count≤20000)(hlen:ag.length≤140737488355328)(hT:dz w)(hc:w.cell? ⟨pb,po+1,none⟩=some (.slice A ag.length cap))(hpb:pb<w.heap.size)(hmb:mb<w.heap.size)(hd:InL w A cap ag)(hk:In w k ck)
 (hq:∀i v,ck.cells[i]?=some v→w.cell? ⟨mb,6+i,none⟩=some v) :
 Calls prog 123 #[.pointer (some ⟨mb,0,none⟩),.pointer (some ⟨pb,po,none⟩)] w (Lh w ag k):=by
 have q0:=hq 0 _ rfl;have q1:=hq 1 _ rfl;have q2:=hq 2 _ rfl;have q3:=hq 3 _ rfl;have q4:=hq 4 _ rfl;simp only[Nat.reduceAdd] at q0 q1 q2 q3 q4;have oD:=aa (Ea k w ck Xo hT hk);have HD:=aa (fun(w1:World) (hg:Grow w w1) (b:List UInt8) (K:Option Addr) (kc:Nat) (hb:bh w1 K b)=>WI ag pb po cap A b K kc w1 dY hlen (hT.grow hg) ((hg.below.cell (p:=⟨pb,po+1,none⟩) hpb).trans hc) (bG hpb hg.size) (hd.grow hg) hb);have kB:=aa (fun(w1:World) (hg:Grow w w1)=>Ps k ck w1 (IsV.fit k ck hk) Xo (hT.grow hg) (hk.grow hg));have HQ:=aa (fun(w1:World) (hg:Grow w w1) i v (hi:ck.cells[i]?=some v)=>(hg.below.cell (p:=⟨mb,6+i,none⟩) hmb).trans (hq i v hi));obtain⟨g,hg0⟩:∃g,k.good=g:=⟨_,rfl⟩;rw[hg0] at oD;have aN:=aa hg0;clear hq hT hk hd hc hg0 dY
 go_enter func123,ntmps123;go_wp2_with fail;refine oD.o.mono ?_;rintro e w1 ⟨rfl,hg1⟩;have aO:=aa hg1;clear q0 q1 q2 q3 q4;have q0:=HQ.o w1 hg1 0 _ rfl;have q1:=HQ.o w1 hg1 1 _ rfl;have q2:=HQ.o w1 hg1 2 _ rfl;have q3:=HQ.o w1 hg1 3 _ rfl;have q4:=HQ.o w1 hg1 4 _ rfl;simp only[Nat.reduceAdd] at q0 q1 q2 q3 q4;clear hg1;by_cases h0:g=0
 ·subst h0;go_wp2_with fail;refine(DN w1).mono ?_;rintro e w2 ⟨rfl,rfl⟩;go_wp2_with fail;obtain⟨⟨kb,ke⟩,eQ⟩:∃r,bl k=r:=⟨_,rfl⟩;have HO:=kB.o w1 aO.o;rw[eQ] at HO;have fq:=aa eQ;refine HO.mono ?_;rintro e w2 ⟨base,A2,c2,rfl,hb2,hr2,hg2⟩;dsimp only at hr2 ⊢;have HG2:=aa (aO.o.trans hg2);have bM:=aa hr2;have Li:=aa (HD.o w2 (aO.o.trans hg2) kb A2 c2 hr2.reads.1);clear hr2 hg2 hb2 eQ HO;by_cases he:ke=0
  ·subst he;obtain⟨RN,pK⟩:∃R,il (oG ag kb) ag.length=R:=⟨_,rfl⟩;obtain⟨RF,yq⟩:∃R,gj (oG ag kb) ag.length=R:=⟨_,rfl⟩;rw[pK,yq] at Li;have Cb:=aa pK;have Xp:=aa yq;clear pK yq;go_wp2_with fail;refine(DN w2).mono ?_;rintro e w3 ⟨rfl,rfl⟩;go_wp2_with fail;refine Li.o.mono ?_;rintro e w3 ⟨rfl,hg3⟩;have aG:=aa (HG2.o.trans hg3);clear hg3
   cases RF with
   | false =>
    go_wp2_with fail;refine(oh 17 w3).mono ?_;rintro e w4 ⟨rfl,rfl⟩;go_wp2_with fail;exact⟨rfl,aG.o,.inr (.inl ⟨by rw[fq.o],by rw[fq.o];exact Xp.o,rfl⟩)⟩
   | true =>
    go_wp2_with fail;refine(jK 17 w3).mono ?_;rintro e w4 ⟨rfl,rfl⟩;go_wp2_with fail;go_ret;exact⟨aG.o,.inr (.inr ⟨by rw[fq.o],by rw[fq.o];exact Xp.o,by rw[fq.o,← Cb.o];rfl⟩)⟩
  go_wp2_with fail;refine(DR ke he w2).mono ?_;rintro e w3 ⟨rfl,rfl⟩;go_wp2_with fail;exact⟨rfl,HG2.o,.inl ⟨by rw[fq.o];exact he,by rw[fq.o]⟩⟩
 go_wp2_with fail;refine(DR g h0 w1).mono ?_;rintro e w2 ⟨rfl,rfl⟩;have hof:bl k=([],g):=by unfold bl;rw[aD (by rw[aN.o];exact h0),aN.o]
 go_wp2_with fail;exact⟨rfl,aO.o,.inl ⟨by rw[hof];exact h0,by rw[hof]⟩⟩
section
open Go.RowKit
abbrev Ce(A:Option Addr)(n cap:Nat)(d:Int)(c i p:ByteArray)(u:Bool)(k l h x:Cv)(qn:Int):Array Value:=
 #[.slice A n cap,.int .i64 d,.string c,.string i,.string p,.bool u,.int .i64 k.k,.int .u64 k.n,.slice k.aB k.nB k.cB,.slice k.aL k.nL k.cL,.slice k.aF k.nF k.cF,
  .int .i64 l.k,.int .u64 l.n,.slice l.aB l.nB l.cB,.slice l.aL l.nL l.cL,.slice l.aF l.nF l.cF,.int .i64 h.k,.int .u64 h.n,.slice h.aB h.nB h.cB,.slice h.aL h.nL h.cL,.slice h.aF h.nF h.cF,
  .int .i64 x.k,.int .u64 x.n,.slice x.aB x.nB x.cB,.slice x.aL x.nL x.cL,.slice x.aF x.nF x.cF,.int .i64 qn,.int .i64 0,.int .i64 0,.slice none 0 0,.int .i64 0]
structure dm (w:World) (B mb:Nat) (A:Option Addr) (cap:Nat) (es:List Cc) (st:List Co) (q:Rq) (ck cl ch cx:Cv):Prop where
 lo:B≤mb
 own:Own w B A cap es st
 blk:Blk w mb 96 (Ce A st.length cap q.aM q.aw q.index q.path q.unique ck cl ch cx q.n)
 key:dW w B q.key ck
 low:dW w B q.low cl
 high:dW w B q.high ch
 doc:dW w B q.doc cx
section
variable {w:World} {B mb cap:Nat} {A:Option Addr} {es:List Cc} {st:List Co} {q:Rq} {ck cl ch cx:Cv}
theorem dm.lt(h:dm w B mb A cap es st q ck cl ch cx):mb<w.heap.size:=h.blk.lt
theorem dm.le(h:dm w B mb A cap es st q ck cl ch cx):B≤w.heap.size:=aV h.lo (qp h.lt)
theorem dm.grow(h:dm w B mb A cap es st q ck cl ch cx)(hg:Grow w w'):dm w' B mb A cap es st q ck cl ch cx:=
 ⟨h.lo,h.own.grow h.le hg,h.blk.grow hg,h.key.below hg.below h.le (au _),h.low.below hg.below h.le (au _),h.high.below hg.below h.le (au _),h.doc.below hg.below h.le (au _)⟩
theorem dm.el(h:dm w B mb A cap es st q ck cl ch cx):es.length=st.length:=h.own.two.1
theorem dm.oI(h:dm w B mb A cap es st q ck cl ch cx):(fun j=>(es.getD j Cc.zero).nm)=fun j=>(aP st).getD j ⟨#[]⟩:=by
 funext j;rw[gy,gy,sS];by_cases hj:j<st.length
 ·have hj':j<es.length:=by rw[h.el];exact hj
  rw[bH hj,bH hj'];exact(h.own.two.at_ hj' hj).nm
 have hel:=h.el;rw[FQ (show es.length≤j by omega),FQ (show st.length≤j by omega)];rfl
theorem dm.Lj(h:dm w B mb A cap es st q ck cl ch cx):rK w A 3 st.length (fun j=>(es.getD j Cc.zero).cells):=fun j hj=>by
 have hj':j<es.length:=by rw[h.el];exact hj
 have hr:=lM (S:=fun _=>False) h.own.row (fun _ _ h=>h);obtain⟨bk,o,e,hc⟩:=hr.2 (by omega);have hc0:=hc 0 _ (bH (by rw[WJ];omega));refine⟨bk,o,e,hc0.2.1,fun i v hi=>?_⟩;have h3:i<3:=by
  rcases gp i 3 with h3 | h3
  ·exact h3
  rw[sN (by simpa using h3)] at hi;cases hi
 have hget:es.getD j Cc.zero=es[j]:=by rw[gy,bH hj'];rfl
 change (es.getD j Cc.zero).cells[i]?=some v at hi;rw[hget] at hi;have:=hc (j*3+i) v (by rw[cY,mV _ 3 (fun _=>rfl) es j i h3 es[j] (bH hj')];rw[nC];exact hi);rw[← lu] at this;exact this.1
theorem dm.short(h:cz N st):st.length≤140737488355328:=aV h.n (by omega)
theorem Xq(h:dm w B mb A cap es st q ck cl ch cx)(hs:st.length≤140737488355328) :
 Calls prog 115 #[.pointer (some ⟨mb,0,none⟩)] w fun e w'=>e=.returned (.tuple #[.int .i64 (bg (aP st) q.aw:Nat),.bool (cr (aP st) q.aw)])∧Grow w w':=by
 have h0:w.cell? ⟨mb,0,none⟩=some (.slice A st.length cap):=by rw[h.blk.cell];rfl
 have h2:w.cell? ⟨mb,2,none⟩=some (.string q.aw):=by rw[h.blk.cell];rfl
 have:=Qf st.length cap mb A (fun j=>es.getD j Cc.zero) q.aw w hs h.Lj h0 h2 h.lt;rw[h.oI] at this;unfold bg cr;rw[dE];exact this
theorem zL(h:dm w B mb A cap es st q ck cl ch cx)(hs:st.length≤140737488355328)(hf:cr (aP st) q.aw=false) :
 Calls prog 117 #[.pointer (some ⟨mb,0,none⟩)] w fun e w'=>e=.panicked (thrown 5)∧Grow w w':=by
 have h0:w.cell? ⟨mb,0,none⟩=some (.slice A st.length cap):=by rw[h.blk.cell];rfl
 have h2:w.cell? ⟨mb,2,none⟩=some (.string q.aw):=by rw[h.blk.cell];rfl
 refine aeP st.length cap mb A (fun j=>es.getD j Cc.zero) q.aw w hs h.Lj h0 h2 h.lt ?_;rw[h.oI];unfold cr at hf;rw[dE] at hf;exact hf
theorem yr(h:dm w B mb A cap es st q ck cl ch cx)(hs:st.length≤140737488355328)(hf:cr (aP st) q.aw=true){gb:Nat}(hA:A=some ⟨gb,0,none⟩) :
 Calls prog 117 #[.pointer (some ⟨mb,0,none⟩)] w fun e w'=>e=.returned (.pointer (some ⟨gb,bg (aP st) q.aw*3,none⟩))∧Grow w w':=by
 subst hA;have h0:w.cell? ⟨mb,0,none⟩=some (.slice (some ⟨gb,0,none⟩) st.length cap):=by rw[h.blk.cell];rfl
 have h2:w.cell? ⟨mb,2,none⟩=some (.string q.aw):=by rw[h.blk.cell];rfl
 have:=aeQ st.length cap mb gb 0 (fun j=>es.getD j Cc.zero) q.aw w hs h.Lj h0 h2 h.lt (by
  rw[h.oI];unfold cr at hf;rw[dE] at hf;exact hf)
 rw[h.oI,eo] at this;unfold bg;rw[dE];exact this
theorem dm.gb(h:dm w B mb A cap es st q ck cl ch cx)(hf:cr (aP st) q.aw=true):∃gb,A=some ⟨gb,0,none⟩∧B≤gb∧gb<w.heap.size∧gb≠mb:=by
 have hl:=(iC hf).2.2.2;obtain⟨g,cur,e,hb,hg,-⟩:=ju h.own.row (by omega);refine⟨g,e,hb,(qq.1 hg).1,fun e'=>?_⟩;exact cU h.own.row h.blk (by decide) (by rw[e,← e'];rfl)
theorem dm.co(h:dm w B mb A cap es st q ck cl ch cx)(hf:cr (aP st) q.aw=true){gb:Nat}(hA:A=some ⟨gb,0,none⟩):∃e,es[bg (aP st) q.aw]?=some e∧eY w B e (bX st q.aw) ∧
 (∀i v,e.cells[i]?=some v→w.cell? ⟨gb,bg (aP st) q.aw*3+i,none⟩=some v):=by
 obtain⟨h1,-,-,hl⟩:=iC hf;have hl':bg (aP st) q.aw<es.length:=by rw[h.el];exact hl
 refine⟨es[bg (aP st) q.aw],bH hl',h.own.two.2 _ _ _ (bH hl') h1,fun i v hi=>?_⟩;obtain⟨bk,o,e,-,hc⟩:=h.Lj _ hl;rw[hA] at e;injection e with e;injection e with e1 e2;subst e1 e2;have hget:es.getD (bg (aP st) q.aw) Cc.zero=es[bg (aP st) q.aw]:=by rw[gy,bH hl'];rfl
 have:=hc i v (by dsimp only;rw[hget];exact hi);rwa [eo] at this
end
def nJ(w:World)(B mb:Nat)(r:mS)(e:Ending)(w':World):Prop:=
 Below B w w'∧match r with
  | .error k=>e=.panicked (thrown k)
  | .ok (st',n,ag)=>e=.returned (.tuple #[])∧mb<w'.heap.size∧∃A cap dA dc,w'.cell? ⟨mb,0,none⟩=some (.slice A st'.length cap)∧cQ w' A cap st' ∧
   w'.cell? ⟨mb,28,none⟩=some (.int .i64 n)∧w'.cell? ⟨mb,29,none⟩=some (.slice dA ag.length dc)∧InL w' dA dc ag
theorem nJ.err{r:mS}{k:Int}(hb:Below B w w')(hr:r=.error k):nJ w B mb r (.panicked (thrown k)) w':=by subst hr;exact⟨hb,rfl⟩
theorem nJ.ok{r:mS}{n:Int}(hb:Below B w w')(hr:r=.ok (st',n,ag))(hm:mb<w'.heap.size){cap dc:Nat}(h0:w'.cell? ⟨mb,0,none⟩=some (.slice A st'.length cap))(hs:cQ w' A cap st')
 (Ll:w'.cell? ⟨mb,28,none⟩=some (.int .i64 n)) (Qk:w'.cell? ⟨mb,29,none⟩=some (.slice dA ag.length dc)) (hd:InL w' dA dc ag):nJ w B mb r (.returned (.tuple #[])) w':=by
 subst hr;exact⟨hb,rfl,hm,A,cap,dA,dc,h0,hs,Ll,Qk,hd⟩
def Es(N:Nat)(w:World)(B mb:Nat)(e:Ending)(w':World):Prop:=∃r,eJ N r∧nJ w B mb r e w'
theorem Es.err{k:Int}(hb:Below B w w')(hk:k≠0):Es N w B mb (.panicked (thrown k)) w':=⟨_,aes hk,nJ.err hb rfl⟩
theorem InL.nil(w:World):InL w none 0 []:=by
 unfold InL In;rw[IsV];exact⟨rfl,rfl,rfl,rfl,rfl,by decide,by decide,by decide,by simp,by simp,by simp,by simp,by simp,by simp,⟨rfl,fun h=>by simp at h⟩,fun i hi=>by simp at hi,fun i hi=>by simp at hi⟩
end
abbrev pO:=@nJ.err
abbrev vk:=@Es.err
abbrev vo:=@InL.nil
abbrev wY:=@nJ.ok
abbrev yt:=@dm.short
def Lm(w:World)(S:Nat→Prop):Prop:=∀q,S q→∃T cs,Blk w q T cs∧T≠27∧T≠64
theorem eY.far{e:Cc}{c:Co}(h:eY w B e c)(hT:Lm w S):(∀g,ba e.dA=some g→¬ S g)∧(∀g,ba e.xA=some g→¬ S g):=by
 obtain⟨cs,h1,h2⟩:=h.ag;refine⟨fun g hg hs=>?_,fun g hg hs=>?_⟩
 ·obtain⟨T,ds,hb,t1,t2⟩:=hT g hs;exact cU h1 hb (fun e=>t1 e.symm) hg
 obtain⟨T,ds,hb,t1,t2⟩:=hT g hs;exact cU h.aj hb (fun e=>t2 e.symm) hg
theorem eY.jf{e:Cc}{c:Co}(h:eY w B e c)(hB:B≤w.heap.size)(hl:c.ag.length≤140737488355328):qL w e c:=
 (h.r (S:=fun _=>False) hB (fun _ h=>h.elim) (fun _ _ h=>h) (fun _ _ h=>h) hl).mono jS
theorem eY.grow{e:Cc}{c:Co}(h:eY w B e c)(hB:B≤w.heap.size)(hg:Grow w w'):eY w' B e c:=h.keep (gN (S:=fun _=>False) hg) hB (fun _ h=>h.elim) (fun _ _ h=>h) (fun _ _ h=>h)
theorem Ql{cap':Nat}{es':List Cc}(two:Two (eY w B) es' st')(hk:Kept S w w')(hB:B≤w.heap.size)(hs:∀q,S q→B≤q)(hT:Lm w S)(hl:∀c∈st',c.ag.length≤140737488355328)
 (hrow:w'.ownsRow B 48 3 (.slice A' st'.length cap') st'.length (cY es')):cQ w' A' cap' st':=by
 refine⟨(mW hrow).1,es',⟨two.1,fun j e c he hc=>?_⟩,(lM (S:=fun _=>False) hrow (fun _ _ h=>h)).mono jS⟩;have ho:=two.2 j e c he hc;have hf:=ho.far hT;exact(ho.keep hk hB hs hf.1 hf.2).jf (aV hB hk.size) (hl c (Be hc))
theorem aeS{cap p:Nat}{e':Cc}{c':Co}(h:Own w B A cap es st)(hk:Kept S w w')(hB:B≤w.heap.size)(hs:∀q,S q→B≤q)
 (ho:∀(j:Nat) (e:Cc),j≠p→es[j]?=some e→(∀g,ba e.dA=some g→¬ S g)∧(∀g,ba e.xA=some g→¬ S g)) (hl:∀c∈st,c.ag.length≤140737488355328) (hp:qL w' e' c')
 (hrow:w'.ownsRow B 48 3 (.slice A st.length cap) st.length (cY (es.set p e'))):cQ w' A cap (st.set p c'):=by
 refine⟨by rw[gW];exact(mW hrow).1,es.set p e',Two.set' h.two.1 p (fun j e c hj he hc=>?_) hp,?_⟩
 ·have wZ:=h.two.2 j e c he hc;have hf:=ho j e hj he;exact(wZ.keep hk hB hs hf.1 hf.2).jf (aV hB hk.size) (hl c (Be hc))
 rw[gW];exact(lM (S:=fun _=>False) hrow (fun _ _ h=>h)).mono jS
section
variable {w:World} {B mb cap:Nat} {A:Option Addr} {es:List Cc} {st:List Co} {q:Rq} {ck cl ch cx:Cv}
theorem dm.Qm(h:dm w B mb A cap es st q ck cl ch cx){gb:Nat}(hA:A=some ⟨gb,0,none⟩)(hn:0<st.length):Lm w (fun q=>q=mb∨q=gb):=by
 rintro q (rfl | rfl)
 ·exact⟨_,_,h.blk,by decide,by decide⟩
 subst hA;obtain⟨g,cur,e,hb,hg,-⟩:=ju h.own.row hn
 cases e
 exact⟨_,_,hg,by decide,by decide⟩
theorem dm.aeT(h:dm w B mb A cap es st q ck cl ch cx):Lm w (fun q=>q=mb):=by
 rintro q rfl;exact⟨_,_,h.blk,by decide,by decide⟩
theorem dm.Cf(h:dm w B mb A cap es st q ck cl ch cx):ba A≠some mb:=cU h.own.row h.blk (by decide)
theorem dm.finish(h:dm w B mb A cap es st q ck cl ch cx)(hk:Kept (fun q=>q=mb) w w')(hl:∀c∈st,c.ag.length≤140737488355328):cQ w' A cap st:=
 Ql h.own.two hk h.le (fun q hq=>hq ▸ h.lo) h.aeT hl (fG h.own.row hk (fun g hg e=>h.Cf (e ▸ hg)))
end
theorem cz.dl(h:cz N st)(hN:N≤1000000):∀c∈st,c.ag.length≤140737488355328:=fun c hc=>by have:=(h.co c hc).nd;omega
theorem aeU(N B mb cap:Nat)(A:Option Addr)(es:List Cc)(st:List Co)(q:Rq)(ck cl ch cx:Cv)(w:World)(h:dm w B mb A cap es st q ck cl ch cx)(hok:cz N st)(hN:N≤1000000) :
 Calls prog 87 #[.pointer (some ⟨mb,0,none⟩)] w (nJ w B mb (countP st q)):=by
 have hs:st.length≤140737488355328:=yt hok;have HM:=aa h;have bD:=aa hok
 cases hf:cr (aP st) q.aw with
 | false =>
  have HC:=aa (zL h hs hf);have HF:=aa hf;clear h hok hf;go_enter func87,ntmps87;go_wp2_with fail;refine HC.o.mono ?_;rintro e w1 ⟨rfl,hg⟩;go_wp2_with fail;exact⟨rfl,pO (hg.below.mono HM.o.le) (by unfold countP;rw[aD HF.o])⟩
 | true =>
  obtain⟨gb,hA,hgb,hgl,hne⟩:=h.gb hf;obtain⟨e,he,aA,hcell⟩:=h.co hf hA;have HC:=aa (yr h hs hf hA);have tA:=aa aA.dn;have gH:=aa (hok.dl hN _ (iC hf).2.1);have hd:=hcell 1 _ rfl;have HF:=aa hf;have iD:=aa hcell;have HD:=aa hd;have iK:=aa hgl;obtain⟨P,hP⟩:∃P,bg (aP st) q.aw=P:=⟨_,rfl⟩;rw[hP] at HC HD;clear h hok hf he aA hcell hd hP hgl;go_enter func87,ntmps87;go_wp2_with fail;refine HC.o.mono ?_;rintro e w1 ⟨rfl,hg⟩;have hd:=(hg.below.cell (p:=⟨gb,P*3+1,none⟩) iK.o).trans HD.o;have hm:=(HM.o.grow hg).blk.cell;have hf:=(HM.o.grow hg).blk.frozen;have HG:=aa hg;clear hg;go_wp2_with fail;go_end0;have HB:=((HM.o.grow HG.o).blk.aY 28 (.int .i64 (e.dn:Int)))
  refine wY (ag:=[]) (Below.setCell (HG.o.below.mono HM.o.le) (p:=⟨mb,28,none⟩) HM.o.lo _) (by unfold countP;rw[ak (by rw[HF.o];decide)]) HB.lt (A:=A) (cap:=cap) (dA:=none) (dc:=0) (HB.cell 0) ?_ ((HB.cell 28).trans (by rw[tA.o];rfl)) (HB.cell 29) (vo _);exact(HM.o.grow HG.o).finish (mr (S:=fun q=>q=mb) (cZ _ _) (p:=⟨mb,28,none⟩) rfl _) (bD.o.dl hN)
theorem vp{R:Ending→World→Prop}{c:List PanicEntry}(h:bodyPost P F R (.panic c) (a.put d v) w):bodyPost P F R (.panic c) a w:=by cases d<;>exact h
abbrev Ix.zero:Ix:=⟨⟨#[]⟩,⟨#[]⟩,false⟩
theorem Lp{xA:Option Addr}{xc:Nat}(h:w.ownsRow B 64 3 (.slice xA aj.length xc) aj.length (dQ aj)):rK w xA 3 aj.length (fun j=>(aj.getD j Ix.zero).cells):=fun j hj=>by
 have hr:=lM (S:=fun _=>False) h (fun _ _ h=>h);obtain⟨bk,o,e,hc⟩:=hr.2 (by omega);have hc0:=hc 0 _ (bH (by rw[aee];omega));refine⟨bk,o,e,hc0.2.1,fun i v hi=>?_⟩;have h3:i<3:=by
  rcases gp i 3 with h3 | h3
  ·exact h3
  rw[sN (by simpa using h3)] at hi;cases hi
 have hget:aj.getD j Ix.zero=aj[j]:=by rw[gy,bH hj];rfl
 change (aj.getD j Ix.zero).cells[i]?=some v at hi;rw[hget] at hi;have:=hc (j*3+i) v (by rw[dQ,mV _ 3 (fun _=>rfl) aj j i h3 aj[j] (bH hj)];rw[nC];exact hi);rw[← lu] at this;exact this.1
theorem aeV(aj:List Ix):(fun j=>(aj.getD j Ix.zero).name)=fun j=>(aj.map Ix.name).getD j ⟨#[]⟩:=by
 funext j;rw[gy,gy,sS]
 cases aj[j]?<;>rfl
section
variable {w:World} {B mb cap gb P:Nat} {A:Option Addr} {es:List Cc} {st:List Co} {q:Rq} {ck cl ch cx:Cv} {e:Cc} {c:Co}
theorem Qn(h:dm w B mb A cap es st q ck cl ch cx)(aA:eY w B e c)(hcell:∀i v,e.cells[i]?=some v→w.cell? ⟨gb,P*3+i,none⟩=some v)(hgl:gb<w.heap.size)(hx:c.aj.length≤140737488355328) :
 Calls prog 125 #[.pointer (some ⟨mb,0,none⟩),.pointer (some ⟨gb,P*3,none⟩)] w fun r w'=>r=.returned (.tuple #[.int .i64 (bg (gM c) q.index:Nat),.bool (cr (gM c) q.index)])∧Grow w w':=by
 have h2:=hcell 2 (.slice e.xA e.xn e.xc) rfl;have hr:=Lp aA.aj;rw[aA.xn] at h2;have:=aeG c.aj.length e.xc mb gb (P*3) e.xA (fun j=>c.aj.getD j Ix.zero) q.index w hx hr h2 (by rw[h.blk.cell];rfl) h.lt hgl;rw[aeV] at this;unfold bg cr;rw[dE];exact this
theorem eY.B_(aA:eY w B e c)(hB:B≤w.heap.size)(hl:c.ag.length≤140737488355328):InL w e.dA e.dc c.ag:=(aA.jf hB hl).ag
theorem Xr(h:dm w B mb A cap es st q ck cl ch cx)(aA:eY w B e c)(hcell:∀i v,e.cells[i]?=some v→w.cell? ⟨gb,P*3+i,none⟩=some v)(hgl:gb<w.heap.size)(hl:c.ag.length≤140737488355328)(dY:∀d∈c.ag,d.count≤20000)(hk:q.key.count≤20000)(hT:dz w) :
 Calls prog 123 #[.pointer (some ⟨mb,0,none⟩),.pointer (some ⟨gb,P*3,none⟩)] w (Lh w c.ag q.key):=by
 have h1:=hcell 1 (.slice e.dA e.dn e.dc) rfl;rw[aA.dn] at h1;refine aeR c.ag q.key ck mb gb (P*3) e.dc e.dA w hk dY hl hT h1 hgl h.lt (aA.B_ h.le hl) (h.key.jf h.le) fun i v hi=>?_
 have h5:i<5:=by
  rcases gp i 5 with h5 | h5
  ·exact h5
  rw[sN (by simpa using h5)] at hi;cases hi
 rw[h.blk.cell];rcases i with _ | _ | _ | _ | _ | i
 ·exact hi
 ·exact hi
 ·exact hi
 ·exact hi
 ·exact hi
 omega
end
theorem eY.elem{e:Cc}{c:Co}(aA:eY w B e c)(D:Nat)(hD:D<c.ag.length):∃db y,e.dA=some ⟨db,0,none⟩∧db<w.heap.size∧B≤db∧dW w B c.ag[D] y ∧
 w.cell? ⟨db,D*5,none⟩=some (.int .i64 y.k)∧w.cell? ⟨db,D*5+1,none⟩=some (.int .u64 y.n)∧w.cell? ⟨db,D*5+2,none⟩=some (.slice y.aB y.nB y.cB)∧w.cell? ⟨db,D*5+3,none⟩=some (.slice y.aL y.nL y.cL)∧w.cell? ⟨db,D*5+4,none⟩=some (.slice y.aF y.nF y.cF):=by
 obtain⟨cs,hrow,jU⟩:=aA.ag;obtain⟨g,cur,e1,hb,hg,-,-,-,ht,-⟩:=ju hrow (by omega);have Xt:D<cs.length:=by rw[← jU.1];exact hD
 have hc:∀i,i<5→∀v,cs[D].cells.toList[i]?=some v→w.cell? ⟨g,D*5+i,none⟩=some v:=fun i hi v hv =>
  wV hg ht _ _ (by rw[cK,mV _ 5 (fun _=>rfl) cs D i hi cs[D] (bH Xt)];exact hv)
 exact⟨g,cs[D],e1,(qq.1 hg).1,hb,jU.at_ hD Xt,hc 0 (by omega) _ rfl,hc 1 (by omega) _ rfl,hc 2 (by omega) _ rfl,hc 3 (by omega) _ rfl,hc 4 (by omega) _ rfl⟩
theorem Xu{v:V}{c:Cv}(hv:dW w B v c)(hB:B≤w.heap.size)(hk:Kept S (w.alloc (.cells c.cells 27)) w')(hs:∀q,S q→B≤q)(hn:¬ S w.heap.size):InL w' (some ⟨w.heap.size,0,none⟩) 1 [v]:=by
 have hg:=(ah w).alloc (.cells c.cells 27);have hb:=az w 27 c.cells;have hv':IsV (dI (w.alloc (.cells c.cells 27)) S) v c:=(hv.below hg.below hB (au _)).PM (aV hB hg.size) hs;have hl:=KZ (C:=dI (w.alloc (.cells c.cells 27)) S) (A:=some ⟨w.heap.size,0,none⟩) (ag:=[v]) (cs:=[c]) (cap:=1) ⟨by rw[KY];rfl,fun _=>⟨w.heap.size,0,rfl,fun j u hu=>by
  refine⟨?_,hb.lt,hn⟩;rw[eo,hb.cell j,← hu,← nC];congr 1⟩⟩ (Two.one hv') (au _) (by simp)
 exact(hl.mono (kZ hk fun _ h=>h)).mono jS
def Sx(mb gb:Nat)(R:Option Addr)(q:Nat):Prop:=q=mb∨q=gb∨ba R=some q
def zM(e:Cc)(R:Option Addr):Prop:=R=none∨R=e.dA∨R=e.xA
section
variable {w:World} {B mb cap gb P:Nat} {A:Option Addr} {es:List Cc} {st:List Co} {q:Rq} {ck cl ch cx:Cv} {e:Cc} {c:Co} {R:Option Addr}
theorem zM.le(hR:zM e R)(aA:eY w B e c):∀g,ba R=some g→B≤g∧g<w.heap.size:=by
 intro g hg;obtain⟨cs,h1,h2⟩:=aA.ag;rcases hR with rfl | rfl | rfl
 ·cases hg
 ·exact bJ h1 g (by rw[bj];exact hg)
 exact bJ aA.aj g (by rw[bj];exact hg)
theorem zM.Qm(hR:zM e R)(aA:eY w B e c){k:Nat}(hb:Blk w k T cs)(h1:T≠27)(h2:T≠64):ba R≠some k:=by
 obtain⟨ds,r1,r2⟩:=aA.ag;rcases hR with rfl | rfl | rfl
 ·intro h;cases h
 ·exact cU r1 hb (fun e=>h1 e.symm)
 exact cU aA.aj hb (fun e=>h2 e.symm)
theorem dm.vq(h:dm w B mb A cap es st q ck cl ch cx)(hA:A=some ⟨gb,0,none⟩)(hn:0<st.length):∃cur,Blk w gb 48 cur∧B≤gb:=by
 obtain⟨g,cur,e,hb,hg,-⟩:=ju h.own.row hn;rw[hA] at e
 cases e
 exact⟨cur,hg,hb⟩
theorem Lq(h:dm w B mb A cap es st q ck cl ch cx)(hA:A=some ⟨gb,0,none⟩)(he:es[P]?=some e)(aA:eY w B e c)(hP:P<st.length)(hR:zM e R){e':Cc}{c':Co}(hk:Kept (Sx mb gb R) w w5)(hl:∀c∈st,c.ag.length≤140737488355328)(hp:qL w5 e' c')
 (hrow:w5.ownsRow B 48 3 (.slice A st.length cap) st.length (cY (es.set P e'))):cQ w5 A cap (st.set P c'):=by
 obtain⟨cur,hgb,tL⟩:=h.vq hA (by omega);refine aeS h.own hk h.le ?_ (fun j e2 hj om=>?_) hl hp hrow
 ·rintro k (rfl | rfl | hk)
  ·exact h.lo
  ·exact tL
  exact(hR.le aA k hk).1
 have zt:j<st.length:=by rw[← h.el];exact(jd.1 om).1
 have wZ:=h.own.two.2 j e2 st[j] om (bH zt);obtain⟨ds,r1,r2⟩:=wZ.ag;obtain⟨ds',s1,s2⟩:=aA.ag;refine⟨fun g hg hs=>?_,fun g hg hs=>?_⟩
 ·rcases hs with rfl | rfl | hs
  ·exact cU r1 h.blk (by decide) hg
  ·exact cU r1 hgb (by decide) hg
  rcases hR with rfl | rfl | rfl
  ·cases hs
  ·exact h.own.GF j P e2 e om he hj g hg hs
  exact BR r1 aA.aj (by decide) g hg hs
 rcases hs with rfl | rfl | hs
 ·exact cU wZ.aj h.blk (by decide) hg
 ·exact cU wZ.aj hgb (by decide) hg
 rcases hR with rfl | rfl | rfl
 ·cases hs
 ·exact BR wZ.aj s1 (by decide) g hg hs
 exact h.own.GG j P e2 e om he hj g hg hs
theorem Lr(h:dm w B mb A cap es st q ck cl ch cx)(hA:A=some ⟨gb,0,none⟩)(he:es[P]?=some e)(aA:eY w B e c)(hP:P<st.length)(hR:zM e R)(hk:Kept (fun k=>k=mb∨ba R=some k) w w4){k:Nat}{e':Cc}(hk3:k<3)(eQ:e'.cells.toList=e.cells.toList.set k v) :
 (w4.setCell ⟨gb,P*3+k,none⟩ v).ownsRow B 48 3 (.slice A st.length cap) st.length (cY (es.set P e')):=by
 obtain⟨cur,hgb,tL⟩:=h.vq hA (by omega);have hel:=h.el;obtain⟨hPe,Cg⟩:=jd.1 he;have h4:=fG h.own.row hk (fun g hg hs=>by
  rw[hA] at hg
  cases hg
  rcases hs with hs | hs
  ·exact h.Cf (by rw[hA,← hs];rfl)
  exact hR.Qm aA hgb (by decide) (by decide) hs)
 subst hA;exact PN h4 hPe hel hk3 (by rw[Cg];exact eQ)
theorem Ls{k:Nat}(hk:Kept (fun k=>k=mb∨ba R=some k) w w4)(h5:w5=w4.setCell ⟨gb,k,none⟩ v):Kept (Sx mb gb R) w w5:=by
 subst h5;exact(hk.mono (fun q hq=>hq.elim (fun h=>.inl h) (fun h=>.inr (.inr h)))).set (p:=⟨gb,k,none⟩) (.inr (.inl rfl)) v
end
theorem eY.aeW{gb D:Nat}{e:Cc}{c:Co}{cs:List Cv}(aA:eY w B e c)(jU:Two (fun v c=>dW w B v c) c.ag cs)(hB:B≤w.heap.size)(hk:Kept (Sx mb gb e.dA) w w5)(hmb:B≤mb)(hgb:B≤gb)(hD:D<c.ag.length)(hne:ba e.xA≠some mb)(Qo:ba e.xA≠some gb)
 (hrow:w5.ownsRow B 27 5 (.slice e.dA (c.ag.length-1) e.dc) (c.ag.length-1) ((cK cs).take (D*5)++(cK cs).drop ((D+1)*5))):eY w5 B ⟨e.nm,e.dA,c.ag.length-1,e.dc,e.xA,e.xn,e.xc⟩ ⟨c.name,cT c.ag D,c.aj⟩:=by
 obtain⟨ds,r1,-⟩:=aA.ag;have hS:∀q,Sx mb gb e.dA q→B≤q:=fun q hq=>by
  rcases hq with rfl | rfl | hq
  ·exact hmb
  ·exact hgb
  exact(bJ r1 q (by rw[bj];exact hq)).1
 have hl:(cT c.ag D).length=c.ag.length-1:=PX hD;refine⟨aA.nm,hl.symm,aA.xn,⟨cT cs D,?_,(jU.del D).mono fun v c hv=>hv.keep hk hB hS⟩,fG aA.aj hk (fun g hg hs=>?_)⟩
 ·dsimp only;rw[hl,show cK (cT cs D)=(cK cs).take (D*5)++(cK cs).drop ((D+1)*5) from (PJ _ 5 (fun _=>rfl) cs D).symm];exact hrow
 rcases hs with rfl | rfl | hs
 ·exact hne hg
 ·exact Qo hg
 exact BR aA.aj r1 (by decide) g hg hs
theorem eY.Xv{gb c5:Nat}{e:Cc}{c:Co}(aA:eY w B e c)(hB:B≤w.heap.size)(hk:Kept (Sx mb gb e.xA) w w5)(hmb:B≤mb)(hgb:B≤gb)(hne:ba e.dA≠some mb)(Qo:ba e.dA≠some gb)
 (hrow:w5.ownsRow B 64 3 (.slice A5 aj.length c5) aj.length (dQ aj)):eY w5 B ⟨e.nm,e.dA,e.dn,e.dc,A5,aj.length,c5⟩ ⟨c.name,c.ag,aj⟩:=by
 obtain⟨ds,r1,r2⟩:=aA.ag;have hS:∀q,Sx mb gb e.xA q→B≤q:=fun q hq=>by
  rcases hq with rfl | rfl | hq
  ·exact hmb
  ·exact hgb
  exact(bJ aA.aj q (by rw[bj];exact hq)).1
 refine⟨aA.nm,aA.dn,rfl,⟨ds,fG r1 hk (fun g hg hs=>?_),r2.mono fun v c hv=>hv.keep hk hB hS⟩,hrow⟩;rcases hs with rfl | rfl | hs
 ·exact hne hg
 ·exact Qo hg
 exact BR r1 aA.aj (by decide) g hg hs
theorem Lt{n D:Nat}(h:w.ownsRow base T z (.slice (some ⟨g,0,none⟩) n c) n xs)(hD:D<n)(hz:vs.length=z) :
 (w.setCells g (D*z) vs).ownsRow base T z (.slice (some ⟨g,0,none⟩) n c) n (xs.take (D*z)++vs++xs.drop ((D+1)*z)):=by
 obtain⟨g',cur,e,hb,hg,h1,h2,h3,ht,hl⟩:=ju h (by omega)
 cases e
 have hDz:D*z+z≤n*z:=by rw[← uz];exact gq z hD
 have hnz:n*z≤cur.size:=by rw[h3];exact gq z h1
 obtain⟨cur',hg',hs',hl'⟩:=w_ hg vs (o:=D*z) (by omega);have e1:(D+1)*z=D*z+z:=by rw[ki,n_]
 refine Ej hb hg' h1 h2 (by rw[hs',h3]) ?_ ?_
 ·rw[hl',List.take_append,rB (by simp[hz];omega),← ht,e1,List.drop_take,FZ,pj (by omega)];simp only[bp,dU,xI,pj (show D*z≤cur.size by omega),hz]
 rw[bp,bp,dU,iw,hl,hz,e1];omega
theorem aeX(ty:TypeId)(h:wpList P ops Q (⟨none,.store ty x y,t,p,af,none⟩::rest) a w):wpList P ops Q (⟨none,.store ty x y,t,p,af,none⟩::rest) a w:=h
section
open Go.Shelf Go.RowKit Go.Lib Go.Sort
theorem Grow.trans'{a b c:World}(h:Grow a b)(k:Below a.heap.size b c):Grow a c:=cJ h k
def Xw(Y:Nat→Prop)(w:World)(dC:Nat)(p:Addr)(u:Value):Prop:=w.cell? p=some u∧p.block<dC∧¬ Y p.block
abbrev jv(Y:Nat→Prop)(w:World)(dC:Nat)(v:V)(c:Cv):Prop:=IsV (Xw Y w dC) v c
theorem jv.keep{K:Nat→Prop}{v:V}{c:Cv}(h:jv Y w dC v c)(hk:Kept K w w')(hd:dC≤w.heap.size)(hs:∀q,K q→dC≤q):jv Y w' dC v c:=
 dX (fun p u hp=>⟨(uy (hk.block p.block (bG hp.2.1 hd) (fun hq=>by have:=hs _ hq;have:=hp.2.1;omega))).trans hp.1,hp.2.1,hp.2.2⟩) _ _ h
theorem jv.below{v:V}{c:Cv}(h:jv Y w dC v c)(hg:Grow w w')(hd:dC≤w.heap.size):jv Y w' dC v c:=jv.keep h (gN (S:=fun _=>False) hg) hd (fun _ h=>h.elim)
theorem jv.jf{v:V}{c:Cv}(h:jv Y w dC v c)(hd:dC≤w.heap.size):In w v c:=dX (fun p u hp=>⟨hp.1,aR _,bG hp.2.1 hd⟩) _ _ h
theorem jv.fh{k:Int}{n:Nat}{b:List UInt8}{l:List V}{f:List (ByteArray×V)}{c:Cv}(h:jv Y w hi (.mk k n b l f) c)(i:Nat)(hil:i<l.length) :
 ∃bk o x,c.aL=some ⟨bk,o,none⟩∧bk<hi∧w.cell? ⟨bk,o+i*5,none⟩=some (.int .i64 x.k)∧w.cell? ⟨bk,o+i*5+1,none⟩=some (.int .u64 x.n) ∧
  w.cell? ⟨bk,o+i*5+2,none⟩=some (.slice x.aB x.nB x.cB)∧w.cell? ⟨bk,o+i*5+3,none⟩=some (.slice x.aL x.nL x.cL) ∧
  w.cell? ⟨bk,o+i*5+4,none⟩=some (.slice x.aF x.nF x.cF)∧jv Y w hi l[i] x:=by
 unfold jv at h;rw[IsV] at h;obtain⟨bk,o,x,e,⟨h0,h1,h2,h3,h4⟩,hx⟩:=h.2.2.2.2.2.2.2.2.2.2.2.2.2.2.2.1 i hil;exact⟨bk,o,x,e,h0.2.1,h0.1,h1.1,h2.1,h3.1,h4.1,hx⟩
structure yu (Y:Nat→Prop) (w:World) (lo dC:Nat) (e:gD) (x:V):Prop where
 sz:∃s:Nat,e.sz=s∧s≤e.b.length
 doc:jv Y w dC x e.d
 row:∃base,lo≤base∧Row w base (.slice e.A e.b.length e.c) e.b.length e.b
def cellsE(es:List gD):List Value:=(es.map fun e=>e.cells.toList).flatten
theorem Lu(es:List gD):(cellsE es).length=es.length*7:=BP _ 7 (fun _=>rfl) es
theorem yu.keep{e:gD}{x:V}(h:yu Y w lo dC e x)(hk:Kept S w w')(hlo:lo≤w.heap.size)(bA:dC≤lo)(hs:∀q,S q→lo≤q)(hd:∀g,ba e.A=some g→¬ S g):yu Y w' lo dC e x:=by
 obtain⟨base,hb,hr⟩:=h.row;exact⟨h.sz,jv.keep h.doc hk (aV bA hlo) (fun q hq=>aV bA (hs q hq)),base,hb,fG hr hk hd⟩
theorem yu.grow{e:gD}{x:V}(h:yu Y w lo dC e x)(hg:Grow w w')(hlo:lo≤w.heap.size)(bA:dC≤lo):yu Y w' lo dC e x:=
 h.keep (gN (S:=fun _=>False) hg) hlo bA (fun _ h=>h.elim) (fun _ _ h=>h)
structure mY (Y:Nat→Prop) (w:World) (lo dC:Nat) (A:Option Addr) (c:Nat) (es:List gD) (l:List V):Prop where
 row:w.ownsRow lo 115 7 (.slice A es.length c) es.length (cellsE es)
 two:Two (yu Y w lo dC) es l
 dl:dC≤lo
theorem mY.ne{es:List gD}{l:List V}(h:mY Y w lo dC A c es l){e:gD}{x:V}(he:yu Y w lo dC e x):∀g,ba e.A=some g→¬ Value.ownBlock (.slice A es.length c)=some g:=by
 intro g hg hA;obtain⟨base,hb,hr⟩:=he.row;rw[bj] at hA;exact BR h.row hr (by decide) g hA hg
theorem mY.grow{es:List gD}{l:List V}(h:mY Y w lo dC A c es l)(hg:Grow w w')(hlo:lo≤w.heap.size):mY Y w' lo dC A c es l:=
 ⟨kG h.row hg,h.two.mono fun e x he=>he.grow hg hlo h.dl,h.dl⟩
theorem mY.add{es:List gD}{l:List V}(h:mY Y w lo dC A c es l)(hlo:lo≤w.heap.size){e:gD}{x:V}(he:yu Y w lo dC e x)
 (hr:w'.ownsRow lo 115 7 (.slice A' (es.length+1) c') (es.length+1) (cellsE es++e.cells.toList)) (hg:w.grownBy w' (Value.ownBlock (.slice A es.length c))):mY Y w' lo dC A' c' (es++[e]) (l++[x]):=by
 have hk:=pM hg;have hS:∀q,Value.ownBlock (.slice A es.length c)=some q→lo≤q:=fun q hq=>(bJ h.row q hq).1
 refine⟨?_,(Two.append (h.two.mono fun e x he=>he.keep hk hlo h.dl hS (h.ne he)) (Two.one (he.keep hk hlo h.dl hS (h.ne he)))),h.dl⟩;rw[bp,FM,cellsE,l7,xJ,fN,nW,l8,Fz,oZ];exact hr
theorem mY.nil(Y:Nat→Prop)(w:World)(lo dC:Nat)(h:dC≤lo):mY Y w lo dC none 0 [] []:=⟨jb _ _ _ _,Two.nil,h⟩
def Qp(Y:Nat→Prop)(w:World)(dC:Nat)(ag:List V)(e:Ending)(w':World):Prop:=
 Grow w w'∧∃er A c es l,e=.returned (.tuple #[.slice A es.length c,.int .i64 er])∧mY Y w' w.heap.size dC A c es l∧(∀d∈l,d∈ag)∧es.length≤ag.length
theorem Xx:prog.underlying 111=some (.slice 115):=by kernel_rfl
theorem aeY:(prog.info? 115).map (fun i=>(i.zero,i.size,i.bytes))=some (some (.agg #[.slice none 0 0,.int .i64 0,.int .i64 0,.int .u64 0,.slice none 0 0,.slice none 0 0,.slice none 0 0]),7,120):=by kernel_rfl
theorem Src.ent(e:gD)(t:TypeId)(hg:g=w.heap.size):Src prog 7 111 (.slice (some ⟨g,0,none⟩) 1 1) 1 e.cells.toList (w.alloc (.cells e.cells t)):=by
 subst hg;exact Src.ofSlice _ Xx ⟨w.heap.size,0,none⟩ 1 1 _ rfl (fun j u hu=>by
  rw[add_lit,eo,(az w t e.cells).cell j,← hu,nC]) (fun u hu=>by
  simp only[jI,wu,wB] at hu;rcases hu with rfl | rfl | rfl | rfl | rfl | rfl | rfl<;>rfl)
theorem aeZ{α:Type}[Inhabited α](enc:α→List Value)(k:Nat)(w:World)(g n:Nat)(d:Array α)(os:Array Obj){fr:Nat×Nat}(hg:w.heap[g]?=some (.cells cur T fr)) :
 (sortWorldK enc k w g 0 n d os).heap[g]?=some (.cells (putCells id 0 (flatK enc k d) cur) T fr):=by
 have hl:=(qq.1 hg).1;unfold sortWorldK grow putRowK putRow mapBlock Sort.ahead;dsimp only;rw[Array.getElem?_append_left (by rw[Array.size_modify];exact hl),AQ,aD rfl,hg];rfl
theorem ae0{α:Type}[Inhabited α](enc:α→List Value)(k:Nat)(w:World)(g n:Nat)(d:Array α)(os:Array Obj){q:Nat}(hq:q<w.heap.size)(hne:q≠g) :
 (sortWorldK enc k w g 0 n d os).heap[q]?=w.heap[q]?:=by
 unfold sortWorldK grow putRowK putRow mapBlock Sort.ahead;dsimp only;rw[Array.getElem?_append_left (by rw[Array.size_modify];exact hq),AQ,ak (fun e=>hne e.symm)]
theorem ae1{α:Type}[Inhabited α](enc:α→List Value)(k:Nat)(w:World)(g n:Nat)(d:Array α)(os:Array Obj):Kept (fun q=>q=g) w (sortWorldK enc k w g 0 n d os):=
 ⟨rfl,rfl,rfl,size_sortWorldK_c _ _ _ _ _ _ _ _,fun q hq hne=>ae0 enc k w g n d os hq hne⟩
theorem ae2{α β:Type}{R:α→β→Prop}{l m:List α}(hp:l.Perm m):∀{k:List β},Two R m k→∃k',k'.Perm k∧Two R l k':=by
 induction hp with
 | nil=>intro k h;exact⟨k,List.Perm.refl _,h⟩
 | cons x hp ih =>
  intro k h
  cases k with
  | nil=>have:=h.1;simp at this
  | cons y k =>
   have hxy:R x y:=h.2 0 x y rfl rfl;have ht:Two R _ k:=⟨by have:=h.1;simpa using this,fun j a b ha hb=>h.2 (j+1) a b (by simpa using ha) (by simpa using hb)⟩;obtain⟨k',h1,h2⟩:=ih ht;exact⟨y::k',h1.cons y,Two.cons hxy h2⟩
 | swap x y l =>
  intro k h
  match k,h with
  | [],h=>have:=h.1;simp at this
  | [a],h=>have:=h.1;simp at this
  | a::b::k,h =>
   have h0:R x a:=h.2 0 x a rfl rfl;have h1:R y b:=h.2 1 y b rfl rfl;have ht:Two R l k:=⟨by have:=h.1;simpa using this,fun j c d hc hd=>h.2 (j+2) c d (by simpa using hc) (by simpa using hd)⟩;exact⟨b::a::k,List.Perm.swap a b k,Two.cons h1 (Two.cons h0 ht)⟩
 | trans _ _ ih1 ih2 =>
  intro k h;obtain⟨k1,p1,t1⟩:=ih2 h;obtain⟨k2,p2,t2⟩:=ih1 t1;exact⟨k2,p2.trans p1,t2⟩
theorem ae3(Y:Nat→Prop)(lo dC c:Nat)(A:Option Addr)(es:List gD)(l:List V)(w:World)(h:mY Y w lo dC A c es l)(hlo:lo≤w.heap.size)(hn:es.length<1152921504606846976) :
 Calls prog 107 #[.slice A es.length c,.func (.func 108) #[] #[]] w fun e w'=>e=.returned (.tuple #[])∧Below lo w w'∧∃es' l',mY Y w' lo dC A c es' l'∧l'.Perm l∧es'.length=es.length:=by
 rcases AU es.length with h0 | h0
 ·rw[h0];refine(ae4 A c _ w).mono ?_;rintro e w' ⟨rfl,rfl⟩;have hes:es=[]:=l5 h0;subst hes;have hl:l=[]:=l5 h.two.1.symm;subst hl;exact⟨rfl,jH _ _,[],[],h,List.Perm.refl _,rfl⟩
 obtain⟨g,cur,hA,hb,hg,hnc,hcm,hcs,ht,-⟩:=ju h.row h0;subst hA;have hin:∀e∈es,Lv w g e:=fun e he=>by
  obtain⟨j,hj,rfl⟩:=sQ he;have hj':j<l.length:=by rw[← h.two.1];exact hj
  have hv:=h.two.at_ hj hj';obtain⟨base,hbase,hr⟩:=hv.row;have:=lM (S:=fun q=>q=g) hr (fun q hq Qq=>by
   subst Qq;exact h.ne hv q hq rfl)
  exact this
 have hi:Inhabited (zN w g):=⟨⟨es[0],hin _ (aS h0)⟩⟩;obtain⟨d,hd⟩:∃d:Array (zN w g),d=(es.attach.map fun e=>(⟨e.1,hin e.1 e.2⟩:zN w g)).toArray:=⟨_,rfl⟩;have hsz:d.size=es.length:=by rw[hd];simp
 have hval:d.toList.map Subtype.val=es:=by
  rw[hd];simp[List.attach_map_subtype_val,ma,Function.comp_def]
 have hat:∀j (hj:j<es.length),(d[j]!).1=es[j]:=fun j hj=>by
  rw[getElem!_pos d j (by omega)];simp[hd]
 have HR:RowK (pP (w:=w) (blk:=g)) 7 w g 0 d:=by
  refine⟨ae5,ae6,?_,(qq.1 hg).1⟩;intro t htl;have hts:(flatK (pP (w:=w) (blk:=g)) 7 d).size=es.length*7:=by rw[size_flatK,hsz]
  have Qr:t<es.length*7:=by rw[← hts];exact htl
  have hcell:=wV hg ht t ((cellsE es)[t]'(by rw[Lu];exact Qr)) (bH _);have hfr:=(mv hg t (by rw[hcs];have:=gq 7 hnc;omega)).2;rw[eo];refine⟨?_,hfr⟩;rw[hcell,get_flatK _ _ _ _ (by rw[hsz];exact Qr)];have hq:t / 7<es.length:=by omega
  have hfz:=mV (fun e:gD=>e.cells.toList) 7 (fun _=>rfl) es (t / 7) (t % 7) (by omega) es[t / 7] (bH hq);have hte:t / 7*7+t % 7=t:=by omega
  rw[hte] at hfz;have hfz':(cellsE es)[t]?=es[t / 7].cells.toList[t % 7]?:=hfz;rw[bH (by rw[Lu];exact Qr)] at hfz';rw[hfz',show pP d[t / 7]! = es[t / 7].cells.toList by unfold pP;rw[hat _ hq]];simp only[id];rw[getElem!_pos es[t / 7].cells.toList (t % 7) (show t % 7<es[t / 7].cells.toList.length from Bb _ (by decide)),bH]
 have HS:=ae7 7 (fun w=>by kernel_rfl) (pP (w:=w) (blk:=g)) Qs ae8 108 #[] (fun args w=>by kernel_rfl) g 0 c d w HR (ae9 w g 0 d.size) (by omega);rw[hsz] at HS;refine HS.mono ?_;rintro e w' ⟨rfl,d',hp,hW⟩;have hsz':d'.size=es.length:=by rw[hp.size,hsz]
 obtain⟨n,os,hw'⟩:=hW;have Et:Kept (fun q=>q=g) w w':=by rw[hw'];exact ae1 _ _ _ _ _ _ _
 have hblk:=aeZ (pP (w:=w) (blk:=g)) 7 w g n d' os hg;rw[← hw'] at hblk;obtain⟨es',Qt⟩:∃es',d'.toList.map Subtype.val=es':=⟨_,rfl⟩;have hlen':es'.length=es.length:=by rw[← Qt];simp[hsz']
 have hat':∀j (hj:j<es'.length),(d'[j]!).1=es'[j]:=fun j hj=>by
  rw[getElem!_pos d' j (by omega)];simp[← Qt]
 have hperm:es'.Perm es:=by
  have Eu:=hp.2.2;have e1:d'.extract 0 es.length=d':=by rw[← hsz'];exact Array.extract_size
  have e2:d.extract 0 es.length=d:=by rw[← hsz];exact Array.extract_size
  rw[hsz,e1,e2] at Eu;rw[← Qt,← hval];exact Eu.map _
 have Xy:(putCells id 0 (flatK (pP (w:=w) (blk:=g)) 7 d') cur).size=cur.size:=by unfold putCells;simp
 have hfl:(flatK (pP (w:=w) (blk:=g)) 7 d').size=es.length*7:=by rw[size_flatK,hsz']
 have hbig:es.length*7≤cur.size:=by rw[hcs];exact gq 7 hnc
 have htake:(putCells id 0 (flatK (pP (w:=w) (blk:=g)) 7 d') cur).toList.take (es.length*7)=cellsE es':=by
  apply List.ext_getElem?;intro t;rw[Df];split
  ·rename_i Qu;have hq:t / 7<es'.length:=by omega
   have hfz:=mV (fun e:gD=>e.cells.toList) 7 (fun _=>rfl) es' (t / 7) (t % 7) (by omega) es'[t / 7] (bH hq);have hte:t / 7*7+t % 7=t:=by omega
   rw[hte] at hfz;have hfz':(cellsE es')[t]?=es'[t / 7].cells.toList[t % 7]?:=hfz;rw[hfz',nC,Array.getElem?_eq_getElem (by rw[Xy];omega)];unfold putCells;rw[Array.getElem_mapIdx,aD ⟨aR _,by rw[hfl];omega⟩];rw[Nat.sub_zero,get_flatK _ _ _ _ (by rw[hsz'];exact Qu)];have:pP d'[t / 7]! = es'[t / 7].cells.toList:=by unfold pP;rw[hat' _ hq]
   rw[this,getElem!_pos es'[t / 7].cells.toList (t % 7) (show t % 7<es'[t / 7].cells.toList.length from Bb _ (by decide)),bH];rfl
  rw[FQ (by rw[Lu];omega)]
 have hrow':w'.ownsRow lo 115 7 (.slice (some ⟨g,0,none⟩) es'.length c) es'.length (cellsE es'):=
  Ej hb hblk (by rw[hlen'];exact hnc) hcm (by rw[Xy];exact hcs) (by rw[hlen'];exact htake) (Lu es')
 have hlB:∀q,q=g→lo≤q:=fun q hq=>hq ▸ hb
 obtain⟨l',ae_,afa⟩:=ae2 hperm h.two;refine⟨rfl,?_,es',l',⟨hrow',afa.mono fun e x he=>he.keep Et hlo h.dl hlB fun q hq Qq=>?_,h.dl⟩,ae_,hlen'⟩
 ·exact⟨Et.os,Et.tape,Et.output,Et.size,fun q hq=>Et.block q (bG hq hlo) (fun e=>by omega)⟩
 exact h.ne he q hq (by rw[Qq];rfl)
theorem Xz(Y:Nat→Prop)(dC:Nat)(nm:ByteArray)(ag:List V)(dA xA:Option Addr)(dc xn xc:Nat)(x:Ix)(w:World)(hd:jv Y w dC (.mk 7 0 [] ag []) (js dA ag.length dc))(bA:dC≤w.heap.size)(hx:x.path.size<4294967281)(hok:∀d∈ag,gh d)(hl:ag.length≤1000000000)(hT:dz w)(hM:kD w) :
 Calls prog 60 #[.agg #[.string nm,.slice dA ag.length dc,.slice xA xn xc],.agg x.cells] w (Qp Y w dC ag):=by
 have aN:=aa (((ah w).alloc (.cells #[.string nm,.slice dA ag.length dc,.slice xA xn xc] 48)).alloc (.cells x.cells 64));have uM:=aa ((az w 48 #[.string nm,.slice dA ag.length dc,.slice xA xn xc]).alloc (.cells x.cells 64));have Ef:=aa (cM (w:=w.alloc (.cells #[.string nm,.slice dA ag.length dc,.slice xA xn xc] 48)) (g:=w.heap.size+1) (by simp) 64 x.cells);have HV:=aa hd;have gH:=aa bA;have HT:=aa hT;have HM:=aa hM;have bD:=aa hok;have HX:=aa hx;have HL:=aa hl;have hcc:=uM.o.cell;have kA:=Ef.o.cell;have mz:=aa (fun(v:V) (c:Cv) (W:World) (dY:v.count≤20000) (hg:Grow w W) (hv:In W v c)=>WD x v c W hx dY (hT.grow hg) (hM.grow hg) hv);clear hd bA hT hM hok hx hl;go_enter func60,ntmps60;go_wp2_with fail
 go_loopg [6,8,9,10,11,12,13,14,15,19] (ag.length+1) (fun gk o _ _ _ _ _ _ _ _ i wr=>∃(j:Nat) (A:Option Addr) (c:Nat) (es:List gD) (l:List V),j≤ag.length∧gk+j=ag.length+1∧i=.int .i64 j∧o=.slice A es.length c ∧
  mY Y wr w.heap.size dC A c es l∧(∀d∈l,d∈ag)∧es.length≤j∧Blk wr (w.heap.size+1) 64 x.cells∧Grow w wr)
 exact⟨0,none,0,[],[],aR _,rfl,rfl,rfl,mY.nil _ _ _ _ gH.o,fun _ h=>(by cases h),au _,Ef.o,aN.o⟩;obtain⟨j,A,c,es,l,hj,hg,rfl,rfl,hrow,hz,hel,fH,hgr⟩:=hrel;obtain⟨gk',rfl⟩:=bz gk (by omega);have fK:=aa hrow;have HZ:=aa hz;have bN:=aa fH;have HG:=aa hgr;have jo:=aa hel;have hl2:=HL.o;clear hrow hz fH hgr hel;by_cases hlt:j<ag.length
 ·obtain⟨bk,o,y,ha,og,e0,e1,e2,e3,e4,hy⟩:=jv.fh HV.o j hlt;have hbk:=bG og gH.o;dsimp only[js] at ha;subst ha;have HY:=aa hy;have hD:=bD.o _ (aS hlt);have HD:=aa hD;have h0:=(HG.o.below.cell (p:=⟨bk,o+j*5,none⟩) hbk).trans e0;have h1:=(HG.o.below.cell (p:=⟨bk,o+j*5+1,none⟩) hbk).trans e1;have h2:=(HG.o.below.cell (p:=⟨bk,o+j*5+2,none⟩) hbk).trans e2;have h3:=(HG.o.below.cell (p:=⟨bk,o+j*5+3,none⟩) hbk).trans e3;have h4:=(HG.o.below.cell (p:=⟨bk,o+j*5+4,none⟩) hbk).trans e4;have hx1:=(bN.o.alloc (.cells y.cells 27)).cell;have hy1:=(az wr 27 y.cells).cell;have aO:=aa (HG.o.alloc (.cells y.cells 27));have Lx:=aa (mz.o ag[j] y _ hD.count aO.o ((jv.jf hy gH.o).grow aO.o))
  obtain⟨eb,et,ee,Qv⟩:∃a b c,eB x.path ag[j]=(a,b,c):=⟨_,_,_,rfl⟩;rw[Qv] at Lx;have HEP:=aa Qv;clear hy hD e0 e1 e2 e3 e4 Qv;go_wp2_with fail;refine Lx.o.mono ?_;rintro e w2 ⟨BG,B,bc,rfl,hb2,hr2,hg2⟩;dsimp only at hr2 ⊢;have bM:=aa hr2;have bf:=aa (show w.heap.size≤BG from aV aO.o.size hb2);have HG2:=aa (aO.o.trans hg2);have XA:=aa ((fK.o.grow ((ah wr).alloc (.cells y.cells 27)) HG.o.size).grow hg2 aO.o.size);have XB:=aa ((bN.o.alloc (.cells y.cells 27)).grow hg2);have XC:=aa ((az wr 27 y.cells).grow hg2);clear hr2 hb2 hg2 h0 h1 h2 h3 h4 hx1 hy1;by_cases Cg:ee=0
  ·subst Cg
   cases et with
   | false =>
    go_wp2_with fail;go_roundg gk';exact⟨j+1,A,c,es,l,by omega,by omega,by go_num,rfl,XA.o,HZ.o,Kr jo.o,XB.o,HG2.o⟩;omega
   | true =>
    obtain⟨i,hi,hK,hkey,-,-⟩:=HD.o.id;have hid:=KV ag[j] y w w2 HG2.o (jv.jf HY.o gH.o);rw[hi] at hid;have oF:=aa hid;have HI:=aa hi;have HK:=aa hK;have afb:=aV (BK hi) HD.o.count;have hy2:=XC.o.cell;clear hid hi hkey;go_wp2_with fail;refine oF.o.mono ?_;rintro e w3 ⟨hg3,ci,t,u,rfl,hu,GX⟩;have LA:u=i∧t=true:=by
     rcases GX with ⟨h,ht⟩ | ⟨h,-⟩
     ·injection h with h;exact⟨h.symm,ht⟩
     cases h
    obtain⟨rfl,rfl⟩:=LA;have HU:=aa hu;have aG:=aa (HG2.o.trans hg3);have afc:=aa (XB.o.grow hg3);have afd:=aa (XC.o.grow hg3);have afe:=aa (XA.o.grow hg3 HG2.o.size);have cE:=aa (bM.o.grow hg3);have kB:=aa (Ps u ci (w3.alloc (.cells ci.cells 27)) HK.o.fit afb (HT.o.grow (aG.o.alloc _)) (hu.grow (aG.o.alloc _)));rw[HK.o.bl] at kB;have hc3:=(az w3 27 ci.cells).cell;clear hu GX hg3 hy2;go_wp2_with fail;refine kB.o.mono ?_;rintro e w4 ⟨anr,K,kc,rfl,hb4,hr4,hg4⟩;dsimp only at hr4 ⊢;have bP:=aa ((aG.o.alloc (.cells ci.cells 27)).trans hg4);have GY:=((ah w3).alloc (.cells ci.cells 27)).trans hg4;have XD:=aa (afc.o.grow GY);have aff:=aa (afd.o.grow GY);have LB:=aa (afe.o.grow GY aG.o.size);have bY:=aa (cE.o.grow GY)
    have hy4:=aff.o.cell;have hkl:u.key.length≤96:=HK.o.short;obtain⟨hlk,hel⟩:=aeq HD.o HEP.o HI.o;have Ev:=jo.o;obtain⟨i0,hi0,hz0,hz1,hz2⟩:=info_parts aeY;have qs:=aa hi0;have qu:=aa hz0;have qw:=aa hz1;have qx:=aa hz2;clear hr4 hb4 hg4 GY hc3 hi0 hz0 hz1 hz2;go_wp2_with (first | (at_builtin;refine Bj rfl (.tmp 47) (.tmp 56) 111 111 rfl w.heap.size 115 i0 _ 7 120 Xx qs.o qu.o qw.o qx.o rfl (.slice A es.length c) es.length (cellsE es) rfl (LB.o.row.alloc _) _ 1 (gD.cells ⟨eb,B,bc,(eb.length:Int)-(u.key.length:Int),y⟩).toList rfl (Src.ent ⟨eb,B,bc,(eb.length:Int)-(u.key.length:Int),y⟩ _ rfl) (by omega) (by simp only[maxLen];omega) (by simp;have:=bP.o.size;omega) ?_;intro A5 c5 w5 zO qP Ew) | fail)
    have afg:=aa (mY.add (LB.o.grow ((ah w4).alloc (.cells (gD.cells ⟨eb,B,bc,(eb.length:Int)-(u.key.length:Int),y⟩) 115)) bP.o.size) (aV bP.o.size (by simp)) (x:=ag[j]) (e:=⟨eb,B,bc,(eb.length:Int)-(u.key.length:Int),y⟩)
     ⟨⟨eb.length-u.key.length,by dsimp only;omega,by dsimp only;omega⟩,(jv.below HY.o (bP.o.alloc _) gH.o),BG,bf.o,bY.o.alloc _⟩ zO qP)
    have a_:=aa ((bP.o.alloc (.cells (gD.cells ⟨eb,B,bc,(eb.length:Int)-(u.key.length:Int),y⟩) 115)).grown qP (fun k hk=>(bJ LB.o.row k hk).1));have afh:=aa ((XD.o.alloc (.cells (gD.cells ⟨eb,B,bc,(eb.length:Int)-(u.key.length:Int),y⟩) 115)).own qP (fun k hk e=>by rw[bj,e] at hk;exact cU LB.o.row XD.o (by decide) hk));clear zO qP Ew;go_roundg gk';refine⟨j+1,A5,c5,es++[⟨eb,B,bc,(eb.length:Int)-(u.key.length:Int),y⟩],l++[ag[j]],by omega,by omega,by go_num,by simp,afg.o,fun d hd=>?_,by simp;omega,afh.o,a_.o⟩;rcases qo.1 hd with hd | hd
    ·exact HZ.o d hd
    rw[rz.1 hd];exact aS hlt;omega
  go_wp2_with fail;go_ret2;exact⟨HG2.o,ee,none,0,[],[],rfl,mY.nil _ _ _ _ gH.o,fun _ h=>(by cases h),aR _⟩
 have hjl:j=ag.length:=by omega
 subst hjl;have HS:=aa (ae3 Y w.heap.size dC c A es l wr fK.o HG.o.size (by have:=jo.o;omega));go_wp2_with fail;refine HS.o.mono ?_;rintro e w2 ⟨rfl,hb2,es',l',hrow2,hp,ho⟩;have hg2:Grow w w2:=HG.o.trans' hb2;have HRR:=aa hrow2;have pQ:=aa (And.intro hp ho);clear hrow2 hp ho hb2;go_wp2_with fail;go_ret2;exact⟨hg2,0,A,c,es',l',by rw[pQ.o.2];rfl,HRR.o,fun d hd=>HZ.o d (pQ.o.1.mem_iff.1 hd),by rw[pQ.o.2];exact jo.o⟩
theorem XE(nm:ByteArray)(ag:List V)(dA xA:Option Addr)(dc xn xc:Nat)(x:Ix)(w:World)(hd:InL w dA dc ag)(hx:x.path.size<4294967281)(hok:∀d∈ag,gh d)(hl:ag.length≤1000000000)(hT:dz w)(hM:kD w) :
 Calls prog 60 #[.agg #[.string nm,.slice dA ag.length dc,.slice xA xn xc],.agg x.cells] w (Qp (fun _=>False) w w.heap.size ag):=
 Xz (fun _=>False) w.heap.size nm ag dA xA dc xn xc x w (dX (fun p u h=>⟨h.1,h.2.2,fun h=>h⟩) _ _ hd) (au _) hx hok hl hT hM
end
theorem XF(a b:List UInt8)(A B:Option Addr)(c d:Nat)(w:World)(h:bh w A a)(g:bh w B b) :
 Calls prog 109 #[.slice A a.length c,.slice B b.length d] w fun e w'=>e=.returned (.bool (a==b))∧w'=w:=by
 have hs1:=rD c h;have hs2:=rD d g;clear h g;go_enter func109,ntmps109;go_wp2_with fail;go_ret;exact⟨rfl,rfl⟩
theorem bh.part{b:List UInt8}(h:bh w A b)(k:Nat):bh w A (b.take k):=by
 unfold bh at h ⊢;rw[aco,dU];by_cases hk:k≤b.length
 ·rw[pj hk];exact h.acq k hk
 rw[FY (by omega),rB (by rw[Ds];omega)];exact h
theorem XG(Y:Nat→Prop)(lo dC c:Nat)(A:Option Addr)(es:List gD)(l:List V)(w:World)(h:mY Y w lo dC A c es l)(hn:es.length≤1000000000) :
 Calls prog 122 #[.slice A es.length c] w fun e w'=>∃b,e=.returned (.bool b)∧Grow w w':=by
 have hel:=h.two.1;have fK:=aa h;have jo:=aa hel;clear h hel;go_enter func122,ntmps122;go_wp2_with fail;go_loopg [3] (es.length+1) (fun gk i wr=>∃(j:Nat),1≤j∧j≤max es.length 1∧gk+j=es.length+2∧i=.int .i64 j∧Grow w wr);exact⟨1,au _,by omega,by omega,rfl,ah w⟩;obtain⟨j,La,hj,hg,rfl,hgr⟩:=hrel;have HG:=aa hgr;by_cases hlt:j<es.length
 ·obtain⟨gk',rfl⟩:=bz gk (by omega);obtain⟨j',rfl⟩:∃q,j=q+1:=⟨j-1,by omega⟩;obtain⟨g,cur,hA,hb,hgg,hnc,hcm,hcs,ht,-⟩:=ju fK.o.row (by omega);subst hA;have hlt':j'+1<l.length:=by rw[← jo.o];exact hlt
  have hcell:∀(i k:Nat) (hi:i<es.length),k<7→∀v,es[i].cells.toList[k]?=some v→wr.cell? ⟨g,i*7+k,none⟩=some v:=fun i k hi hk v hv=>by
   have LC:g<w.heap.size:=(qq.1 hgg).1;refine(HG.o.below.cell (p:=⟨g,i*7+k,none⟩) LC).trans (wV hgg ht _ _ ?_);rw[cellsE,mV _ 7 (fun _=>rfl) es i k hk es[i] (bH hi)];exact hv
  have v1:=fK.o.two.at_ (j:=j') (by omega) (by omega);have v2:=fK.o.two.at_ (j:=j'+1) hlt hlt';obtain⟨x1,hx1⟩:∃x,es[j']=x:=⟨_,rfl⟩;obtain⟨x2,hx2⟩:∃x,es[j'+1]=x:=⟨_,rfl⟩;rw[hx1] at v1;rw[hx2] at v2;obtain⟨b1,A1,c1,z1,d1⟩:=x1;obtain⟨b2,A2,c2,z2,d2⟩:=x2;have a0:=hcell j' 0 (by omega) (by omega) _ (by rw[hx1];rfl);have a1:=hcell j' 1 (by omega) (by omega) _ (by rw[hx1];rfl);have a2:=hcell (j'+1) 0 hlt (by omega) _ (by rw[hx2];rfl);have a3:=hcell (j'+1) 1 hlt (by omega) _ (by rw[hx2];rfl);obtain⟨ans,hb1,hr1⟩:=v1.row;obtain⟨BG,hb2,hr2⟩:=v2.row;obtain⟨s1,q3,tz⟩:=v1.sz;obtain⟨s2,q4,hl2⟩:=v2.sz;dsimp only at q3 q4 tz hl2 hr1 hr2 a0 a1 a2 a3;rw[fX] at a0 a2;subst q3 q4;have hi1:bh wr A1 (b1.take s1):=((hr1.reads.1).grow HG.o).part s1
  have hi2:bh wr A2 (b2.take s2):=((hr2.reads.1).grow HG.o).part s2;have hc1:=(mW hr1).1;have hc2:=(mW hr2).1;have e1:(b1.take s1).length=s1:=by rw[dU];omega
  have e2:(b2.take s2).length=s2:=by rw[dU];omega
  have heq:∀p,Calls prog 109 #[.slice A1 s1 c1,.slice A2 s2 c2] (wr.drewN p) fun e w'=>e=.returned (.bool (b1.take s1==b2.take s2))∧w'=wr.drewN p:=fun p=>by
   have:=XF (b1.take s1) (b2.take s2) A1 A2 c1 c2 (wr.drewN p) (hi1.grow ((ah wr).drewN p)) (hi2.grow ((ah wr).drewN p));rw[e1,e2] at this;exact this
  have tu:=aa heq;have zt:((j'+1:Nat):Int)-1=(j':Int):=by omega
  obtain⟨BB,oK⟩:∃B,(b1.take s1==b2.take s2)=B:=⟨_,rfl⟩;rw[oK] at tu;clear v1 v2 hx1 hx2 hi1 hi2 hr1 hr2 hcell heq oK e1 e2 hb1 hb2 ht hcs hgg;go_wp2_with fail;go_big_quiet (first | (go_at_call 109;with_reducible refine Calls.quiet_of_same (tu.o _)));have hg1:Grow w (wr.drewN nq):=HG.o.drewN nq;have aO:=aa hg1;clear hg1
  cases BB with
  | true =>
   go_wp2_with fail;go_ret;exact⟨true,rfl,aO.o⟩
  | false =>
   go_wp2_with fail;go_roundg gk';exact⟨j'+1+1,by omega,by omega,by omega,by go_num,aO.o⟩;omega
 go_wp2_with fail;go_ret;exact⟨false,rfl,HG.o⟩
theorem afi(S:Nat)(hS:S≤1000000000):∃cur:Array Value,cur.size=S*3∧∀w:World,(Instr.makeSlice 42 (.int .i64 0) (.int .i64 (S:Int))).run prog w=.ok (.slice (some ⟨w.heap.size,0,none⟩) 0 S) (w.alloc (.cells cur 48)):=by
 obtain⟨i0,hi0,hz0,hz1,hz2⟩:=info_parts XH;refine⟨madeCells (Value.agg #[.string ⟨#[]⟩,.slice none 0 0,.slice none 0 0]).cells (S*i0.size),?_,fun w=>?_⟩
 ·rw[hz1];simp[madeCells]
 have h:=run_make (P:=prog) (w:=w) 42 48 i0 _ GZ hi0 hz0 .i64 .i64 0 (S:Int) (by omega) (by omega) (by rw[hz2];omega) (by omega);exact h
theorem afj(S:Nat)(hS:S≤1000000000):∃cur:Array Value,cur.size=S*3∧∀w:World,(Instr.makeSlice 46 (.int .i64 0) (.int .i64 (S:Int))).run prog w=.ok (.slice (some ⟨w.heap.size,0,none⟩) 0 S) (w.alloc (.cells cur 64)):=by
 obtain⟨i0,hi0,hz0,hz1,hz2⟩:=info_parts XI;refine⟨madeCells (Value.agg #[.string ⟨#[]⟩,.string ⟨#[]⟩,.bool false]).cells (S*i0.size),?_,fun w=>?_⟩
 ·rw[hz1];simp[madeCells]
 have h:=run_make (P:=prog) (w:=w) 46 64 i0 _ Ch hi0 hz0 .i64 .i64 0 (S:Int) (by omega) (by omega) (by rw[hz2];omega) (by omega);exact h
theorem afk(hF:F.results=#[ResultVar.cell 2 44])(h2:tmps.getD 2 undef=.pointer (some ⟨vb,0,none⟩))(hv:Blk W vb 44 #[u]) :
 (results F tmps).run prog W=.ok (.agg #[u]) W:=by
 have tC:=hv.cell;have h2':tmps[2]?.getD undef=.pointer (some ⟨vb,0,none⟩):=by simpa using h2
 simp[results,hF,go_sem,h2',tC]
def XJ(w:World)(st:List Co)(e:Ending)(w':World):Prop:=Grow w w'∧∃A c es,e=.returned (.agg #[.slice A st.length c])∧CR (fun q=>q<w.heap.size) w' w.heap.size A c es st
structure XK (c:Co):Prop where
 ag:c.ag.length≤1000000000
 aj:c.aj.length≤1000000000
 nE:∀d∈c.ag,d.nE
theorem LD{α:Type}{l xs:List α}(h:j<l.length)(e:xs=l.take j):xs++[l[j]]=l.take (j+1):=by rw[e,py l j h]
theorem Src.aw(e:Cc)(t:TypeId)(hg:g=w.heap.size):Src prog 3 42 (.slice (some ⟨g,0,none⟩) 1 1) 1 e.cells.toList (w.alloc (.cells e.cells t)):=by
 subst hg;exact Src.ofSlice _ GZ ⟨w.heap.size,0,none⟩ 1 1 _ rfl (fun j u hu=>by
  rw[add_lit,eo,(az w t e.cells).cell j,← hu,nC]) (fun u hu=>by
  simp only[jI,wu,wB] at hu;rcases hu with rfl | rfl | rfl<;>rfl)
theorem Qw{c6 c7:Nat}{S0:Nat→Prop}{cs:List Cv}{cd:List V}{cx:List Ix}(h:VR (fun q=>S0 q∨ba A'=some q) W lo A6 c6 cs cd)(h7:W.ownsRow lo 64 3 (.slice A7 cx.length c7) cx.length (dQ cx))(hB:∀q,S0 q→q<lo)(hA:∀g,ba A'=some g→g<lo)(hl:cd.length≤140737488355328)(cn:ByteArray) :
 wU (dI W (fun q=>ba A'=some q∨S0 q)) ⟨cn,A6,cd.length,c6,A7,cx.length,c7⟩ ⟨cn,cd,cx⟩:=by
 have hs:∀q,(S0 q∨ba A'=some q)→q<lo:=fun q hq=>by
  rcases hq with hq | hq
  ·exact hB q hq
  exact hA q hq
 have ho:∀(q:Nat),(ba A'=some q∨S0 q)→(S0 q∨ba A'=some q):=fun q hq=>hq.symm
 refine⟨rfl,rfl,rfl,(mW h7).1,?_,?_⟩
 ·refine(h.list (fun g hg hq=>?_) hl).mono (dI.sub ho);have:=(bJ h.row g (by rw[bj];exact hg)).1;have:=hs g hq;omega
 refine(lM (S:=fun q=>S0 q∨ba A'=some q) h7 (fun g hg hq=>?_)).mono (dI.sub ho);have:=(bJ h7 g (by rw[bj];exact hg)).1;have:=hs g hq;omega
def vr(w:World)(q:Nat):Prop:=q=w.heap.size+1+1+1∨q=w.heap.size+1∨q<w.heap.size
theorem Qx(st:List Co)(A:Option Addr)(cap:Nat)(w:World)(hst:cQ w A cap st)(hn:st.length≤1000000000)(hs:∀c∈st,XK c) :
 Calls prog 37 #[.agg #[.slice A st.length cap]] w (XJ w st):=by
 obtain⟨hcap,kq,jU,rY⟩:=hst;have qQ:=aa jU;have rZ:=aa rY;have HSM:=aa hs;obtain⟨G0,XL,hmC⟩:=afi st.length hn;have HN:=aa hn;have cP:=aa (((cM (w:=w.alloc (.cells #[.slice A st.length cap] 44)) (g:=w.heap.size+1) (by simp) 44 #[.slice none 0 0]).alloc (.cells G0 48)).alloc (.cells #[.slice (some ⟨w.heap.size+1+1,0,none⟩) 0 st.length] 44));have ar:=aa (cM (w:=((w.alloc (.cells #[.slice A st.length cap] 44)).alloc (.cells #[.slice none 0 0] 44)).alloc (.cells G0 48)) (g:=w.heap.size+1+1+1) (by simp) 44 #[.slice (some ⟨w.heap.size+1+1,0,none⟩) 0 st.length]);have XM:=((((ah w).alloc (.cells #[.slice A st.length cap] 44)).alloc (.cells #[.slice none 0 0] 44)).alloc (.cells G0 48)).alloc (.cells #[.slice (some ⟨w.heap.size+1+1,0,none⟩) 0 st.length] 44)
 have XN:(((w.alloc (.cells #[.slice A st.length cap] 44)).alloc (.cells #[.slice none 0 0] 44)).alloc (.cells G0 48)).ownsRow w.heap.size 48 3 (.slice (some ⟨w.heap.size+1+1,0,none⟩) 0 st.length) 0 []:=by
  have:=xK (base:=w.heap.size) (e:=48) (size:=3) ((w.alloc (.cells #[.slice A st.length cap] 44)).alloc (.cells #[.slice none 0 0] 44)) G0 st.length (by simp;omega) (by simp only[maxLen];omega) XL;rw[show ((w.alloc (.cells #[.slice A st.length cap] 44)).alloc (.cells #[.slice none 0 0] 44)).heap.size=w.heap.size+1+1 by simp] at this;exact this
 have afl:=aa (GR.made (f:=cF) (β:=Co) (z:=3) (T:=48) (R:=cR) (S:=vr w) (XN.alloc (.cells #[.slice (some ⟨w.heap.size+1+1,0,none⟩) 0 st.length] 44)));have aN:=aa XM;clear hs jU rY XL XM XN;go_enter func37,ntmps37;go_wp2_with fail;go_loopg [17] (st.length+1) (fun gk i wr=>∃(j:Nat) (A':Option Addr) (c':Nat) (es':List Cc),j≤st.length∧gk+j=st.length+1∧i=.int .i64 j∧CR (vr w) wr w.heap.size A' c' es' (st.take j) ∧
  Blk wr (w.heap.size+1+1+1) 44 #[.slice A' es'.length c']∧Blk wr (w.heap.size+1) 44 #[.slice none 0 0]∧Grow w wr)
 exact⟨0,_,_,[],aR _,rfl,rfl,afl.o,ar.o,cP.o,aN.o⟩;obtain⟨j,A',c',es',hj,hg,rfl,hcr,hb4,hb1,hgr⟩:=hrel;obtain⟨gk',rfl⟩:=bz gk (by omega);have hel:es'.length=j:=by rw[hcr.two.1,dU];omega
 have jo:=aa hel;have r_:=aa hcr;have xa:=aa hb4;have xb:=aa hb1;have HG:=aa hgr;clear hcr hb4 hb1 hgr hel;by_cases hlt:j<st.length
 ·have iE:j<kq.length:=by rw[qQ.o.1];exact hlt
  have aA:=qQ.o.at_ iE hlt;have hsm:=HSM.o _ (aS hlt);obtain⟨bk,o,hA,hcell⟩:=rZ.o.2 (by omega);have hf:∀k v,kq[j].cells.toList[k]?=some v→k<3→w.cell? ⟨bk,o+j*3+k,none⟩=some v∧bk<w.heap.size:=fun k v hv hk=>by
   have:=hcell (j*3+k) v (by rw[cY,mV _ 3 (fun _=>rfl) kq j k hk kq[j] (bH iE)];exact hv);rw[← lu] at this;exact⟨this.1,this.2.2⟩
  obtain⟨⟨nm,dA,dn,dc,xA,xn,xc⟩,he⟩:∃e,kq[j]=e:=⟨_,rfl⟩;obtain⟨⟨cn,cd,cx⟩,hc⟩:∃c,st[j]=c:=⟨_,rfl⟩;rw[he] at hf aA;rw[hc] at aA hsm;obtain⟨q1,q2,q3,q4,Qy,Qz⟩:=aA;obtain⟨bA,hxl,QA⟩:=hsm;dsimp only at q1 q2 q3 q4 Qy Qz bA hxl QA;subst q1 q2 q3 hA;have f0:=(HG.o.below.cell (p:=⟨bk,o+j*3,none⟩) (hf 0 _ rfl (by omega)).2).trans (hf 0 _ rfl (by omega)).1;have f1:=(HG.o.below.cell (p:=⟨bk,o+j*3+1,none⟩) (hf 1 _ rfl (by omega)).2).trans (hf 1 _ rfl (by omega)).1;have f2:=(HG.o.below.cell (p:=⟨bk,o+j*3+2,none⟩) (hf 2 _ rfl (by omega)).2).trans (hf 2 _ rfl (by omega)).1;obtain⟨LF,XO,hmV⟩:=OC cd.length bA;obtain⟨xd,XP,hmX⟩:=afj cx.length hxl;have HC:=aa hc;have HD:=aa (show InL w dA dc cd from Qy);have ct:=aa Qz;have Ex:=aa QA
  have wL:=(az wr 48 #[.string nm,.slice dA cd.length dc,.slice xA cx.length xc]).alloc (.cells LF 27);have av:=aa wL;have LG:((wr.alloc (.cells #[.string nm,.slice dA cd.length dc,.slice xA cx.length xc] 48)).alloc (.cells LF 27)).ownsRow wr.heap.size 27 5 (.slice (some ⟨wr.heap.size+1,0,none⟩) 0 cd.length) 0 []:=by
   have:=xK (base:=wr.heap.size) (e:=27) (size:=5) (wr.alloc (.cells #[.string nm,.slice dA cd.length dc,.slice xA cx.length xc] 48)) LF cd.length (by simp) (by simp only[maxLen];omega) XO;rw[show (wr.alloc (.cells #[.string nm,.slice dA cd.length dc,.slice xA cx.length xc] 48)).heap.size=wr.heap.size+1 by simp] at this;exact this
  have HV0:=aa (GR.made (f:=vF) (β:=V) (z:=5) (T:=27) (R:=vR) (S:=fun q=>vr w q∨ba A'=some q) LG);have a_:=aa (((ah wr).alloc (.cells #[.string nm,.slice dA cd.length dc,.slice xA cx.length xc] 48)).alloc (.cells LF 27));have dG:=wL.cell;have HCX:=aa XP;clear hf Qy Qz hcell QA wL LG XO he hc XP;go_wp2_with fail;clear f0 f1 f2 dG;obtain⟨wo,hwo⟩:∃wo:World,wo=wr:=⟨_,rfl⟩;subst hwo;go_loopg [6,28] (cd.length+1) (fun gk o i wi=>∃(k:Nat) (A6:Option Addr) (c6:Nat) (cs:List Cv),k≤cd.length∧gk+k=cd.length+1∧i=.int .i64 k∧o=.slice A6 cs.length c6 ∧
   VR (fun q=>vr w q∨ba A'=some q) wi wo.heap.size A6 c6 cs (cd.take k)∧Blk wi wo.heap.size 48 #[.string nm,.slice dA cd.length dc,.slice xA cx.length xc]∧Grow wo wi)
  exact⟨0,_,_,[],aR _,rfl,rfl,rfl,HV0.o,av.o,a_.o⟩;obtain⟨k,A6,c6,cs,hk,ji,rfl,rfl,eF,dG,hgo⟩:=hrel;have jw:=aa eF;have xe:=aa dG;have jV:=aa hgo;have hcl:cs.length=k:=by rw[eF.two.1,dU];omega
  have ib:=aa hcl;clear hcl;have ve:=aa (fun g (hg:ba A'=some g)=>(bJ r_.o.row g (by rw[bj];exact hg)).2);have Ey:=aa (show w.heap.size+1+1+1<wo.heap.size from xa.o.lt);have LH:=aa (fun q (hq:vr w q)=>show q<wo.heap.size from by
   have:=Ey.o;rcases hq with rfl | rfl | hq<;>omega)
  have afm:=aa (fun q (hq:vr w q∨ba A'=some q)=>show q<wo.heap.size from by
   rcases hq with hq | hq
   ·exact LH.o q hq
   exact ve.o q hq)
  clear eF dG hgo;by_cases hkl:k<cd.length
  ·obtain⟨wK,rfl⟩:∃g,gk=g+1:=⟨gk-1,by omega⟩;obtain⟨tG,o2,y,ha,hbk2,e0,e1,e2,e3,e4,hy⟩:=HD.o.fh k hkl;dsimp only[js] at ha;subst ha;have vd:=aa (HG.o.trans jV.o);have d0:=(vd.o.below.cell (p:=⟨tG,o2+k*5,none⟩) hbk2).trans e0;have d1:=(vd.o.below.cell (p:=⟨tG,o2+k*5+1,none⟩) hbk2).trans e1;have d2:=(vd.o.below.cell (p:=⟨tG,o2+k*5+2,none⟩) hbk2).trans e2;have d3:=(vd.o.below.cell (p:=⟨tG,o2+k*5+3,none⟩) hbk2).trans e3;have d4:=(vd.o.below.cell (p:=⟨tG,o2+k*5+4,none⟩) hbk2).trans e4;have afn:=aa (DU cd[k] (Ex.o _ (aS hkl)) (wr.alloc (.cells y.cells 27)) y (hy.grow (vd.o.alloc _)));have hy1:=(az wr 27 y.cells).cell;obtain⟨yw,hi0,hz0,hz1,hz2⟩:=info_parts qB;have qs:=aa hi0;have qu:=aa hz0
   have qw:=aa hz1;have qx:=aa hz2;clear e0 e1 e2 e3 e4 hy hi0 hz0 hz1 hz2;go_wp2_with fail;refine afn.o.mono ?_;rintro e w3 ⟨cv,rfl,hin,hg3⟩;have yx:=aa hin;have aG:=aa (((ah wr).alloc (.cells y.cells 27)).trans hg3);have XQ:=aa (jV.o.trans aG.o);have hzz:wr.heap.size<(wr.alloc (.cells y.cells 27)).heap.size:=by simp
   have QB:=aa ((jw.o.grow kK aG.o).grow kK ((ah w3).alloc (.cells cv.cells 27)));have QC:=aa (show IsV (dI (w3.alloc (.cells cv.cells 27)) (fun q=>ba A6=some q∨(vr w q∨ba A'=some q))) cd[k] cv from by
    refine dX (kZ (Lc ((ah w3).alloc _)) (fun _ h=>h.elim)) _ _ (dX (dI.GD (au _) fun q hq=>?_) _ _ hin.BM);left;rcases hq with hq | hq
    ·have:=(bJ jw.o.row q (by rw[bj];exact hq)).2;omega
    have:=afm.o q hq;have:=jV.o.size;omega)
   clear hin hg3 d0 d1 d2 d3 d4 hy1 hzz;have QD:wo.heap.size≤(w3.alloc (.cells cv.cells 27)).heap.size:=aV XQ.o.size (by simp);go_wp2_with (first | (at_builtin;refine Bj rfl (.tmp 32) (.tmp 35) 24 24 rfl wo.heap.size 27 yw _ 5 88 km qs.o qu.o qw.o qx.o rfl (.slice A6 cs.length c6) cs.length (cK cs) rfl QB.o.row _ 1 cv.cells.toList rfl (Src.VQ (W:=w3) cv _ rfl) (by have:=ib.o;omega) (by simp only[maxLen];have:=ib.o;omega) QD ?_;intro A7 c7 w7 eZ se zP) | fail);have HV7:=aa (GR.add (f:=vF) (z:=5) kK QB.o QC.o eZ se zP);have afo:=aa ((XQ.o.alloc (.cells cv.cells 27)).grown se (fun q hq=>(bJ QB.o.row q hq).1))
   have afp:=aa (((xe.o.grow aG.o).alloc (.cells cv.cells 27)).own se (fun q hq e=>by rw[bj,e] at hq;exact cU jw.o.row xe.o (by decide) hq));clear eZ se zP;go_roundg wK;exact⟨k+1,A7,c7,cs++[cv],by omega,by omega,by go_num,by simp,by rw[← LD hkl rfl];exact HV7.o,afp.o,afo.o⟩;omega
  have hkc:k=cd.length:=by omega
  subst hkc;have hcl:=ib.o;have OX:es'.length≤1000000000:=by have:=jo.o;omega
  have eF:=jw.o;rw[fT] at eF;have QE:=aa eF;have dG:=xe.o.cell;have HS:=aa (fun(W:World) (hg:Grow wr W)=>show W.cell? ⟨wo.heap.size,0,none⟩=some (.string nm)∧W.cell? ⟨wo.heap.size,2,none⟩=some (.slice xA cx.length xc) from
   ⟨(hg.below.cell (p:=⟨wo.heap.size,0,none⟩) xe.o.lt).trans (xe.o.cell 0),(hg.below.cell (p:=⟨wo.heap.size,2,none⟩) xe.o.lt).trans (xe.o.cell 2)⟩)
  have xf:=aa (fun(W:World) (hg:Grow wr W)=>((xa.o.grow jV.o).grow hg).cell 0);have XR:=aa (fun(W:World) (hg:Grow wr W)=>show (W.alloc (.cells xd 64)).ownsRow wo.heap.size 64 3 (.slice (some ⟨W.heap.size,0,none⟩) 0 cx.length) 0 []∧Reads (bQ (W.alloc (.cells xd 64)) 0 (W.alloc (.cells xd 64)).heap.size) 3 xA cx.length (dQ cx) from
   ⟨xK (base:=wo.heap.size) (e:=64) (size:=3) W xd cx.length (aV jV.o.size hg.size) (by simp only[maxLen];omega) HCX.o,eV (eU (((HG.o.trans jV.o).trans hg).alloc _).below (au _) (au _) (((HG.o.trans jV.o).trans hg).alloc _).size) ct.o⟩)
  have gH:=aa (show cd.length≤140737488355328 by omega);obtain⟨QF,hx0,hx1,hx2,hx3⟩:=info_parts XI;have QG:=aa hx0;have QH:=aa hx1;have QI:=aa hx2;have QJ:=aa hx3;obtain⟨i0,hi0,hz0,hz1,hz2⟩:=info_parts XH;have qs:=aa hi0;have qu:=aa hz0;have qw:=aa hz1;have qx:=aa hz2;clear eF hx0 hx1 hx2 hx3 hi0 hz0 hz1 hz2 dG;have ant:=HS.o _ (ah wr);go_wp2_with fail;refine dg ?_;refine cW (S:=fun w'=>w'.cell? ⟨wo.heap.size,0,none⟩=some (.string nm)∧w'.cell? ⟨wo.heap.size,2,none⟩=some (.slice xA cx.length xc)) (by kernel_rfl) (HS.o _ ((ah _).drew)) (fun hHeld=>?_);have HG2:=aa ((ah wr).drew);generalize wr.drew=W2 at HG2 hHeld ⊢;have QK:=aa (XR.o _ HG2.o).1;have rO:=aa (XR.o _ HG2.o).2
  have QL:=aa (show wo.heap.size≤(W2.alloc (.cells xd 64)).heap.size from aV jV.o.size (HG2.o.alloc _).size);refine ai 0 ?_;refine ai 2 ?_;refine cO 3 ?_;refine ai 4 ?_;refine ai 5 ?_;refine cO 6 ?_;refine ai 7 ?_;refine ai 9 ?_;refine cO 10 ?_;refine bC [1,8] ?_;refine fC (fun K hK=>?_) (fC (fun K hK=>?_) dM)
  ·have hbb:=xf.o _ HG2.o;go_simp;refine hK.out _ _ (HS.o _ HG2.o) (fun hHeld=>?_);clear hbb
   try simp only[aH]
   refine aK 8 (fun K hK=>?_);go_simp;refine aT hK (HS.o _ (HG2.o.alloc _)) (fun hHeld=>?_);refine aK 11 (fun K hK=>?_);refine oa (by rfl) (.tmp 46) (.tmp 48) 46 46 (by rfl) wo.heap.size 64 QF _ 3 40 Ch QG.o QH.o QI.o QJ.o (by rfl) (.slice (some ⟨W2.heap.size,0,none⟩) 0 cx.length) 0 [] (by rfl) QK.o (.slice xA cx.length xc) cx.length (dQ cx) (by rfl) (eW Ch rO.o (zH cx)) (by omega) (by simp only[maxLen];omega) QL.o ?_;intro A7 c7 w7 eZ se zP;have aX:=aa ((HG2.o.alloc (.cells xd 64)).grown se (fun k hk=>by simp[Value.ownBlock] at hk;have:=HG2.o.size;omega));rw[ql] at eZ;simp only[eo] at eZ;have tQ:=aa eZ;clear eZ se zP;refine aT hK (HS.o _ aX.o) (fun hHeld=>?_);refine ai 12 ?_;refine aK 13 (fun K hK=>?_);go_simp
   refine aT hK (HS.o _ (aX.o.alloc _)) (fun hHeld=>?_);refine aK 14 (fun K hK=>?_);have HE:=aa (Qw (QE.o.grow kK (aX.o.alloc (.cells (Cc.cells ⟨nm,A6,cd.length,c6,A7,cx.length,c7⟩) 48))) (tQ.o.alloc (.cells (Cc.cells ⟨nm,A6,cd.length,c6,A7,cx.length,c7⟩) 48)) (A':=A') LH.o ve.o gH.o nm);have vt:=aa ((r_.o.grow pL jV.o).grow pL (aX.o.alloc (.cells (Cc.cells ⟨nm,A6,cd.length,c6,A7,cx.length,c7⟩) 48)));have Ci:=aa (show w.heap.size≤(w7.alloc (.cells (Cc.cells ⟨nm,A6,cd.length,c6,A7,cx.length,c7⟩) 48)).heap.size from aV (HG.o.trans jV.o).size (aX.o.alloc _).size)
   refine oa (by rfl) (.tmp 39) (.tmp 51) 42 42 (by rfl) w.heap.size 48 i0 _ 3 64 GZ qs.o qu.o qw.o qx.o (by rfl) (.slice A' es'.length c') es'.length (cY es') (by rfl) vt.o.row _ 1 (Cc.cells ⟨nm,A6,cd.length,c6,A7,cx.length,c7⟩).toList (by rfl) (Src.aw ⟨nm,A6,cd.length,c6,A7,cx.length,c7⟩ _ rfl) (by omega) (by simp only[maxLen];omega) Ci.o ?_;intro A8 c8 w8 dD ek sj;have qR:=aa (GR.add (f:=cF) (z:=3) pL vt.o HE.o dD ek sj);have qT:=aa ((((xa.o.grow jV.o).grow aX.o).alloc (.cells (Cc.cells ⟨nm,A6,cd.length,c6,A7,cx.length,c7⟩) 48)).own ek (fun q hq e=>by rw[bj,e] at hq;exact cU r_.o.row xa.o (by decide) hq))
   have zQ:=aa ((((xb.o.grow jV.o).grow aX.o).alloc (.cells (Cc.cells ⟨nm,A6,cd.length,c6,A7,cx.length,c7⟩) 48)).own ek (fun q hq e=>by rw[bj,e] at hq;exact cU r_.o.row xb.o (by decide) hq));have vv:=aa ((((xe.o).grow aX.o).alloc (.cells (Cc.cells ⟨nm,A6,cd.length,c6,A7,cx.length,c7⟩) 48)).own ek (fun q hq e=>by rw[bj,e] at hq;have:=ve.o _ hq;omega));have bR:=aa (((HG.o.trans jV.o).trans (aX.o.alloc (.cells (Cc.cells ⟨nm,A6,cd.length,c6,A7,cx.length,c7⟩) 48))).grown ek (fun q hq=>(bJ vt.o.row q hq).1));have G3:=qT.o.cell;have G5:=qT.o.frozen;clear dD ek sj;refine hK.out _ _ ⟨vv.o.cell 0,vv.o.cell 2⟩ (fun hHeld=>?_)
   try simp only[aH]
   refine ai 15 ?_;refine aK 16 (fun K hK=>?_);go_simp;have zR:=aa (qR.o.kept pL (mr (S:=vr w) (cZ _ w8) (p:=⟨w.heap.size+1+1+1,0,none⟩) (.inl rfl) (.slice A8 (es'.length+1) c8)) (fun _ h=>h) (fun g hg e=>by
    rcases e with rfl | rfl | e
    ·exact cU qR.o.row qT.o (by decide) hg
    ·exact cU qR.o.row zQ.o (by decide) hg
    have:=(bJ qR.o.row g (by rw[bj];exact hg)).1;omega))
   have oL:=aa (qT.o.aY 0 (.slice A8 (es'.length+1) c8));have G6:=aa (zQ.o.far (p:=⟨w.heap.size+1+1+1,0,none⟩) (by show w.heap.size+1≠w.heap.size+1+1+1;omega) (.slice A8 (es'.length+1) c8));have iF:=aa (vv.o.far (p:=⟨w.heap.size+1+1+1,0,none⟩) (by show wo.heap.size≠w.heap.size+1+1+1;have:=Ey.o;omega) (.slice A8 (es'.length+1) c8));have dN:=aa (bR.o.setCell (p:=⟨w.heap.size+1+1+1,0,none⟩) (by show w.heap.size≤w.heap.size+1+1+1;omega) (.slice A8 (es'.length+1) c8));refine hK.out _ _ ⟨iF.o.cell 0,iF.o.cell 2⟩ (fun hHeld=>?_)
   try simp only[aH]
   refine cG ?_;clear G3 G5;go_wp2_with fail;go_roundg gk';have hl:(es'++[(⟨nm,A6,cd.length,c6,A7,cx.length,c7⟩:Cc)]).length=es'.length+1:=by simp
   refine⟨j+1,A8,c8,es'++[⟨nm,A6,cd.length,c6,A7,cx.length,c7⟩],by omega,by omega,by go_num,?_,by rw[hl];exact oL.o,G6.o,dN.o⟩;have h9:=zR.o;rw[← HC.o,LD hlt rfl] at h9;exact h9;omega
  go_simp;refine aT hK (HS.o _ (HG2.o.alloc _)) (fun hHeld=>?_);refine bC [1,11] ?_;refine fC (fun K hK=>?_) (fC (fun K hK=>?_) dM)
  ·have hbb:=xf.o _ (HG2.o.alloc (.cells xd 64));go_simp;refine hK.out _ _ (HS.o _ (HG2.o.alloc (.cells xd 64))) (fun hHeld=>?_);clear hbb
   try simp only[aH]
   refine aK 11 (fun K hK=>?_);refine oa (by rfl) (.tmp 46) (.tmp 48) 46 46 (by rfl) wo.heap.size 64 QF _ 3 40 Ch QG.o QH.o QI.o QJ.o (by rfl) (.slice (some ⟨W2.heap.size,0,none⟩) 0 cx.length) 0 [] (by rfl) QK.o (.slice xA cx.length xc) cx.length (dQ cx) (by rfl) (eW Ch rO.o (zH cx)) (by omega) (by simp only[maxLen];omega) QL.o ?_;intro A7 c7 w7 eZ se zP;have aX:=aa ((HG2.o.alloc (.cells xd 64)).grown se (fun k hk=>by simp[Value.ownBlock] at hk;have:=HG2.o.size;omega));rw[ql] at eZ;simp only[eo] at eZ;have tQ:=aa eZ;clear eZ se zP;refine aT hK (HS.o _ aX.o) (fun hHeld=>?_);refine ai 12 ?_;refine aK 13 (fun K hK=>?_);go_simp;refine aT hK (HS.o _ (aX.o.alloc _)) (fun hHeld=>?_);refine aK 14 (fun K hK=>?_)
   have HE:=aa (Qw (QE.o.grow kK (aX.o.alloc (.cells (Cc.cells ⟨nm,A6,cd.length,c6,A7,cx.length,c7⟩) 48))) (tQ.o.alloc (.cells (Cc.cells ⟨nm,A6,cd.length,c6,A7,cx.length,c7⟩) 48)) (A':=A') LH.o ve.o gH.o nm);have vt:=aa ((r_.o.grow pL jV.o).grow pL (aX.o.alloc (.cells (Cc.cells ⟨nm,A6,cd.length,c6,A7,cx.length,c7⟩) 48)));have Ci:=aa (show w.heap.size≤(w7.alloc (.cells (Cc.cells ⟨nm,A6,cd.length,c6,A7,cx.length,c7⟩) 48)).heap.size from aV (HG.o.trans jV.o).size (aX.o.alloc _).size)
   refine oa (by rfl) (.tmp 39) (.tmp 51) 42 42 (by rfl) w.heap.size 48 i0 _ 3 64 GZ qs.o qu.o qw.o qx.o (by rfl) (.slice A' es'.length c') es'.length (cY es') (by rfl) vt.o.row _ 1 (Cc.cells ⟨nm,A6,cd.length,c6,A7,cx.length,c7⟩).toList (by rfl) (Src.aw ⟨nm,A6,cd.length,c6,A7,cx.length,c7⟩ _ rfl) (by omega) (by simp only[maxLen];omega) Ci.o ?_;intro A8 c8 w8 dD ek sj;have qR:=aa (GR.add (f:=cF) (z:=3) pL vt.o HE.o dD ek sj);have qT:=aa ((((xa.o.grow jV.o).grow aX.o).alloc (.cells (Cc.cells ⟨nm,A6,cd.length,c6,A7,cx.length,c7⟩) 48)).own ek (fun q hq e=>by rw[bj,e] at hq;exact cU r_.o.row xa.o (by decide) hq))
   have zQ:=aa ((((xb.o.grow jV.o).grow aX.o).alloc (.cells (Cc.cells ⟨nm,A6,cd.length,c6,A7,cx.length,c7⟩) 48)).own ek (fun q hq e=>by rw[bj,e] at hq;exact cU r_.o.row xb.o (by decide) hq));have vv:=aa ((((xe.o).grow aX.o).alloc (.cells (Cc.cells ⟨nm,A6,cd.length,c6,A7,cx.length,c7⟩) 48)).own ek (fun q hq e=>by rw[bj,e] at hq;have:=ve.o _ hq;omega));have bR:=aa (((HG.o.trans jV.o).trans (aX.o.alloc (.cells (Cc.cells ⟨nm,A6,cd.length,c6,A7,cx.length,c7⟩) 48))).grown ek (fun q hq=>(bJ vt.o.row q hq).1));have G3:=qT.o.cell;have G5:=qT.o.frozen;clear dD ek sj;refine hK.out _ _ ⟨vv.o.cell 0,vv.o.cell 2⟩ (fun hHeld=>?_)
   try simp only[aH]
   refine ai 15 ?_;refine aK 16 (fun K hK=>?_);go_simp;have zR:=aa (qR.o.kept pL (mr (S:=vr w) (cZ _ w8) (p:=⟨w.heap.size+1+1+1,0,none⟩) (.inl rfl) (.slice A8 (es'.length+1) c8)) (fun _ h=>h) (fun g hg e=>by
    rcases e with rfl | rfl | e
    ·exact cU qR.o.row qT.o (by decide) hg
    ·exact cU qR.o.row zQ.o (by decide) hg
    have:=(bJ qR.o.row g (by rw[bj];exact hg)).1;omega))
   have oL:=aa (qT.o.aY 0 (.slice A8 (es'.length+1) c8));have G6:=aa (zQ.o.far (p:=⟨w.heap.size+1+1+1,0,none⟩) (by show w.heap.size+1≠w.heap.size+1+1+1;omega) (.slice A8 (es'.length+1) c8));have iF:=aa (vv.o.far (p:=⟨w.heap.size+1+1+1,0,none⟩) (by show wo.heap.size≠w.heap.size+1+1+1;have:=Ey.o;omega) (.slice A8 (es'.length+1) c8));have dN:=aa (bR.o.setCell (p:=⟨w.heap.size+1+1+1,0,none⟩) (by show w.heap.size≤w.heap.size+1+1+1;omega) (.slice A8 (es'.length+1) c8));refine hK.out _ _ ⟨iF.o.cell 0,iF.o.cell 2⟩ (fun hHeld=>?_)
   try simp only[aH]
   refine cG ?_;clear G3 G5;go_wp2_with fail;go_roundg gk';have hl:(es'++[(⟨nm,A6,cd.length,c6,A7,cx.length,c7⟩:Cc)]).length=es'.length+1:=by simp
   refine⟨j+1,A8,c8,es'++[⟨nm,A6,cd.length,c6,A7,cx.length,c7⟩],by omega,by omega,by go_num,?_,by rw[hl];exact oL.o,G6.o,dN.o⟩;have h9:=zR.o;rw[← HC.o,LD hlt rfl] at h9;exact h9;omega
  refine oa (by rfl) (.tmp 46) (.tmp 48) 46 46 (by rfl) wo.heap.size 64 QF _ 3 40 Ch QG.o QH.o QI.o QJ.o (by rfl) (.slice (some ⟨W2.heap.size,0,none⟩) 0 cx.length) 0 [] (by rfl) QK.o (.slice xA cx.length xc) cx.length (dQ cx) (by rfl) (eW Ch rO.o (zH cx)) (by omega) (by simp only[maxLen];omega) QL.o ?_;intro A7 c7 w7 eZ se zP;have aX:=aa ((HG2.o.alloc (.cells xd 64)).grown se (fun k hk=>by simp[Value.ownBlock] at hk;have:=HG2.o.size;omega));rw[ql] at eZ;simp only[eo] at eZ;have tQ:=aa eZ;clear eZ se zP;refine aT hK (HS.o _ aX.o) (fun hHeld=>?_);refine ai 12 ?_;refine bC [1,13] ?_;refine fC (fun K hK=>?_) (fC (fun K hK=>?_) dM)
  focus
   have hbb:=xf.o _ aX.o
   go_simp
   refine hK.out _ _ (HS.o _ aX.o) (fun hHeld=>?_)
   clear hbb
   try simp only[aH]
   refine aK 13 (fun K hK=>?_)
   go_simp
   refine aT hK (HS.o _ (aX.o.alloc _)) (fun hHeld=>?_)
  rotate_left
  focus
   go_simp
   refine aT hK (HS.o _ (aX.o.alloc _)) (fun hHeld=>?_)
   refine aK 1 (fun K hK=>?_)
   have hbb:=xf.o _ (aX.o.alloc (.cells (Cc.cells ⟨nm,A6,cd.length,c6,A7,cx.length,c7⟩) 48))
   go_simp
   refine hK.out _ _ (HS.o _ (aX.o.alloc (.cells (Cc.cells ⟨nm,A6,cd.length,c6,A7,cx.length,c7⟩) 48))) (fun hHeld=>?_)
   clear hbb
   try simp only[aH]
  all_goals
   refine aK 14 (fun K hK=>?_)
   have HE:=aa (Qw (QE.o.grow kK (aX.o.alloc (.cells (Cc.cells ⟨nm,A6,cd.length,c6,A7,cx.length,c7⟩) 48))) (tQ.o.alloc (.cells (Cc.cells ⟨nm,A6,cd.length,c6,A7,cx.length,c7⟩) 48)) (A':=A') LH.o ve.o gH.o nm)
   have vt:=aa ((r_.o.grow pL jV.o).grow pL (aX.o.alloc (.cells (Cc.cells ⟨nm,A6,cd.length,c6,A7,cx.length,c7⟩) 48)))
   have Ci:=aa (show w.heap.size≤(w7.alloc (.cells (Cc.cells ⟨nm,A6,cd.length,c6,A7,cx.length,c7⟩) 48)).heap.size from aV (HG.o.trans jV.o).size (aX.o.alloc _).size)
   refine oa (by rfl) (.tmp 39) (.tmp 51) 42 42 (by rfl) w.heap.size 48 i0 _ 3 64 GZ qs.o qu.o qw.o qx.o (by rfl) (.slice A' es'.length c') es'.length (cY es') (by rfl) vt.o.row _ 1 (Cc.cells ⟨nm,A6,cd.length,c6,A7,cx.length,c7⟩).toList (by rfl) (Src.aw ⟨nm,A6,cd.length,c6,A7,cx.length,c7⟩ _ rfl) (by omega) (by simp only[maxLen];omega) Ci.o ?_
   intro A8 c8 w8 dD ek sj
   have qR:=aa (GR.add (f:=cF) (z:=3) pL vt.o HE.o dD ek sj)
   have qT:=aa ((((xa.o.grow jV.o).grow aX.o).alloc (.cells (Cc.cells ⟨nm,A6,cd.length,c6,A7,cx.length,c7⟩) 48)).own ek (fun q hq e=>by rw[bj,e] at hq;exact cU r_.o.row xa.o (by decide) hq))
   have zQ:=aa ((((xb.o.grow jV.o).grow aX.o).alloc (.cells (Cc.cells ⟨nm,A6,cd.length,c6,A7,cx.length,c7⟩) 48)).own ek (fun q hq e=>by rw[bj,e] at hq;exact cU r_.o.row xb.o (by decide) hq))
   have vv:=aa ((((xe.o).grow aX.o).alloc (.cells (Cc.cells ⟨nm,A6,cd.length,c6,A7,cx.length,c7⟩) 48)).own ek (fun q hq e=>by rw[bj,e] at hq;have:=ve.o _ hq;omega))
   have bR:=aa (((HG.o.trans jV.o).trans (aX.o.alloc (.cells (Cc.cells ⟨nm,A6,cd.length,c6,A7,cx.length,c7⟩) 48))).grown ek (fun q hq=>(bJ vt.o.row q hq).1))
   have G3:=qT.o.cell
   have G5:=qT.o.frozen
   clear dD ek sj
   refine hK.out _ _ ⟨vv.o.cell 0,vv.o.cell 2⟩ (fun hHeld=>?_)
   try simp only[aH]
   refine ai 15 ?_
   refine aK 16 (fun K hK=>?_)
   go_simp
   have zR:=aa (qR.o.kept pL (mr (S:=vr w) (cZ _ w8) (p:=⟨w.heap.size+1+1+1,0,none⟩) (.inl rfl) (.slice A8 (es'.length+1) c8)) (fun _ h=>h) (fun g hg e=>by
    rcases e with rfl | rfl | e
    ·exact cU qR.o.row qT.o (by decide) hg
    ·exact cU qR.o.row zQ.o (by decide) hg
    have:=(bJ qR.o.row g (by rw[bj];exact hg)).1;omega))
   have oL:=aa (qT.o.aY 0 (.slice A8 (es'.length+1) c8))
   have G6:=aa (zQ.o.far (p:=⟨w.heap.size+1+1+1,0,none⟩) (by show w.heap.size+1≠w.heap.size+1+1+1;omega) (.slice A8 (es'.length+1) c8))
   have iF:=aa (vv.o.far (p:=⟨w.heap.size+1+1+1,0,none⟩) (by show wo.heap.size≠w.heap.size+1+1+1;have:=Ey.o;omega) (.slice A8 (es'.length+1) c8))
   have dN:=aa (bR.o.setCell (p:=⟨w.heap.size+1+1+1,0,none⟩) (by show w.heap.size≤w.heap.size+1+1+1;omega) (.slice A8 (es'.length+1) c8))
   refine hK.out _ _ ⟨iF.o.cell 0,iF.o.cell 2⟩ (fun hHeld=>?_)
   try simp only[aH]
   refine cG ?_
   clear G3 G5
   go_wp2_with fail
   go_roundg gk'
   have hl:(es'++[(⟨nm,A6,cd.length,c6,A7,cx.length,c7⟩:Cc)]).length=es'.length+1:=by simp
   refine⟨j+1,A8,c8,es'++[⟨nm,A6,cd.length,c6,A7,cx.length,c7⟩],by omega,by omega,by go_num,?_,by rw[hl];exact oL.o,G6.o,dN.o⟩
   have h9:=zR.o
   rw[← HC.o,LD hlt rfl] at h9
   exact h9
   omega
 have hjl:j=st.length:=by omega
 subst hjl;have hcr:=r_.o;rw[fT] at hcr;have zR:=aa (hcr.kept pL (mr (S:=vr w) (cZ _ wr) (p:=⟨w.heap.size+1,0,none⟩) (.inr (.inl rfl)) (.slice A' es'.length c')) (fun _ h=>h) (fun g hg e=>by
  rcases e with rfl | rfl | e
  ·exact cU hcr.row xa.o (by decide) hg
  ·exact cU hcr.row xb.o (by decide) hg
  have:=(bJ hcr.row g (by rw[bj];exact hg)).1;omega))
 have afq:=aa (show es'.length=st.length from jo.o);have qO:=aa xb.o;have hb1:=xb.o.cell;have hb4:=xa.o.cell;have qU:=xb.o.frozen;clear hcr;have vw:=aa (HG.o.setCell (p:=⟨w.heap.size+1,0,none⟩) (by show w.heap.size≤w.heap.size+1;omega) (.slice A' es'.length c'));go_wp2_with fail;exact gV (afk rfl rfl (show Blk _ _ _ #[.slice A' es'.length c'] from qO.o.aY 0 _)) rfl ⟨vw.o,A',c',es',by rw[afq.o],zR.o.row,zR.o.two.mono fun a b k=>pL _ _ (dI.sub fun q hq=>hq.imp id fun h=>.inr (.inr h)) a b k⟩
section
open Go.RowKit V
def nA:ByteArray:=⟨#[97]⟩
def nX:ByteArray:=⟨#[120]⟩
def iV(n:Nat):V:=.mk 3 n [] [] []
def dV(i x:Nat):V:=.mk 8 0 [] [] [(jW,iV i),(nX,iV x)]
theorem XS{v:V}(h1:v.formed=true)(h2:v.most≤64)(h3:v.depth≤16)(h4:v.bytes.length≤4096):v.good=0:=Le.2 ⟨h1,h2,h3,h4⟩
theorem QM(n:Nat):(iV n).formed=true:=by unfold iV;rw[tj];unfold V.own;simp
theorem XT(n:Nat):(iV n).most≤64:=by unfold iV;rw[V.Ol];decide
theorem XU(n:Nat):(iV n).depth=0:=by unfold iV;rw[V.zg];rfl
theorem XV(n:Nat):(iV n).bytes.length=9:=by unfold iV;rw[iP];simp[jJ]
theorem afr(n:Nat):(iV n).good=0:=XS (QM n) (XT n) (by rw[XU];omega) (by rw[XV];omega)
theorem afs(n:Nat):(iV n).count=1:=by unfold iV;rw[sZ];simp
theorem QN{n:Nat}(h:n<18446744073709551616):(iV n).fit:=by unfold iV;rw[V.fit];exact⟨h,fun x hx=>by simp at hx,fun x hx=>by simp at hx⟩
theorem aft(n:Nat):(iV n).key.length=13:=by
 unfold iV;rw[fP,ak (by decide),ak (by decide),aD rfl];unfold uV;simp[g_]
theorem afu{n:Nat}(h:n<18446744073709551616):V.Keyed (iV n):=⟨⟨QM n,QN h⟩,afr n,by rw[aft];omega⟩
theorem afv{f:List (ByteArray×V)}(hl:f.length≤2)(hf:(V.mk 8 0 [] [] f).formed=true)(hx:∀x∈f,∃n,x.2=iV n)(hs:∀x∈f,x.1.size≤64):(V.mk 8 0 [] [] f).good=0:=by
 refine XS hf ((KN _ _ _ _ _ 64).2 ⟨by simp,by omega,by simp,fun x h=>by obtain⟨n,hn⟩:=hx x h;rw[hn];exact XT n⟩) ?_ ?_
 ·rw[V.Oq];have:=(Du (f.map fun x=>x.2.depth) 0 0).2 ⟨au _,fun y hy=>by
   obtain⟨x,h,rfl⟩:=mI.1 hy;obtain⟨n,hn⟩:=hx x h;rw[hn,XU];omega⟩
  omega
 rw[Bk];have key:∀l:List (ByteArray×V),(∀x∈l,(∃n,x.2=iV n)∧x.1.size≤64)→((l.map fun x=>V.item x.1 x.2.bytes).flatten).length≤l.length*100:=by
  intro l
  induction l with
  | nil=>intro _;simp
  | cons x r ih =>
   intro h;have h1:=ih fun y hy=>h y (N0 _ hy)
   obtain⟨⟨n,hn⟩,hz⟩:=h x Km;rw[fN,l8,bp,aU];have:(V.item x.1 x.2.bytes).length=x.1.size+x.2.bytes.length+1:=by rw[V.item];simp
   rw[this,hn,XV];omega
 have:=key f fun x h=>⟨hx x h,hs x h⟩
 simp only[aU];omega
theorem afw:V.name nX=true:=by decide +kernel
theorem afx:V.name jW=true:=by decide +kernel
theorem afy(i x:Nat):(dV i x).good=0:=by
 unfold dV;refine afv (by simp) ?_ (fun y hy=>?_) (fun y hy=>?_)
 ·rw[tj];simp[V.own,QM,afw,afx];decide
 ·simp at hy;rcases hy with rfl | rfl
  ·exact⟨_,rfl⟩
  exact⟨_,rfl⟩
 simp at hy;rcases hy with rfl | rfl
 ·show jW.size≤64;decide
 show nX.size≤64;decide
theorem afz{x:Nat}(hi:i<18446744073709551616)(hx:x<18446744073709551616):(dV i x).fit:=by
 unfold dV;rw[V.fit];refine⟨by decide,fun y hy=>by simp at hy,fun y hy=>?_⟩;simp at hy;rcases hy with rfl | rfl
 ·exact QN hi
 exact QN hx
theorem afA(i x:Nat):kC (dV i x)=some (iV i):=by show (List.find? (fun x:ByteArray×V=>decide (x.1=jW)) [(jW,iV i),(nX,iV x)]).map Prod.snd=_;simp
theorem afB(h:i<18446744073709551616):bl (iV i)=((iV i).key,0):=(afu h).bl
theorem afC(x:Nat)(h:i<18446744073709551616):bV (dV i x)=((iV i).key,0):=by
 unfold bV;rw[ak (by rw[afy];simp),ak (show ¬ (dV i x).k≠8 from fun h=>h rfl),afA];exact afB h
def lQ(d:Int)(c:ByteArray)(k:V):Rq:=⟨d,c,⟨#[]⟩,⟨#[]⟩,false,k,V.zero,V.zero,V.zero,0⟩
def zS(d:Int)(c:ByteArray)(x:V):Rq:=⟨d,c,⟨#[]⟩,⟨#[]⟩,false,V.zero,V.zero,V.zero,x,0⟩
def pR(d:Int)(c:ByteArray):Rq:=⟨d,c,⟨#[]⟩,⟨#[]⟩,false,V.zero,V.zero,V.zero,V.zero,0⟩
def sX(ag:List V)(aj:List Ix):List Co:=[⟨nA,ag,aj⟩]
theorem XW:cr [nA] nA=true∧bg [nA] nA=0:=by constructor<;>decide
theorem XX(ag:List V)(aj:List Ix):bX (sX ag aj) nA=⟨nA,ag,aj⟩:=by
 unfold bX sX;simp[aP,XW.2]
theorem afD(h:q.aM=1):h_ st q=qK st q:=by unfold h_;rw[h];rfl
theorem XY(h:q.aM=3):h_ st q=oH st q:=by unfold h_;rw[h];rfl
theorem XZ(ag:List V)(aj:List Ix):cr (aP (sX ag aj)) nA=true∧bg (aP (sX ag aj)) nA=0:=XW
theorem afE(ag:List V)(aj:List Ix)(c:Co):(sX ag aj).set 0 c=[c]:=rfl
theorem afF{K:List UInt8}(hc:q.aw=nA)(hk:bV q.doc=(K,0))(hx:rX q.doc aj=0)(h4:¬ (gL ag K=true∧q.aM≠3)) :
 oH (sX ag aj) q=.ok (sX (eT ag q.doc) aj,if gL ag K=true then 1 else 0,[]):=by
 unfold oH;rw[hc,(XZ ag aj).1,(XZ ag aj).2,XX,hk];dsimp only;rw[ak (by decide),ak (by decide),ak (by rw[hx];decide),ak h4,afE];rfl
end
end Go.Proofs.YtndjopkdbdcmdaaGreatDoor
