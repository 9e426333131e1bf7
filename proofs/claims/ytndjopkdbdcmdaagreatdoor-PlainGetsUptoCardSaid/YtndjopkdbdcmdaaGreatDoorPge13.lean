/- Part 13 of the proof of pgets_card. -/
import Derived.Test.YtndjopkdbdcmdaaGreatDoorPge10
import Derived.Test.YtndjopkdbdcmdaaGreatDoorPge12
import Derived.Deep.CutBlock
set_option linter.unusedVariables false
set_option linter.unusedSimpArgs false
set_option maxRecDepth 100000
set_option maxHeartbeats 12800000
open Go.Proofs.Tryz
open Go.RowKit
namespace Go.Proofs.YtndjopkdbdcmdaaGreatDoor
variable {A A':Option Addr}{B M N base c c' g hi i j lo mb vb z:Nat}{C C':Addr→Value→Prop}{S:Nat→Prop}{T T' t:TypeId}{W w w':World}{ag:List V}{cs:Array Value}{e:Int}{es:List Cc}{held:Bool}{path s:ByteArray}{q:Rq}{v:Value}{xs:List Value}
section
open Go.RowKit Go.Shelf
def pH:V→List ByteArray→Option V
 | v,[]=>some v
 | v,s::r=>(jl v s).bind fun u=>pH u r
def wP:ByteArray:=⟨#[46]⟩
def nG(s:ByteArray):List ByteArray:=Lib.splitB wP 0 (Lib.countB s wP) s
def mq(v:V)(s:ByteArray):Option V:=if v.good=0 then (if s.toList=[] then some v else pH v (nG s)) else none
def kD(w:World):Prop:=∃m,w.cell? ⟨2,0,none⟩=some (.int .i64 m)∧2<w.heap.size
theorem kD.grow(h:kD w)(hg:Grow w w'):kD w':=by
 obtain⟨m,h1,h2⟩:=h;exact⟨m,(hg.below.cell h2).trans h1,bG h2 hg.size⟩
theorem Wv(s:ByteArray):(nG s).length=Lib.countB s wP+1:=Lib.splitB_all wP (by decide) 0 _ s rfl
theorem adW(s:ByteArray)(w:World)(hM:kD w)(hs:s.size<4294967281):Calls prog 47 #[.string s,.string wP] w fun e w' =>
 e=.returned (.slice (some ⟨w.heap.size,0,none⟩) (nG s).length (nG s).length)∧w'=w.alloc (.cells ((nG s).map Value.string).toArray 9):=by
 obtain⟨m,h1,h2⟩:=hM;rw[Wv];exact Any.strings_Split (P:=prog) { PB with } PB.i9 s wP m w hs h1 (by decide)
theorem adX{v u:V}(h:jl v s=some u)(hs:v.nE):u.nE:=by
 obtain⟨k,n,b,l,f⟩:=v;rw[V.OL] at hs;obtain⟨-,-,-,hl,hf⟩:=hs;by_cases hk:k=7
 ·subst hk;rw[BL] at h;split at h
  ·exact hl _ (Be h)
  cases h
 rw[wQ hk] at h;obtain⟨x,hx,rfl⟩:=FV.1 h;exact hf _ (FW hx)
theorem Blk.Gv{b:Nat}(h:Blk W b t cs)(hne:b≠vb)(c:Cv):Blk (rL W vb c) b t cs:=
 ((((h.far (p:=⟨vb,0,none⟩) hne _).far (p:=⟨vb,1,none⟩) hne _).far (p:=⟨vb,2,none⟩) hne _).far (p:=⟨vb,3,none⟩) hne _).far (p:=⟨vb,4,none⟩) hne _
theorem PC{α:Type}(g:α→List UInt8):∀(l:List α) (x:α),x∈l→(g x).length≤((l.map g).flatten).length
 | y::r,x,h=>by
  rw[fN,l8,bp];rcases jI.1 h with h | h
  ·rw[h];omega
  have:=PC g r x h;omega
theorem adY(v:V):v.formed=true→v.bytes.length≤1000000000→v.nE:=by
 refine V.ind (p:=fun v=>v.formed=true→v.bytes.length≤1000000000→v.nE) (fun k n b l f ihl Ww hf hb=>?_) v;have hc:=count_le (V.mk k n b l f) hf;rw[sZ] at hc;have h1:l.length≤(l.map V.count).sum:=by
  clear ihl hf hb hc
  induction l with
  | nil=>simp
  | cons x r ih=>have:=Br x;simp only[fN,qm,aU];omega
 have h2:f.length≤(f.map fun x=>x.2.count).sum:=by
  clear Ww hf hb hc
  induction f with
  | nil=>simp
  | cons x r ih=>have:=Br x.2;simp only[fN,qm,aU];omega
 rw[tj] at hf;simp only[ig,nY,iy] at hf;have ho:=hf.1.1.1;unfold V.own at ho;simp only[ig,iy] at ho;rw[iP] at hb hc;rw[V.OL];refine⟨?_,by omega,by omega,fun x hx=>ihl x hx (hf.1.1.2 x hx) ?_,fun x hx=>Ww x hx (hf.1.2 x hx).2 ?_⟩
 ·by_cases hk:k=5∨k=6
  ·rw[ak (by omega),ak (by omega),aD hk] at hb;simp only[aU,bp] at hb;omega
  omega
 ·have h7:k=7:=by
   rcases ho.1.2 with h | h
   ·exact h
   rw[AW.1 h] at hx;simp at hx
  subst h7;have hm:=PC V.bytes l x hx;simp at hb;have hb2:(l.map V.bytes).flatten.length≤1000000000:=by simp only[FJ,ma];omega
  omega
 have h8:k=8:=by
  rcases ho.2 with h | h
  ·exact h
  rw[AW.1 h] at hx;simp at hx
 subst h8;have hm:=PC (fun x:ByteArray×V=>V.item x.1 x.2.bytes) f x hx;have hi:(V.item x.1 x.2.bytes).length=x.1.size+x.2.bytes.length+1:=by rw[V.item];simp
 have hb2:(f.map fun x:ByteArray×V=>V.item x.1 x.2.bytes).flatten.length≤1000000000:=by
  rw[ak (by decide),ak (by decide),ak (by decide),ak (by decide),aD rfl] at hb;simp only[aU] at hb;omega
 omega
theorem Gw{v:V}(h:v.good=0):v.nE:=adY v (mP h).1 (by have:=(mP h).2;omega)
theorem adZ(v:V)(s:ByteArray)(c:Cv)(w:World)(hT:dz w)(dY:v.count≤20000)(hv:In w v c)(hgd:v.good≠0) :
 Calls prog 21 #[c.agg,.string s] w (u6 w (mq v s)):=by
 have hg0:=((ah w).alloc (.cells c.cells 27)).alloc (.cells Cv.zero.cells 27);have aN:=aa hg0;have ar:=aa (cM (w:=w.alloc (.cells c.cells 27)) (g:=w.heap.size+1) (by simp) 27 Cv.zero.cells);have Ec:=aa (Ea v _ c dY (hT.grow hg0) (hv.grow hg0));clear hg0 hT dY hv;rw[mq];rw[ak hgd];obtain⟨g,hg⟩:∃g,v.good=g:=⟨_,rfl⟩;rw[hg] at hgd Ec;have hgz:(g==0)=false:=by simpa using hgd
 clear hgd hg;go_enter func21,ntmps21;go_wp2_with fail;refine Ec.o.mono ?_;rintro e w1 ⟨rfl,hg⟩;have aO:=aa (aN.o.trans hg);have tK:=aa (ar.o.grow hg);have iz:=tK.o.cell;have Gx:=tK.o.lt;have zq:=tK.o.frozen;clear hg;go_wp2_with fail;refine gV (qH rfl rfl rfl Cv.zero (Ed (c:=Cv.zero) tK.o)) rfl (u6.no rfl (aO.o.mK (fJ _) Cv.zero))
theorem ad0(v:V)(s:ByteArray)(c:Cv)(w:World)(hT:dz w)(hM:kD w)(dY:v.count≤20000)(hs:s.size<4294967281)(hv:In w v c)(hgd:v.good=0) :
 Calls prog 21 #[c.agg,.string s] w (u6 w (mq v s)):=by
 have hg0:=((ah w).alloc (.cells c.cells 27)).alloc (.cells Cv.zero.cells 27);have aN:=aa hg0;have bf:=aa ((az w 27 c.cells).alloc (.cells Cv.zero.cells 27));have ar:=aa (cM (w:=w.alloc (.cells c.cells 27)) (g:=w.heap.size+1) (by simp) 27 Cv.zero.cells);have Ec:=aa (Ea v _ c dY (hT.grow hg0) (hv.grow hg0));have HCp:=aa (DU v (Gw hgd));have HSm:=aa (Gw hgd);have HM:=aa (hM.grow hg0);have HV:=aa hv;have HS:=aa hs;clear hg0 hv hT hM dY hs;rw[mq];rw[aD hgd];rw[hgd] at Ec;clear hgd;by_cases pI:s.toList=[]
 ·rw[aD pI];go_enter func21,ntmps21;go_wp2_with fail;refine Ec.o.mono ?_;rintro e w1 ⟨rfl,hg⟩;have aO:=aa (aN.o.trans hg);have jm:=aa (bf.o.grow hg);have tK:=aa (ar.o.grow hg);have hc2:=jm.o.cell;have iz:=tK.o.cell;have HV1:=aa (HV.o.grow aO.o);clear hg;go_wp2_with fail;refine(HCp.o _ _ HV1.o).mono ?_;rintro e w2 ⟨x,rfl,hx,hg2⟩;have HX:=aa hx;have HG2:=aa (aO.o.trans hg2);have qI:=aa (tK.o.lt);have yh:=aa (tK.o.grow hg2);have ad1:=yh.o.cell;have ad2:=yh.o.lt;have ad3:=yh.o.frozen;clear hx hg2 hc2 iz;go_wp2_with fail;refine gV (qH rfl rfl rfl x (wI (c:=x) yh.o)) rfl (u6.yes rfl (HG2.o.mK (fJ _) x) (aO.o.size) (Wx HX.o.BM qI.o x))
 rw[ak pI];have ad4:s.toList.isEmpty=false:=by simpa using pI
 go_enter func21,ntmps21;go_wp2_with fail;refine Ec.o.mono ?_;rintro e w1 ⟨rfl,hg⟩;have aO:=aa (aN.o.trans hg);have jm:=aa (bf.o.grow hg);have tK:=aa (ar.o.grow hg);have hc2:=jm.o.cell;have iz:=tK.o.cell;have HSp:=aa (adW s w1 (HM.o.grow hg) HS.o);clear hg;go_wp2_with fail;refine HSp.o.mono ?_;rintro e wS ⟨rfl,Ee⟩;have jQ:=aa (show w1.heap.size<wS.heap.size by rw[Ee];simp);have iW:=aa (aO.o.trans (show Grow w1 wS by rw[Ee];exact(ah w1).alloc _));have ad5:=aa (jm.o.grow (show Grow w1 wS by rw[Ee];exact(ah w1).alloc _));have ad6:=aa (tK.o.grow (show Grow w1 wS by rw[Ee];exact(ah w1).alloc _));have kE:=aa (show Blk wS w1.heap.size 9 ((nG s).map Value.string).toArray by rw[Ee];exact az w1 _ _);have zD:=aa (tK.o.lt)
 clear hc2 iz Ee;have hnl:(nG s).length≤4294967282:=by
  have:=Lib.countB_le wP (by decide) s.size s (au _);have:=HS.o;rw[Wv];omega
 obtain⟨ns,hns⟩:∃ns,nG s=ns:=⟨_,rfl⟩;rw[hns] at kE hnl ⊢;obtain⟨nb,hnb⟩:∃nb,w1.heap.size=nb:=⟨_,rfl⟩;rw[hnb] at kE jQ zD ⊢;have bS:=aa hns;clear hns hnb;go_wp2_with fail;go_loopg [7,8,20] (ns.length+1) (fun gk x y i wr=>∃(j:Nat) (u:V) (cu:Cv),j≤ns.length∧gk+j=ns.length+1∧i=.int .i64 j∧pH v ns=pH u (ns.drop j)∧u.nE∧In w u cu∧Grow w wr ∧
  Blk wr w.heap.size 27 cu.cells∧Blk wr (w.heap.size+1) 27 Cv.zero.cells∧Blk wr nb 9 (ns.map Value.string).toArray)
 exact⟨0,v,c,by omega,by omega,rfl,rfl,HSm.o,HV.o,iW.o,ad5.o,ad6.o,kE.o⟩;obtain⟨j,u,cu,hj,ji,rfl,hp,Wy,hu,hw,h2,h4,hN⟩:=hrel;have HP:=aa hp;have Wz:=aa Wy;have HU:=aa hu;have HW:=aa hw;have H2:=aa h2;have H4:=aa h4;have HN:=aa hN;have hc2:=h2.cell;have iz:=h4.cell;have hcn:=hN.cell;obtain⟨gk',rfl⟩:=bz gk (by omega);clear hp Wy hu hw h2 h4 hN;by_cases hlt:j<ns.length
 ·have dO:=HN.o.lt;go_wp2_with fail;refine(ad7 u ns[j] cu w wr HW.o HU.o).mono ?_;rintro e w2 ⟨hg2,x,t,u2,rfl,hx,hh⟩;have HX:=aa hx;have HG2:=aa (HW.o.trans hg2);have KW:=aa (H2.o.grow hg2);have Gy:=aa (H4.o.grow hg2);have PD:=aa (HN.o.grow hg2);have hcb:=KW.o.cell;have WA:=KW.o.lt;have hzb:=KW.o.frozen;clear hg2 hc2 iz hcn hx;rcases hh with ⟨hy,rfl⟩ | ⟨hn,rfl,-,-⟩
  ·have HY:=aa hy;clear hy;go_wp2_with fail;go_roundg gk';refine⟨j+1,u2,x,by omega,by omega,by go_num,?_,adX HY.o Wz.o,HX.o,HG2.o.mK (au _) x,wI (c:=x) KW.o,Gy.o.Gv (by omega) x,PD.o.Gv (by have:=zD.o;omega) x⟩;rw[HP.o,yX hlt];show (jl u ns[j]).bind _=_;rw[HY.o];rfl;omega
  have HY:=aa (show pH v (nG s)=none by
   rw[bS.o,HP.o,yX hlt];show (jl u ns[j]).bind _=_;rw[hn];rfl)
  clear hn;have H4b:=aa (Gy.o.Gv (vb:=w.heap.size) (by omega) x);have u_:=Gy.o.cell;have anf:=Gy.o.lt;have hzd:=Gy.o.frozen;go_wp2_with fail;refine gV (qH rfl rfl rfl Cv.zero (Ed (c:=Cv.zero) H4b.o)) rfl (u6.no HY.o ((HG2.o.mK (au _) x).mK (fJ _) Cv.zero))
 obtain rfl:j=ns.length:=by omega
 go_wp2_with fail;refine(DU u Wz.o _ _ (HU.o.grow HW.o)).mono ?_;rintro e w2 ⟨x,rfl,hx,hg2⟩;have HX:=aa hx;have HG2:=aa (HW.o.trans hg2);have qI:=aa (H4.o.lt);have yh:=aa (H4.o.grow hg2);have ad1:=yh.o.cell;have ad2:=yh.o.lt;have ad3:=yh.o.frozen;clear hx hg2 hc2 iz hcn;have HY:=aa (show pH v (nG s)=some u by
  rw[bS.o,HP.o,List.drop_length];rfl)
 go_wp2_with fail;refine gV (qH rfl rfl rfl x (wI (c:=x) yh.o)) rfl (u6.yes HY.o (HG2.o.mK (fJ _) x) (HW.o.size) (Wx HX.o.BM qI.o x))
theorem PE(v:V)(s:ByteArray)(c:Cv)(w:World)(hT:dz w)(hM:kD w)(dY:v.count≤20000)(hs:s.size<4294967281)(hv:In w v c) :
 Calls prog 21 #[c.agg,.string s] w (u6 w (mq v s)):=by
 by_cases hgd:v.good=0
 ·exact ad0 v s c w hT hM dY hs hv hgd
 exact adZ v s c w hT dY hv hgd
end
section
open Go.RowKit
theorem ad8{v u:V}(h:jl v s=some u):u.count≤v.count:=by
 obtain⟨k,n,b,l,f⟩:=v;rw[sZ];by_cases h7:k=7
 ·subst h7;rw[BL] at h;split at h
  ·have hm:u.count∈l.map V.count:=mI.2 ⟨u,Be h,rfl⟩;have:=KU hm;omega
  cases h
 rw[wQ h7,FV] at h;obtain⟨⟨t,x⟩,h1,rfl⟩:=h;have hm:x.count∈f.map fun x=>x.2.count:=mI.2 ⟨(t,x),FW h1,rfl⟩
 have:=KU hm;show x.count≤_;omega
theorem WB:∀{l:List ByteArray} {v u:V},pH v l=some u→u.count≤v.count
 | [],v,u,h=>by rw[pH] at h;injection h with h;rw[h];exact au _
 | s::r,v,u,h=>by
  rw[pH,Option.bind_eq_some_iff] at h;obtain⟨x,h1,h2⟩:=h;exact aV (WB h2) (ad8 h1)
theorem PF{v u:V}(h:mq v s=some u):u.count≤v.count:=by
 unfold mq at h;split at h
 ·split at h
  ·injection h with h;rw[h];exact au _
  exact WB h
 cases h
def eB(path:ByteArray)(v:V):List UInt8×Bool×Int:=
 if (bV v).2≠0 then ([],false,(bV v).2) else match mq v path with
  | none=>([],false,0)
  | some u=>if (jt [u,(kC v).getD V.zero] [false,false]).2≠0 then ([],false,(jt [u,(kC v).getD V.zero] [false,false]).2)
   else ((jt [u,(kC v).getD V.zero] [false,false]).1,true,0)
def zE(w:World)(p:List UInt8×Bool×Int)(e:Ending)(w':World):Prop:=
 ∃base A c,e=.returned (.tuple #[.slice A p.1.length c,.bool p.2.1,.int .i64 p.2.2])∧w.heap.size≤base∧Row w' base (.slice A p.1.length c) p.1.length p.1∧Grow w w'
theorem zE.bad{t:Bool}(h:Grow w w'):zE w ([],t,e) (.returned (.tuple #[.slice none 0 0,.bool t,.int .i64 e])) w':=
 ⟨w.heap.size,none,0,rfl,au _,jb _ _ _ _,h⟩
theorem ad9{v:V}(h:(bV v).2=0):∃i,kC v=some i∧v.good=0∧(bl i).2=0:=by
 unfold bV at h;split at h
 ·rename_i hg;exact absurd h hg
 rename_i hg;split at h
 ·cases h
 cases hi:kC v with
 | none=>rw[hi] at h;cases h
 | some i=>rw[hi] at h;exact⟨i,rfl,by simpa using hg,h⟩
theorem WC(w:World)(s t:Bool):Pw (w.alloc (.cells #[.bool s,.bool t] 4)) (some ⟨w.heap.size,0,none⟩) [s,t]:=by
 refine⟨rfl,fun _=>⟨w.heap.size,0,rfl,fun j u hu=>?_⟩⟩;have hn:=az w 4 #[.bool s,.bool t];rcases j with _ | _ | j
 ·cases hu;exact⟨hn.cell 0,aR _,hn.lt⟩
 ·cases hu;exact⟨hn.cell 1,aR _,hn.lt⟩
 simp at hu
abbrev Ix.agg(x:Ix):Value:=.agg x.cells
theorem WD(x:Ix)(v:V)(c:Cv)(w:World)(hx:x.path.size<4294967281)(dY:v.count≤20000)(hT:dz w)(hM:kD w)(hv:In w v c):Calls prog 28 #[x.agg,c.agg] w (zE w (eB x.path v)):=by
 have aN:=aa (((ah w).alloc (.cells x.cells 64)).alloc (.cells c.cells 27));have Ef:=aa ((az w 64 x.cells).alloc (.cells c.cells 27));have bO:=aa (cM (w:=w.alloc (.cells x.cells 64)) (g:=w.heap.size+1) (by simp) 27 c.cells);have hcell:=bO.o.cell;have HV:=aa hv;have HT:=aa hT;have HM:=aa hM;have HKEY:=aa (Pz v c _ dY (hT.grow aN.o) (hv.grow aN.o));obtain⟨⟨kb,ke⟩,eQ⟩:∃r,bV v=r:=⟨_,rfl⟩;rw[eQ] at HKEY;have fq:=aa eQ;clear hT hv hM eQ;go_enter func28,ntmps28;go_wp2_with fail;refine HKEY.o.mono ?_;rintro e w1 ⟨base,Ak,ck,rfl,hbk,Gz,hg1⟩;dsimp only at Gz ⊢;have cP:=aa (bO.o.grow hg1);have nH:=aa (Ef.o.grow hg1);have hc1:=cP.o.cell;have tz:=cP.o.lt;have hx1:=nH.o.cell;have ad_:=nH.o.lt;have aO:=aa (aN.o.trans hg1)
 clear hg1 Gz hbk hcell HKEY;by_cases h0:ke=0
 ·subst h0;have zF:=aa (PE v x.path c w1 (HT.o.grow aO.o) (HM.o.grow aO.o) dY hx (HV.o.grow aO.o));go_wp2_with fail;refine zF.o.mono ?_;rintro e w2 ⟨hg2,cu,t,u,rfl,uZ,hres⟩;have HG2:=aa (aO.o.trans hg2);have bf:=aa (cP.o.grow hg2);have hc2:=bf.o.cell;have hl2:=bf.o.lt;have zC:=aa (show In w2 u cu from dX (fun p y h=>⟨h.1,aR _,h.2.2⟩) u cu uZ);have Eg:=aa (az w2 27 cu.cells);clear uZ hc1 tz hx1 ad_ zF;have PG:=aa (HG2.o.alloc (.cells cu.cells 27));have aea:=aa (bf.o.alloc (.cells cu.cells 27));have hcb:=aea.o.cell;have BN:=Eg.o.cell;rcases hres with ⟨hp,rfl⟩ | ⟨hp,rfl,rfl,rfl⟩
  ·have HP:=aa hp;obtain⟨i,hi⟩:∃i,kC v=some i:=(ad9 (v:=v) (by rw[fq.o])).imp fun i h=>h.1
   have HI:=aa hi;have oF:=aa (fun w2 (h:Grow w w2)=>KV v c w w2 h HV.o);rw[hi] at oF;clear hi hp hg2;go_wp2_with fail;refine(oF.o _ PG.o).mono ?_;rintro e w3 ⟨hg3,ci,t3,u3,rfl,uU,GA⟩;obtain⟨hu3,rfl⟩:some i=some u3∧t3=true:=by
    rcases GA with h | ⟨h,-⟩
    ·exact h
    cases h
   injection hu3 with hu3;subst hu3;clear GA oF;have aG:=aa (PG.o.trans hg3);have PH:=aa (Eg.o.grow hg3);have ang:=PH.o.cell;have anh:=PH.o.lt;have WE:=aa (zC.o.grow (((ah w2).alloc (.cells cu.cells 27)).trans hg3));have zA:=aa (uU.grow aG.o);have vd:=aa ((ah w3).alloc (.cells ci.cells 27));have zB:=aa (az w3 27 ci.cells);have ani:=zB.o.cell;have HU4:=aa (PH.o.alloc (.cells ci.cells 27));have anj:=HU4.o.cell;clear hcb BN hg3 uU hc2 hl2;have HR:=aa (InL.row2 (WE.o.grow vd.o) (zA.o.grow vd.o));have hR:=zB.o.lt;have GC:=WC ((w3.alloc (.cells ci.cells 27)).alloc (.cells (cells2 cu ci) 27)) false false;have tL:=((ah ((w3.alloc (.cells ci.cells 27)))).alloc (.cells (cells2 cu ci) 27))
   have Eh:=(tL.trans (ah _)).alloc (.cells #[.bool false,.bool false] 4);have WH:=D8 (aV (PF HP.o) dY) WE.o;have wR:=D8 (aV (BK HI.o) dY) zA.o;have tE:=HR.o.grow ((ah _).alloc (.cells #[.bool false,.bool false] 4));have hal:=adU [u,i] [false,false] _ _ 2 2 _ (fun y hy=>by
    rcases jI.1 hy with rfl | hy
    ·exact WH
    rw[rz] at hy;subst hy;exact wR) (HT.o.grow ((aG.o.trans vd.o).trans Eh)) tE GC (by simp)
   simp only[ei] at hal;obtain⟨⟨ab,ae⟩,qJ⟩:∃r,jt [u,i] [false,false]=r:=⟨_,rfl⟩;rw[qJ] at hal;have ve:=aa hal;have KX:=aa qJ;have bP:=aa ((aG.o.trans vd.o).trans Eh);clear hal qJ tE GC tL Eh WH wR HR;go_wp2_with fail;refine ve.o.mono ?_;rintro e w4 ⟨base,A4,c4,rfl,hb4,hr4,hg4⟩;dsimp only at hr4 ⊢;have a_:=aa (bP.o.trans hg4);have ar:=aa (aV bP.o.size hb4);have bY:=aa hr4;clear hg4 hb4 hr4;by_cases he:ae=0
   ·subst he;go_wp2_with fail;go_ret3;rw[show eB x.path v=(ab,true,0) by unfold eB;rw[fq.o,ak (by simp),HP.o];simp only[HI.o,pq,KX.o];rfl];exact⟨base,A4,c4,rfl,ar.o,bY.o,a_.o⟩
   go_wp2_with fail;go_ret3;rw[show eB x.path v=([],false,ae) by unfold eB;rw[fq.o,ak (by simp),HP.o];simp only[HI.o,pq,KX.o];rw[aD he]];exact zE.bad a_.o
  go_wp2_with fail;go_ret3;rw[show eB x.path v=([],false,0) by unfold eB;rw[fq.o,ak (by simp),hp]];exact zE.bad PG.o
 go_wp2_with fail;go_ret3;rw[show eB x.path v=([],false,ke) by unfold eB;rw[fq.o,aD h0]];exact zE.bad aO.o
end
abbrev PI:=@zE.bad

theorem aeb(c:Cc)(s:ByteArray)(w:World):Calls prog 163 #[.agg c.cells,.string s] w fun e w'=>e=.returned (.int .i64 (Lib.compareBytes c.nm.data.toList s.data.toList))∧Grow w w':=by
 have HS:=aa (fun w=>Pf c.nm s w);have HG:=aa ((ah w).alloc (.cells c.cells 48));go_enter func163,ntmps163;go_wp2_with (go_at_call 97;refine(HS.o _).mono ?_;rintro e w' ⟨rfl,rfl⟩);go_ret;exact⟨rfl,HG.o⟩
theorem aec(c:Ix)(s:ByteArray)(w:World):Calls prog 171 #[.agg c.cells,.string s] w fun e w'=>e=.returned (.int .i64 (Lib.compareBytes c.name.data.toList s.data.toList))∧Grow w w':=by
 have HS:=aa (fun w=>Pf c.name s w);have HG:=aa ((ah w).alloc (.cells c.cells 64));go_enter func171,ntmps171;go_wp2_with (go_at_call 97;refine(HS.o _).mono ?_;rintro e w' ⟨rfl,rfl⟩);go_ret;exact⟨rfl,HG.o⟩
theorem aed(v:V)(c:Cv)(k:List UInt8)(K:Option Addr)(kc:Nat)(w:World)(dY:v.count≤20000)(hT:dz w)(hv:In w v c)(hk:bh w K k):Calls prog 167 #[c.agg,.slice K k.length kc] w fun e w'=>e=.returned (.int .i64 (Lib.compareBytes (bV v).1 k))∧Grow w w':=by
 have aN:=aa ((ah w).alloc (.cells c.cells 27));have hcell:=(az w 27 c.cells).cell;have HKEY:=aa (Pz v c _ dY (hT.grow aN.o) (hv.grow aN.o));have HK:=aa hk;obtain⟨⟨kb,ke⟩,eQ⟩:∃r,bV v=r:=⟨_,rfl⟩;rw[eQ] at HKEY ⊢;clear hT hv hk eQ;go_enter func167,ntmps167;go_wp2_with fail;refine HKEY.o.mono ?_;rintro e w1 ⟨base,A1,c1,rfl,hb1,hr1,hg1⟩;dsimp only at hr1 ⊢;have aO:=aa (aN.o.trans hg1);have HC:=aa (Oz kb k A1 K c1 kc w1 hr1.reads.1 (HK.o.grow aO.o));clear hr1 hg1 hb1 hcell;go_wp2_with fail;refine HC.o.mono ?_;rintro e w2 ⟨rfl,rfl⟩;go_wp2_with fail;go_ret;exact⟨rfl,aO.o⟩
def lL(names:Nat→ByteArray)(s:ByteArray)(j:Nat):Int:=Lib.compareBytes (names j).data.toList s.data.toList
def oG(ag:List V)(k:List UInt8)(j:Nat):Int:=Lib.compareBytes (bV (ag.getD j V.zero)).1 k
theorem InL.rows{cap:Nat}(h:InL w A cap ag):∃el:Nat→Cv,rK w A 5 ag.length (fun j=>(el j).cells)∧∀j (hj:j<ag.length),In w ag[j] (el j):=by
 have hx:∀j,∃x:Cv,∀hj:j<ag.length,∃bk o,A=some ⟨bk,o,none⟩∧bk<w.heap.size∧(∀i v,x.cells[i]?=some v→w.cell? ⟨bk,o+j*5+i,none⟩=some v)∧In w ag[j] x:=fun j=>by
  by_cases hj:j<ag.length
  ·obtain⟨bk,o,x,ha,hb,e0,e1,e2,e3,e4,hv⟩:=dW.fh h j hj;refine⟨x,fun _=>⟨bk,o,ha,hb,fun i v hi=>?_,hv⟩⟩;rcases i with _ | _ | _ | _ | _ | i
   ·cases hi;exact e0
   ·cases hi;exact e1
   ·cases hi;exact e2
   ·cases hi;exact e3
   ·cases hi;exact e4
   simp at hi
  exact⟨Cv.zero,fun h=>absurd h hj⟩
 refine⟨fun j=>Classical.choose (hx j),fun j hj=>?_,fun j hj=>?_⟩
 ·obtain⟨bk,o,ha,hb,hc,-⟩:=xP (hx j) hj;exact⟨bk,o,ha,hb,hc⟩
 obtain⟨bk,o,ha,hb,hc,hv⟩:=xP (hx j) hj;exact hv
theorem WI(ag:List V)(pb po cap:Nat)(A:Option Addr)(k:List UInt8)(K:Option Addr)(kc:Nat)(w:World)(dY:∀v∈ag,v.count≤20000)(hlen:ag.length≤140737488355328)(hT:dz w)(hc:w.cell? ⟨pb,po+1,none⟩=some (.slice A ag.length cap))(hpb:pb<w.heap.size)(hd:InL w A cap ag)(hk:bh w K k) :
 Calls prog 120 #[.pointer (some ⟨pb,po,none⟩),.slice K k.length kc] w fun e w'=>e=.returned (.tuple #[.int .i64 (il (oG ag k) ag.length:Nat),.bool (gj (oG ag k) ag.length)])∧Grow w w':=by
 obtain⟨el,hrow,hin⟩:=hd.rows;have ax:=aa (acC ag.length (oG ag k) el A cap (.slice K k.length kc) w hlen hrow (fun j hj w' hg=>by
  have h:=aed ag[j] (el j) k K kc w' (dY _ (aS hj)) (hT.grow hg) ((hin j hj).grow hg) (hk.grow hg);unfold oG;rw[gy,bH hj,pq];exact h))
 clear hrow hin hd hk hT dY;go_enter func120,ntmps120;go_wp2_with fail;refine ax.o.mono ?_;rintro e w2 ⟨rfl,hg⟩;have HG:=aa hg;clear hg;go_wp2_with fail;go_ret2;exact⟨rfl,HG.o⟩
structure Co where
 name:ByteArray
 ag:List V
 aj:List Ix
def bg(names:List ByteArray)(s:ByteArray):Nat:=il (lL (fun j=>names.getD j ⟨#[]⟩) s) names.length
def cr(names:List ByteArray)(s:ByteArray):Bool:=gj (lL (fun j=>names.getD j ⟨#[]⟩) s) names.length
def gK(ag:List V)(k:List UInt8):Nat:=il (oG ag k) ag.length
def gL(ag:List V)(k:List UInt8):Bool:=gj (oG ag k) ag.length
def rX(d:V):List Ix→Int
 | []=>0
 | x::r=>if (eB x.path d).2.2≠0 then (eB x.path d).2.2 else rX d r
abbrev mS:=Except Int (List Co×Int×List V)
abbrev aP(st:List Co):List ByteArray:=st.map Co.name
abbrev gM(c:Co):List ByteArray:=c.aj.map Ix.name
def bX(st:List Co)(s:ByteArray):Co:=st.getD (bg (aP st) s) ⟨⟨#[]⟩,[],[]⟩
def cD{α:Type}(l:List α)(i:Nat)(x:α):List α:=l.take i++x::l.drop i
def cT{α:Type}(l:List α)(i:Nat):List α:=l.take i++l.drop (i+1)
def qK(st:List Co)(q:Rq):mS:=
 if V.name q.aw=false then .error 4 else if cr (aP st) q.aw=true then .error 6 else if 16≤st.length then .error 19 else
 .ok (cD st (bg (aP st) q.aw) ⟨q.aw,[],[]⟩,0,[])
def BO(st:List Co)(q:Rq):mS:=
 if cr (aP st) q.aw=false then .error 5 else .ok (cT st (bg (aP st) q.aw),0,[])
def eT(ag:List V)(d:V):List V:=
 if gL ag (bV d).1=true then ag.set (gK ag (bV d).1) d else cD ag (gK ag (bV d).1) d
def oH(st:List Co)(q:Rq):mS:=
 if cr (aP st) q.aw=false then .error 5 else if (bV q.doc).2≠0 then .error (bV q.doc).2 else
 if rX q.doc (bX st q.aw).aj≠0 then .error (rX q.doc (bX st q.aw).aj) else
 if gL (bX st q.aw).ag (bV q.doc).1=true∧q.aM≠3 then .error 6 else
 .ok (st.set (bg (aP st) q.aw) ⟨(bX st q.aw).name,eT (bX st q.aw).ag q.doc,(bX st q.aw).aj⟩,
  if gL (bX st q.aw).ag (bV q.doc).1=true then 1 else 0,[])
def tM(st:List Co)(q:Rq):mS:=
 if cr (aP st) q.aw=false then .error 5 else if (bl q.key).2≠0 then .error (bl q.key).2 else
 if gL (bX st q.aw).ag (bl q.key).1=false then .error 17 else
 .ok (st.set (bg (aP st) q.aw) ⟨(bX st q.aw).name,cT (bX st q.aw).ag (gK (bX st q.aw).ag (bl q.key).1),(bX st q.aw).aj⟩,
  0,[(bX st q.aw).ag.getD (gK (bX st q.aw).ag (bl q.key).1) V.zero])
def wT(st:List Co)(q:Rq):mS:=
 if cr (aP st) q.aw=false then .error 5 else if (bl q.key).2≠0 then .error (bl q.key).2 else
 if gL (bX st q.aw).ag (bl q.key).1=false then .error 17 else
 .ok (st,0,[(bX st q.aw).ag.getD (gK (bX st q.aw).ag (bl q.key).1) V.zero])
def zG(st:List Co)(q:Rq):mS:=
 if cr (aP st) q.aw=false then .error 5 else if cr (gM (bX st q.aw)) q.index=false then .error 5 else
 .ok (st.set (bg (aP st) q.aw) ⟨(bX st q.aw).name,(bX st q.aw).ag,cT (bX st q.aw).aj (bg (gM (bX st q.aw)) q.index)⟩,0,[])
def countP(st:List Co)(q:Rq):mS:=
 if cr (aP st) q.aw=false then .error 5 else .ok (st,(bX st q.aw).ag.length,[])
def h_(st:List Co)(q:Rq):mS:=
 if q.aM=1 then qK st q else if q.aM=2 then BO st q else if q.aM=3 then oH st q else if q.aM=4 then oH st q else if q.aM=5 then tM st q else
 if q.aM=6 then wT st q else if q.aM=8 then zG st q else if q.aM=10 then countP st q else .error 1
def mU(st:List Co):mS→List Co×Rp
 | .error e=>(st,⟨e,0,[],0⟩)
 | .ok (st',n,ag)=>(st',⟨0,n,ag,0⟩)
section
open Go.RowKit
section
variable {α:Type} (f:α→List Value) (z:Nat) (hz:∀x,(f x).length=z)
include hz
theorem BP:∀(l:List α),((l.map f).flatten).length=l.length*z
 | []=>by simp
 | x::r=>by rw[fN,l8,bp,hz,BP r,aU,ki,n_,FU]
theorem tN:∀(l:List α) (j:Nat),((l.map f).flatten).drop (j*z)=((l.drop j).map f).flatten
 | l,0=>by simp
 | [],j+1=>by simp
 | x::r,j+1=>by
  rw[fN,l8,List.drop_succ_cons,← tN r j,ki,n_,FU,← J6,List.drop_left' (hz x)]
theorem yi:∀(l:List α) (j:Nat),((l.map f).flatten).take (j*z)=((l.take j).map f).flatten
 | l,0=>by simp
 | [],j+1=>by simp
 | x::r,j+1=>by
  have e:(j+1)*z=(f x).length+j*z:=by rw[hz,ki,n_,FU]
  rw[fN,l8,NP,fN,l8,← yi r j,e,List.take_length_add_append]
theorem mV(l:List α)(j i:Nat)(hi:i<z)(x:α)(hj:l[j]?=some x):((l.map f).flatten)[j*z+i]?=(f x)[i]?:=by
 have hjl:j<l.length:=(jd.1 hj).1;have he:l[j]=x:=(jd.1 hj).2;rw[← y9,tN f z hz,yX hjl,fN,l8,J_ (by rw[hz];exact hi),he]
theorem PJ(l:List α)(i:Nat):((l.map f).flatten).take (i*z)++((l.map f).flatten).drop ((i+1)*z)=((cT l i).map f).flatten:=by
 rw[yi f z hz,tN f z hz,cT,l7,xJ]
theorem PK(l:List α)(i:Nat)(x:α):((l.map f).flatten).take (i*z)++f x++((l.map f).flatten).drop (i*z)=((cD l i x).map f).flatten:=by
 rw[yi f z hz,tN f z hz,cD,l7,xJ,fN,l8,nv]
theorem PL(l:List α)(i:Nat)(x:α)(h:i<l.length):((l.map f).flatten).take (i*z)++f x++((l.map f).flatten).drop ((i+1)*z)=((l.set i x).map f).flatten:=by
 rw[yi f z hz,tN f z hz,Vo,aD h,l7,xJ,fN,l8,nv]
end
def Two{α β:Type}(R:α→β→Prop)(l:List α)(m:List β):Prop:=l.length=m.length∧∀(j:Nat) a b,l[j]?=some a→m[j]?=some b→R a b
namespace Two
variable {α β:Type} {R:α→β→Prop} {l:List α} {m:List β}
theorem mono{R':α→β→Prop}(h:Two R l m)(hR:∀a b,R a b→R' a b):Two R' l m:=⟨h.1,fun j a b ha hb=>hR a b (h.2 j a b ha hb)⟩
theorem nil:Two R [] []:=⟨rfl,fun j a b ha=>by simp at ha⟩
theorem take(h:Two R l m)(i:Nat):Two R (l.take i) (m.take i):=⟨by rw[dU,dU,h.1],fun j a b ha hb=>by
 rw[Df] at ha hb;split at ha
 ·rw[aD ‹_›] at hb;exact h.2 j a b ha hb
 cases ha⟩
theorem drop(h:Two R l m)(i:Nat):Two R (l.drop i) (m.drop i):=⟨by rw[iw,iw,h.1],fun j a b ha hb=>by
 rw[y9] at ha hb;exact h.2 _ a b ha hb⟩
theorem append{l':List α}{m':List β}(h:Two R l m)(k:Two R l' m'):Two R (l++l') (m++m'):=⟨by rw[bp,bp,h.1,k.1],fun j a b ha hb=>by
 by_cases hj:j<l.length
 ·rw[J_ hj] at ha;rw[J_ (by rw[← h.1];exact hj)] at hb;exact h.2 j a b ha hb
 rw[Ka (by omega)] at ha;rw[Ka (by rw[← h.1];omega),← h.1] at hb;exact k.2 _ a b ha hb⟩
theorem cons{a:α}{b:β}(h:R a b)(k:Two R l m):Two R (a::l) (b::m):=⟨by rw[aU,aU,k.1],fun j x y ha hb=>by
 rcases j with _ | j
 ·simp at ha hb;rw[← ha,← hb];exact h
 exact k.2 j x y (by simpa using ha) (by simpa using hb)⟩
theorem one{a:α}{b:β}(h:R a b):Two R [a] [b]:=cons h nil
theorem del(h:Two R l m)(i:Nat):Two R (cT l i) (cT m i):=(h.take i).append (h.drop (i+1))
theorem ins(h:Two R l m)(i:Nat){a:α}{b:β}(k:R a b):Two R (cD l i a) (cD m i b):=(h.take i).append (cons k (h.drop i))
theorem set(h:Two R l m)(i:Nat){a:α}{b:β}(k:R a b):Two R (l.set i a) (m.set i b):=⟨by rw[gW,gW,h.1],fun j x y ha hb=>by
 rw[List.getElem?_set] at ha hb;split at ha
 ·rename_i hij;rw[aD hij] at hb;split at ha
  ·split at hb
   ·cases ha;cases hb;exact k
   cases hb
  cases ha
 rw[ak ‹_›] at hb;exact h.2 j x y ha hb⟩
theorem set'(hl:l.length=m.length)(i:Nat){a:α}{b:β}(h:∀(j:Nat) x y,j≠i→l[j]?=some x→m[j]?=some y→R x y)(k:R a b):Two R (l.set i a) (m.set i b):=⟨by rw[gW,gW,hl],fun j x y ha hb=>by
 rw[List.getElem?_set] at ha hb;split at ha
 ·rename_i hij;rw[aD hij] at hb;split at ha
  ·split at hb
   ·cases ha;cases hb;exact k
   cases hb
  cases ha
 rename_i hij;rw[ak hij] at hb;exact h j x y (fun e=>hij e.symm) ha hb⟩
theorem at_(h:Two R l m)(hj:j<l.length)(hj':j<m.length):R l[j] m[j]:=h.2 j _ _ (bH hj) (bH hj')
end Two
abbrev Cc.zero:Cc:=⟨⟨#[]⟩,none,0,0,none,0,0⟩
def cY(es:List Cc):List Value:=(es.map fun e=>e.cells.toList).flatten
def dQ(xs:List Ix):List Value:=(xs.map fun x=>x.cells.toList).flatten
def cK(cs:List Cv):List Value:=(cs.map fun c=>c.cells.toList).flatten
theorem WJ(es:List Cc):(cY es).length=es.length*3:=BP _ 3 (fun _=>rfl) es
theorem aee(es:List Ix):(dQ es).length=es.length*3:=BP _ 3 (fun _=>rfl) es
theorem KY(es:List Cv):(cK es).length=es.length*5:=BP _ 5 (fun _=>rfl) es
theorem Ei(es:List Cc):∀v∈cY es,v.oneCell'=true:=by
 intro v hv;simp only[cY,F3,mI] at hv;obtain⟨_,⟨e,_,rfl⟩,h⟩:=hv;simp at h;rcases h with rfl | rfl | rfl<;>rfl
theorem zH(es:List Ix):∀v∈dQ es,v.oneCell'=true:=by
 intro v hv;simp only[dQ,F3,mI] at hv;obtain⟨_,⟨e,_,rfl⟩,h⟩:=hv;simp at h;rcases h with rfl | rfl | rfl<;>rfl
theorem BQ(es:List Cv):∀v∈cK es,v.oneCell'=true:=by
 intro v hv;simp only[cK,F3,mI] at hv;obtain⟨_,⟨e,_,rfl⟩,h⟩:=hv;simp at h;rcases h with rfl | rfl | rfl | rfl | rfl<;>rfl
def dI(w:World)(S:Nat→Prop)(p:Addr)(u:Value):Prop:=w.cell? p=some u∧p.block<w.heap.size∧¬ S p.block
theorem dI.kept{T:Nat→Prop}(hk:Kept T w w')(hs:∀q,T q→S q)(p:Addr)(u:Value)(h:dI w S p u):dI w' S p u:=
 ⟨(uy (hk.block p.block h.2.1 (fun ht=>h.2.2 (hs _ ht)))).trans h.1,bG h.2.1 hk.size,h.2.2⟩
theorem dI.BM(p:Addr)(u:Value)(h:dI w S p u):bQ w 0 w.heap.size p u:=⟨h.1,aR _,h.2.1⟩
theorem dI.sub{T:Nat→Prop}(hs:∀q,T q→S q)(p:Addr)(u:Value)(h:dI w S p u):dI w T p u:=⟨h.1,h.2.1,fun ht=>h.2.2 (hs _ ht)⟩
theorem dI.GD(hh:hi≤w.heap.size)(hs:∀q,S q→q<lo∨hi≤q)(p:Addr)(u:Value)(h:bQ w lo hi p u):dI w S p u:=
 ⟨h.1,bG h.2.2 hh,fun hq=>by have h1:=h.2.1;have h2:=h.2.2;rcases hs _ hq with e | e<;>omega⟩
def jR(w:World)(A:Option Addr)(xs:List Ix):Prop:=Reads (bQ w 0 w.heap.size) 3 A xs.length (dQ xs)
theorem jR.grow{xs:List Ix}(h:jR w A xs)(hg:Grow w w'):jR w' A xs:=eV (eU hg.below (au _) (au _) hg.size) h
structure wU (C:Addr→Value→Prop) (e:Cc) (c:Co):Prop where
 nm:e.nm=c.name
 dn:e.dn=c.ag.length
 xn:e.xn=c.aj.length
 xc:c.aj.length≤e.xc
 ag:IsV C (.mk 7 0 [] c.ag []) (js e.dA c.ag.length e.dc)
 aj:Reads C 3 e.xA c.aj.length (dQ c.aj)
theorem wU.mono(h:∀p u,C p u→C' p u){e:Cc}{c:Co}(k:wU C e c):wU C' e c:=⟨k.nm,k.dn,k.xn,k.xc,k.ag.mono h,k.aj.mono h⟩
abbrev qL(w:World)(e:Cc)(c:Co):Prop:=wU (bQ w 0 w.heap.size) e c
def cQ(w:World)(A:Option Addr)(cap:Nat)(st:List Co):Prop:=
 st.length≤cap∧∃es,Two (qL w) es st∧Reads (bQ w 0 w.heap.size) 3 A st.length (cY es)
theorem cQ.grow{cap:Nat}{st:List Co}(h:cQ w A cap st)(hg:Grow w w'):cQ w' A cap st:=by
 obtain⟨hc,es,h1,h2⟩:=h;have hm:=eU hg.below (au 0) (au _) hg.size;exact⟨hc,es,h1.mono fun a b k=>k.mono hm,h2.mono hm⟩
theorem cQ.nil(w:World):cQ w none 0 []:=⟨au _,[],Two.nil,⟨rfl,fun h=>by simp at h⟩⟩
abbrev ba(A:Option Addr):Option Nat:=A.map (·.block)
structure eY (w:World) (B:Nat) (e:Cc) (c:Co):Prop where
 nm:e.nm=c.name
 dn:e.dn=c.ag.length
 xn:e.xn=c.aj.length
 ag:∃cs:List Cv,w.ownsRow B 27 5 (.slice e.dA c.ag.length e.dc) c.ag.length (cK cs)∧Two (fun v c=>dW w B v c) c.ag cs
 aj:w.ownsRow B 64 3 (.slice e.xA c.aj.length e.xc) c.aj.length (dQ c.aj)
structure Own (w:World) (B:Nat) (A:Option Addr) (cap:Nat) (es:List Cc) (st:List Co):Prop where
 row:w.ownsRow B 48 3 (.slice A st.length cap) st.length (cY es)
 two:Two (eY w B) es st
 GF:∀(i j:Nat) (a b:Cc),es[i]?=some a→es[j]?=some b→i≠j→∀g,ba a.dA=some g→ba b.dA≠some g
 GG:∀(i j:Nat) (a b:Cc),es[i]?=some a→es[j]?=some b→i≠j→∀g,ba a.xA=some g→ba b.xA≠some g
theorem bj(A:Option Addr)(n c:Nat):Value.ownBlock (.slice A n c)=ba A:=by cases A<;>rfl
theorem fG{n:Nat}(h:w.ownsRow B T z (.slice A n c) n xs)(hk:Kept S w w')(hs:∀g,ba A=some g→¬ S g):w'.ownsRow B T z (.slice A n c) n xs:=by
 refine⟨h.1,?_⟩;rcases h.2 with hn | ⟨g,cap,cur,e,hb,hgg,rest⟩
 ·exact .inl hn
 refine .inr ⟨g,cap,cur,e,hb,?_,rest⟩;injection e with e1 e2 e3;rw[hk.block g (qq.1 hgg).1 (hs g (by rw[e1];rfl))];exact hgg
theorem kG{n:Nat}(h:w.ownsRow B T z (.slice A n c) n xs)(hg:Grow w w'):w'.ownsRow B T z (.slice A n c) n xs:=
 fG h (gN (S:=fun _=>False) hg) (fun _ _ h=>h)
theorem lM{n:Nat}(h:w.ownsRow B T z (.slice A n c) n xs)(hs:∀g,ba A=some g→¬ S g):Reads (dI w S) z A n xs:=by
 refine⟨h.1,fun hn=>?_⟩;obtain⟨g,cur,e,hb,hg,-,-,-,ht,-⟩:=ju h hn;exact⟨g,0,e,fun j u hu=>by rw[eo];exact⟨wV hg ht j u hu,(qq.1 hg).1,hs g (by rw[e];rfl)⟩⟩
theorem mW{n:Nat}(h:w.ownsRow B T z (.slice A n c) n xs):n≤c∧c≤maxLen:=by
 rcases h.2 with ⟨e,hn⟩ | ⟨g,cap,cur,e,hb,hgg,h1,h2,-⟩
 ·injection e with e1 e2 e3;subst hn;exact⟨aR _,by rw[e3];exact aR _⟩
 injection e with e1 e2 e3;rw[e3];exact⟨h1,h2⟩
theorem KZ{cs:List Cv}{cap:Nat}(h:Reads C 5 A ag.length (cK cs))(ht:Two (fun v c=>IsV C v c) ag cs)(hc:ag.length≤cap)(hl:ag.length≤140737488355328) :
 IsV C (.mk 7 0 [] ag []) (js A ag.length cap):=by
 rw[IsV];refine⟨rfl,rfl,rfl,rfl,rfl,by decide,by decide,by decide,by simp,by simp,hc,hl,by simp,by simp,⟨rfl,fun h=>by simp at h⟩,fun i hi=>?_,fun i hi=>by simp at hi⟩;have hic:i<cs.length:=by rw[← ht.1];exact hi
 obtain⟨bk,o,ha,hcell⟩:=h.2 (by omega);have hg:∀k,k<5→(cK cs)[i*5+k]?=cs[i].cells.toList[k]?:=fun k hk=>mV _ 5 (fun _=>rfl) cs i k hk cs[i] (bH hic)
 refine⟨bk,o,cs[i],ha,⟨?_,?_,?_,?_,?_⟩,ht.at_ hi hic⟩
 ·have:=hcell (i*5+0) _ (hg 0 (by omega));rwa [fX] at this
 ·have:=hcell (i*5+1) _ (hg 1 (by omega));rwa [← lu] at this
 ·have:=hcell (i*5+2) _ (hg 2 (by omega));rwa [← lu] at this
 ·have:=hcell (i*5+3) _ (hg 3 (by omega));rwa [← lu] at this
 have:=hcell (i*5+4) _ (hg 4 (by omega));rwa [← lu] at this
theorem dW.PM{v:V}{c:Cv}(h:dW w B v c)(hB:B≤w.heap.size)(hs:∀q,S q→B≤q):IsV (dI w S) v c:=dX (dI.GD hB (fun q hq=>.inr (hs q hq))) v c h
theorem dW.keep{v:V}{c:Cv}(h:dW w B v c)(hk:Kept S w w')(hB:B≤w.heap.size)(hs:∀q,S q→B≤q):dW w' B v c:=h.below (hk.below hB hs) (au _) (au _)
theorem eY.r{e:Cc}{c:Co}(h:eY w B e c)(hB:B≤w.heap.size)(hs:∀q,S q→B≤q)(hd:∀g,ba e.dA=some g→¬ S g)(hx:∀g,ba e.xA=some g→¬ S g)(hl:c.ag.length≤140737488355328):wU (dI w S) e c:=by
 obtain⟨cs,h1,h2⟩:=h.ag;exact⟨h.nm,h.dn,h.xn,(mW h.aj).1,KZ (lM h1 hd) (h2.mono fun v c hv=>hv.PM hB hs) (mW h1).1 hl,lM h.aj hx⟩
theorem eY.keep{e:Cc}{c:Co}(h:eY w B e c)(hk:Kept S w w')(hB:B≤w.heap.size)(hs:∀q,S q→B≤q)(hd:∀g,ba e.dA=some g→¬ S g)(hx:∀g,ba e.xA=some g→¬ S g):eY w' B e c:=by
 obtain⟨cs,h1,h2⟩:=h.ag;exact⟨h.nm,h.dn,h.xn,⟨cs,fG h1 hk hd,h2.mono fun v c hv=>hv.keep hk hB hs⟩,fG h.aj hk hx⟩
theorem Own.grow{cap:Nat}{st:List Co}(h:Own w B A cap es st)(hB:B≤w.heap.size)(hg:Grow w w'):Own w' B A cap es st:=
 ⟨kG h.row hg,h.two.mono fun a b k=>k.keep (gN (S:=fun _=>False) hg) hB (fun _ h=>h.elim) (fun _ _ h=>h) (fun _ _ h=>h),h.GF,h.GG⟩
theorem BR{B':Nat}{z' n n':Nat}{xs':List Value}(h:w.ownsRow B T z (.slice A n c) n xs)(k:w.ownsRow B' T' z' (.slice A' n' c') n' xs')(ht:T≠T'):∀g,ba A=some g→ba A'≠some g:=by
 intro g h1 h2;rcases h.2 with ⟨e,-⟩ | ⟨g1,_,cur,e,-,hg,-⟩
 ·injection e with e1;rw[e1] at h1;cases h1
 rcases k.2 with ⟨e',-⟩ | ⟨g2,_,cur',e',-,hg',-⟩
 ·injection e' with e1;rw[e1] at h2;cases h2
 injection e with e1;injection e' with e2;rw[e1] at h1;rw[e2] at h2
 cases h1;cases h2
 rw[hg] at hg';injection hg' with hg';injection hg' with _ hT _;exact ht hT
theorem cU{n:Nat}(h:w.ownsRow B T z (.slice A n c) n xs)(k:Blk w mb T' cs)(ht:T≠T'):ba A≠some mb:=by
 intro h1;rcases h.2 with ⟨e,-⟩ | ⟨g1,_,cur,e,-,hg,-⟩
 ·injection e with e1;rw[e1] at h1;cases h1
 injection e with e1;rw[e1] at h1
 cases h1
 rw[show w.heap[_]?=_ from k] at hg;injection hg with hg;injection hg with _ hT _;exact ht hT.symm
theorem PN{n gb k:Nat}{e':Cc}(h:w.ownsRow B 48 3 (.slice (some ⟨gb,0,none⟩) n c) n (cY es))(hi:i<es.length)(hn:es.length=n)(hk:k<3)(he:e'.cells.toList=es[i].cells.toList.set k v) :
 (w.setCell ⟨gb,i*3+k,none⟩ v).ownsRow B 48 3 (.slice (some ⟨gb,0,none⟩) n c) n (cY (es.set i e')):=by
 obtain⟨g,cur,e,hb,hg,h1,h2,h3,h4,h5⟩:=ju h (by omega)
 cases e
 have hsz:(w.setCell ⟨gb,i*3+k,none⟩ v).heap[gb]?=some (.cells (cur.setIfInBounds (i*3+k) v) 48 (0,0)):=Blk.aY hg _ v;have hlen:(cY (es.set i e')).length=n*3:=by rw[WJ,gW,hn]
 refine Ej hb hsz h1 h2 (by rw[Array.size_setIfInBounds,h3]) ?_ hlen;rw[Array.toList_setIfInBounds,List.take_set,h4,cY,cY,← PL _ 3 (fun _=>rfl) es i e' hi,he];have hes:(es.map fun e=>e.cells.toList).flatten=((es.map fun e=>e.cells.toList).flatten).take (i*3)++(es[i].cells.toList++((es.map fun e=>e.cells.toList).flatten).drop ((i+1)*3)):=by
  conv=>lhs;rw[← sO (i*3) ((es.map fun e=>e.cells.toList).flatten)]
  congr 1;have d1:=tN (fun e:Cc=>e.cells.toList) 3 (fun _=>rfl) es i;have d2:=tN (fun e:Cc=>e.cells.toList) 3 (fun _=>rfl) es (i+1);rw[yX hi,fN,l8] at d1;rw[d1,d2]
 have hlt:(((es.map fun e=>e.cells.toList).flatten).take (i*3)).length=i*3:=by
  rw[dU,BP _ 3 (fun _=>rfl)];omega
 conv=>lhs;rw[hes]
 rw[N1 _ _ (by rw[hlt];omega),hlt,show i*3+k-i*3=k by omega,List.set_append_left _ _ (by simp;omega),nv]
end
abbrev jS:=@dI.BM
abbrev kZ:=@dI.kept
abbrev BS:=@jR.grow
section
open Go.RowKit Go.Shelf
theorem aef:∀(a b:List UInt8),Lib.compareBytes a b=-1∨Lib.compareBytes a b=0∨Lib.compareBytes a b=1:=fun a b=>by
 fun_induction Lib.compareBytes a b<;>simp_all
theorem WK:∀(a b c:List UInt8),Lib.compareBytes a b≤0→Lib.compareBytes b c≤0→Lib.compareBytes a c≤0∧(Lib.compareBytes a b<0→Lib.compareBytes a c<0)
 | [],[],c,_,h=>⟨h,fun h=>by simp[Lib.compareBytes] at h⟩
 | [],_::_,[],_,h=>by simp[Lib.compareBytes] at h
 | [],_::_,_::_,_,_=>by simp[Lib.compareBytes]
 | _::_,[],_,h,_=>by simp[Lib.compareBytes] at h
 | _::_,_::_,[],_,h=>by simp[Lib.compareBytes] at h
 | x::a,y::b,z::c,h,k=>by
  rw[Lib.compareBytes] at h k ⊢;simp only[Bf] at h k ⊢;rw[Lib.compareBytes];simp only[Bf];by_cases h1:x.toNat<y.toNat
  ·by_cases k1:y.toNat<z.toNat
   ·rw[aD (show x.toNat<z.toNat by omega)];exact⟨by decide,fun _=>by decide⟩
   rw[ak k1] at k;by_cases k2:z.toNat<y.toNat
   ·rw[aD k2] at k;exact absurd k (by decide)
   rw[aD (show x.toNat<z.toNat by omega)];exact⟨by decide,fun _=>by decide⟩
  rw[ak h1] at h ⊢;by_cases h2:y.toNat<x.toNat
  ·rw[aD h2] at h;exact absurd h (by decide)
  rw[ak h2] at h ⊢;by_cases k1:y.toNat<z.toNat
  ·rw[aD (show x.toNat<z.toNat by omega)];exact⟨by decide,fun _=>by decide⟩
  rw[ak k1] at k;by_cases k2:z.toNat<y.toNat
  ·rw[aD k2] at k;exact absurd k (by decide)
  rw[ak k2] at k;rw[ak (show ¬ x.toNat<z.toNat by omega),ak (show ¬ z.toNat<x.toNat by omega)];exact WK a b c h k
structure aeg (u:V):Prop where
 formed:u.formed=true
 fit:u.fit
namespace V
end V
namespace V
structure Keyed (v:V):Prop extends aeg v where
 good:v.good=0
 short:v.key.length≤96
theorem Keyed.of{v:V}(h:(bl v).2=0)(hf:v.fit):Keyed v:=by
 obtain⟨h1,h2⟩:=Gt h;exact⟨⟨(aeh h1).1,hf⟩,h1,h2⟩
theorem Keyed.bl{v:V}(h:Keyed v):bl v=(v.key,0):=by
 have:=h.short;unfold Proofs.YtndjopkdbdcmdaaGreatDoor.bl;rw[ak (by rw[h.good];simp),ak (by omega)]
end V
end
theorem PO{cf:Nat→Int}{n p:Nat}(h1:∀j,j<p→cf j<0)(h2:∀j,p≤j→j<n→0≤cf j):∀(g i j:Nat),j-i≤g→i≤p→p≤j→j≤n→gB cf g i j=p
 | 0,i,j,hg,hi,hj,hn=>by rw[gB];omega
 | g+1,i,j,hg,hi,hj,hn=>by
  rw[gB];split
  ·rename_i hij;split
   ·rename_i hc;have hp:(i+j) / 2<p:=by
     rcases gp ((i+j) / 2) p with h | h
     ·exact h
     have:=h2 _ h (by omega);omega
    exact PO h1 h2 g _ j (by omega) (by omega) hj hn
   rename_i hc;have hp:p≤(i+j) / 2:=by
    rcases gp ((i+j) / 2) p with h | h
    ·exact absurd (h1 _ h) hc
    exact h
   exact PO h1 h2 g i _ (by omega) hi hp (by omega)
  omega
theorem aei{cf:Nat→Int}{n p:Nat}(hp:p≤n)(h1:∀j,j<p→cf j<0)(h2:∀j,p≤j→j<n→0≤cf j):il cf n=p:=PO h1 h2 n 0 n (by omega) (aR _) hp (au _)
theorem PQ{cf cg:Nat→Int}{n:Nat}(h:∀j,j<n→cf j=cg j):∀(g i j:Nat),j≤n→gB cf g i j=gB cg g i j
 | 0,i,j,hj=>rfl
 | g+1,i,j,hj=>by
  rw[gB,gB];split
  ·rw[h _ (by omega),PQ h g _ j hj,PQ h g i _ (by omega)]
  rfl
theorem PR{cf cg:Nat→Int}{n:Nat}(h:∀j,j<n→cf j=cg j):il cf n=il cg n:=PQ h n 0 n (au _)
theorem WL{cf cg:Nat→Int}{n:Nat}(h:∀j,j<n→cf j=cg j):gj cf n=gj cg n:=by
 unfold gj;rw[PR h];by_cases hn:il cg n<n
 ·rw[h _ hn]
 simp[hn]
theorem PS{a b:List UInt8}:eI a b=true↔Lib.compareBytes a b<0:=by simp[eI]
theorem PT{a b:List UInt8}:Lib.compareBytes a b=0↔a=b:=by
 constructor
 ·intro h;refine K0 a b (by simp[eI,h]) ?_;rcases Dm (eI b a) with k | k
  ·rw[PS] at k;have:=(WK b a b (by omega) (by omega)).2 k;have h2:=vg b;simp[eI] at h2;omega
  exact k
 rintro rfl;have h:=vg a;rcases aef a a with e | e | e
 ·simp[eI,e] at h
 ·exact e
 exfalso
 induction a with
 | nil=>simp[Lib.compareBytes] at e
 | cons x a ih=>rw[Lib.compareBytes] at e;simp at e;exact ih (vg a) e
def fw(l:List (List UInt8)):Prop:=l.Pairwise fun a b=>eI a b=true
def ia(keys:List (List UInt8))(k:List UInt8):Nat:=keys.countP fun x=>eI x k
def kN(keys:List (List UInt8))(k:List UInt8):Nat:=il (fun j=>Lib.compareBytes (keys.getD j []) k) keys.length
def kF(keys:List (List UInt8))(k:List UInt8):Bool:=gj (fun j=>Lib.compareBytes (keys.getD j []) k) keys.length
theorem fw.lt{l:List (List UInt8)}(h:fw l)(hij:i<j)(hj:j<l.length):eI (l[i]'(by omega)) l[j]=true:=(N9.1 h) i j (by omega) hj hij
theorem WM(keys:List (List UInt8))(k:List UInt8):ia keys k≤keys.length:=List.countP_le_length
theorem BV:∀{keys:List (List UInt8)} {k:List UInt8},fw keys→∀{j:Nat} (hj:j<keys.length),j<ia keys k↔eI keys[j] k=true
 | [],k,h,j,hj=>by simp at hj
 | x::r,k,h,j,hj=>by
  have hr:fw r:=(Kq.1 h).2;have hx:=(Kq.1 h).1;by_cases hxk:eI x k=true
  ·have e:ia (x::r) k=ia r k+1:=by unfold ia;rw[List.countP_cons_of_pos (by simpa using hxk)]
   rw[e];rcases j with _ | j
   ·simp[hxk]
   have:=BV (k:=k) hr (j:=j) (by simpa using hj);simp only[Kc];rw[← this];omega
  have e:ia (x::r) k=0:=by
   unfold ia;rw[List.countP_eq_zero];intro y hy hyk;rcases jI.1 hy with rfl | hy
   ·exact hxk hyk
   exact hxk (zI x y k (hx y hy) hyk)
  rw[e];constructor
  ·intro h0;omega
  intro h0;exfalso;have:(x::r)[j]∈x::r:=aS _;rcases jI.1 this with e1 | e1
  ·rw[e1] at h0;exact hxk h0
  exact hxk (zI _ _ _ (hx _ e1) h0)
theorem GH{keys:List (List UInt8)}{k:List UInt8}(h:fw keys):kN keys k=ia keys k:=by
 refine aei (WM _ _) (fun j hj=>?_) (fun j hj hn=>?_)
 ·have hl:j<keys.length:=bG hj (WM _ _);rw[gy,bH hl,pq];exact PS.1 ((BV h hl).1 hj)
 rw[gy,bH hn,pq];have:¬ eI keys[j] k=true:=fun hc=>by have:=(BV h hn).2 hc;omega
 rw[PS] at this;omega
theorem Ek{keys:List (List UInt8)}{k:List UInt8}(h:fw keys):kF keys k=true↔k∈keys:=by
 unfold kF gj;rw[show il (fun j=>Lib.compareBytes (keys.getD j []) k) keys.length=ia keys k from GH h];simp only[ig,iy,FI];constructor
 ·rintro⟨h1,h2⟩;rw[gy,bH h1,pq,PT] at h2;rw[← h2];exact aS _
 intro hm;obtain⟨j,hj,e⟩:=sQ hm;have hle:ia keys k=j:=by
  have h1:¬ j<ia keys k:=fun hc=>by have:=(BV h hj).1 hc;rw[e,vg] at this;cases this
  rcases gp (ia keys k) j with h2 | h2
  ·have h3:eI (keys[ia keys k]'(by omega)) k=true:=by have h4:=h.lt h2 hj;rwa [e] at h4
   have:=(BV h (by omega)).2 h3;omega
  omega
 rw[hle];refine⟨hj,?_⟩;rw[gy,bH hj,pq,e,PT]
theorem K1{keys:List (List UInt8)}{k:List UInt8}(h:kF keys k=true):keys[kN keys k]?=some k:=by
 unfold kF gj at h;simp only[ig,iy,FI] at h;obtain⟨h1,h2⟩:=h;unfold kN;rw[gy,bH h1,pq,PT] at h2;rw[bH h1,h2]
abbrev gP(names:List ByteArray):List (List UInt8):=names.map fun s=>s.data.toList
theorem WN(names:List ByteArray)(j:Nat):(names.getD j ⟨#[]⟩).data.toList=(gP names).getD j []:=by
 rw[gy,gy,sS]
 cases names[j]?<;>rfl
theorem GI(names:List ByteArray)(s:ByteArray):bg names s=kN (gP names) s.data.toList:=by
 unfold bg kN lL;rw[dE];exact PR fun j _=>by rw[WN]
theorem WO(names:List ByteArray)(s:ByteArray):cr names s=kF (gP names) s.data.toList:=by
 unfold cr kF lL;rw[dE];exact WL fun j _=>by rw[WN]
abbrev gf(ag:List V):List (List UInt8):=ag.map fun d=>(bV d).1
theorem WQ(ag:List V)(h:j<ag.length):(bV (ag.getD j V.zero)).1=(gf ag).getD j []:=by
 rw[gy,gy,sS,bH h];rfl
theorem GJ(ag:List V)(k:List UInt8):gK ag k=kN (gf ag) k:=by
 unfold gK kN;rw[dE];exact PR fun j h=>by unfold oG;rw[WQ ag h]
theorem BX(ag:List V)(k:List UInt8):gL ag k=kF (gf ag) k:=by
 unfold gL kF;rw[dE];exact WL fun j h=>by unfold oG;rw[WQ ag h]
theorem WR{a b:ByteArray}(h:a.data.toList=b.data.toList):a=b:=by
 cases a;cases b;simp only[ByteArray.mk.injEq];exact Array.toList_inj.1 h
theorem PU{names:List ByteArray}:s.data.toList∈gP names↔s∈names:=by
 rw[mI];constructor
 ·rintro⟨x,hx,e⟩;rw[← WR e];exact hx
 intro h;exact⟨s,h,rfl⟩
theorem K4{names:List ByteArray}(h:fw (gP names))(s:ByteArray):cr names s=true↔s∈names:=by rw[WO,Ek h,PU]
theorem PV{names:List ByteArray}(h:cr names s=true):names[bg names s]?=some s:=by
 rw[WO] at h;have:=K1 h;rw[← GI,sS] at this
 cases hx:names[bg names s]? with
 | none=>rw[hx] at this;cases this
 | some y=>rw[hx] at this;injection this with this;rw[WR this]
theorem El{names:List ByteArray}(h:cr names s=true):bg names s<names.length:=(jd.1 (PV h)).1
theorem K6(names:List ByteArray)(s:ByteArray):bg names s≤names.length:=DM _ _
theorem WS(ag:List V)(k:List UInt8):gK ag k≤ag.length:=DM _ _
theorem yj{k:List UInt8}(h:gL ag k=true):gK ag k<ag.length:=by
 unfold gL gj at h;simp only[ig,iy] at h;exact h.1
theorem fw.ins{keys:List (List UInt8)}{k:List UInt8}(h:fw keys)(hk:k ∉ keys):fw (cD keys (kN keys k) k):=by
 rw[GH h,cD];have hlt:∀x∈keys.take (ia keys k),eI x k=true:=fun x hx=>by
  obtain⟨j,hj,e⟩:=sQ hx;rw[dU] at hj;rw[J5] at e;rw[← e];exact(BV h (by omega)).1 (by omega)
 have hgt:∀x∈keys.drop (ia keys k),eI k x=true:=fun x hx=>by
  obtain⟨j,hj,e⟩:=sQ hx;rw[iw] at hj;rw[N3] at e;have h1:eI x k=false:=by
   rcases Dm (eI x k) with h1 | h1
   ·rw[← e] at h1;have:=(BV h (by omega)).2 h1;omega
   exact h1
  rcases Dm (eI k x) with h2 | h2
  ·exact h2
  have:=K0 x k h1 h2;subst this;exact absurd (uA hx) hk
 refine N_.2 ⟨h.sublist (List.take_sublist _ _),Kq.2 ⟨hgt,h.sublist (Oa _ _)⟩,fun a ha b hb=>?_⟩;rcases jI.1 hb with rfl | hb
 ·exact hlt a ha
 exact zI _ _ _ (hlt a ha) (hgt b hb)
theorem fw.del{keys:List (List UInt8)}(h:fw keys)(i:Nat):fw (cT keys i):=by
 refine N_.2 ⟨h.sublist (List.take_sublist _ _),h.sublist (Oa _ _),fun a ha b hb=>?_⟩;obtain⟨x,hx,ex⟩:=sQ ha;obtain⟨y,hy,ey⟩:=sQ hb;rw[dU] at hx;rw[iw] at hy;rw[J5] at ex;rw[N3] at ey;rw[← ex,← ey];exact h.lt (by omega) (by omega)
theorem fw.inj{keys:List (List UInt8)}(h:fw keys)(hi:i<keys.length)(hj:j<keys.length)(e:keys[i]=keys[j]):i=j:=by
 rcases Ki i j with h1 | h1 | h1
 ·have:=h.lt h1 hj;rw[e,vg] at this;cases this
 ·exact h1
 have:=h.lt h1 hi;rw[e,vg] at this;cases this
theorem PW{α β:Type}(f:α→β)(l:List α)(i:Nat)(x:α):(cD l i x).map f=cD (l.map f) i (f x):=by simp[cD,List.map_take,List.map_drop]
theorem K7{α β:Type}(f:α→β)(l:List α)(i:Nat):(cT l i).map f=cT (l.map f) i:=by simp[cT,List.map_take,List.map_drop]
theorem Em{α:Type}{l:List α}{x y:α}:y∈cD l i x↔y=x∨y∈l:=by
 unfold cD;rw[qo,jI];constructor
 ·rintro(h | h | h)
  ·exact .inr (Bg h)
  ·exact .inl h
  exact .inr (uA h)
 rintro(h | h)
 ·exact .inr (.inl h)
 rw[← sO i l,qo] at h;rcases h with h | h
 ·exact .inl h
 exact .inr (.inr h)
theorem GK{α:Type}{l:List α}{y:α}(h:y∈cT l i):y∈l:=by
 rcases qo.1 h with h | h
 ·exact Bg h
 exact uA h
theorem qM{α:Type}{l:List α}{x:α}:(cD l i x).length=l.length+1:=by
 unfold cD;rw[bp,aU,dU,iw];omega
theorem PX{α:Type}{l:List α}(h:i<l.length):(cT l i).length=l.length-1:=by
 unfold cT;rw[bp,dU,iw];omega
section
open Go.RowKit Go.Shelf
theorem WT(s:ByteArray):Lib.indexB s wP=Lib.indexByte s.data.toList 46:=Lib.index_one _ _
theorem indexByte_none{l:List UInt8}(h:∀j (hj:j<l.length),l[j]≠46):Lib.indexByte l 46=-1:=by
 induction l with
 | nil=>rfl
 | cons b l ih =>
  have h0:(b==46)=false:=pd.2 (h 0 (by simp));rw[Lib.indexByte,h0,ih (fun j hj=>h (j+1) (by simpa using hj))];rfl
theorem indexByte_some{l:List UInt8}{k:Nat}(hk:k<l.length)(h:∀j (hj:j<l.length),j<k→l[j]≠46)(he:l[k]=46):Lib.indexByte l 46=k:=by
 induction l generalizing k with
 | nil=>simp at hk
 | cons b l ih =>
  cases k with
  | zero =>
   have h0:(b==46)=true:=by simpa using he
   rw[Lib.indexByte,h0];rfl
  | succ k =>
   have h0:(b==46)=false:=pd.2 (h 0 (by simp) (by omega));have hi:=ih (k:=k) (by simpa using hk) (fun j hj hjk=>h (j+1) (by simpa using hj) (by omega)) he;rw[Lib.indexByte,h0,hi];have hb:((k:Int)==-1)=false:=by rw[pd];omega
   rw[hb];simp
theorem PY(h:∀j (hj:j<s.data.toList.length),s.data.toList[j]≠46):nG s=[s]:=
 Lib.splitB_miss _ _ _ _ ((WT s).trans (indexByte_none h))
theorem aej{k:Nat}(hk:k<s.data.toList.length)(h:∀j (hj:j<s.data.toList.length),j<k→s.data.toList[j]≠46)(he:s.data.toList[k]=46) :
 nG s=s.extract 0 k::nG (s.extract (k+1) s.size):=by
 have hi:Lib.indexB s wP=k:=(WT s).trans (indexByte_some hk h he);unfold nG;rw[Lib.countB_hit s wP k (by decide) hi,FU 1,Lib.splitB_hit _ _ _ _ _ hi];rfl
theorem aek{f:List (ByteArray×V)}(hd:(f.map Prod.fst).Nodup)(h:j<f.length)(he:f[j].1=s):(f.find? fun x=>decide (x.1=s))=some f[j]:=by
 refine PZ h (fun i hi hij hs=>?_) he;have h1:i<(f.map Prod.fst).length:=by simpa using hi
 have h2:j<(f.map Prod.fst).length:=by simpa using h
 have h3:i≠j:=by omega
 exact h3 ((List.getElem_inj (h₀:=h1) (h₁:=h2) hd).1 (by simpa using hs.trans he.symm))
theorem ael{v:V}(h:v.formed=true)(hs:s.size=0):jl v s=none:=by
 obtain⟨k,n,b,l,f⟩:=v;have hl:s.data.toList=[]:=AW.1 (by simpa using hs);by_cases hk:k=7
 ·subst hk;rw[BL,hl,ak (by decide)]
 rw[wQ hk];rw[tj] at h;simp only[ig,nY] at h;rw[K8]
 ·rfl
 intro i hi he;have hn:=(h.1.2 _ (aS hi)).1;rw[he] at hn;unfold V.name at hn;simp[hs,hl] at hn
theorem P4{v u:V}(h:jl v s=some u)(hv:v.formed=true):u.formed=true:=by
 obtain⟨k,n,b,l,f⟩:=v;rw[tj] at hv;simp only[ig,nY] at hv;by_cases hk:k=7
 ·subst hk;rw[BL] at h;split at h
  ·exact hv.1.1.2 _ (Be h)
  cases h
 rw[wQ hk] at h;obtain⟨x,hx,rfl⟩:=FV.1 h;exact(hv.1.2 _ (FW hx)).2
end
section
open Go.RowKit
theorem aem{k:Int}{n:Nat}{b:List UInt8}{l:List V}{f:List (ByteArray×V)}(h:(V.mk k n b l f).fit):∀x∈f,x.2.fit:=by rw[V.fit] at h;exact h.2.2
structure gh (d:V):Prop where
 key:(bV d).2=0
 fit:d.fit
 count:d.count≤20000
theorem gh.id{d:V}(h:gh d):∃i,kC d=some i∧V.Keyed i∧bV d=(i.key,0)∧d.good=0∧d.k=8:=by
 have hk:=h.key;unfold bV at hk ⊢;by_cases h0:d.good=0
 ·rw[ak (by simpa using h0)] at hk ⊢;by_cases h8:d.k=8
  ·rw[ak (by simpa using h8)] at hk ⊢
   cases hi:kC d with
   | none=>rw[hi] at hk;simp at hk
   | some i =>
    rw[hi] at hk;dsimp only at hk ⊢;obtain⟨s,hs⟩:=Wu hi;have hfi:i.fit:=by
     obtain⟨k,n,b,l,f⟩:=d;exact aem h.fit (s,i) hs
    have hK:=V.Keyed.of hk hfi;exact⟨i,rfl,hK,hK.bl,h0,h8⟩
  rw[aD h8] at hk;simp at hk
 rw[aD h0] at hk;exact absurd hk h0
theorem aen{d:V}(h:gh d)(hp:mq d path=none):eB path d=([],false,0):=by unfold eB;rw[ak (by simpa using h.key),hp]
theorem aeo{d u:V}(h:gh d)(hp:mq d path=some u)(he:(eB path d).2.2=0):∃i,kC d=some i∧(eB path d).1=u.key++i.key∧(eB path d).1.length≤96:=by
 obtain⟨i,hi,hK,hkey,-,-⟩:=h.id;unfold eB at he ⊢;rw[ak (by simpa using h.key),hp] at he ⊢;dsimp only at he ⊢;rw[hi,pq] at he ⊢;by_cases h0:(jt [u,i] [false,false]).2=0
 ·rw[ak (by simpa using h0)];have:=aep (b:=(jt [u,i] [false,false]).1) (by rw[← h0]);have h3:=this.2.2.1;refine⟨i,rfl,?_,this.2.2.2⟩;rw[← h3];simp[jN,flip]
 rw[aD h0] at he;exact absurd he h0
theorem aeq{d i:V}{b:List UInt8}(h:gh d)(he:eB path d=(b,true,0))(hi:kC d=some i):i.key.length≤b.length∧b.length≤96:=by
 cases hp:mq d path with
 | none=>rw[aen h hp] at he;cases he
 | some u =>
  obtain⟨i',hi',e,hl⟩:=aeo h hp (by rw[he]);rw[he] at e hl;rw[hi] at hi';injection hi' with hi';subst hi';exact⟨by rw[show b=u.key++i.key from e,bp];omega,hl⟩
structure GL (N:Nat) (c:Co):Prop where
 nm:V.name c.name=true
 keys:fw (gf c.ag)
 ag:∀d∈c.ag,gh d
 nd:c.ag.length≤N
 aj:fw (gP (gM c))
 nx:c.aj.length≤8
 path:∀x∈c.aj,x.path.size≤200
 gM:∀x∈c.aj,V.name x.name=true
structure cz (N:Nat) (st:List Co):Prop where
 oI:fw (gP (aP st))
 n:st.length≤16
 co:∀c∈st,GL N c
theorem cz.nil:cz 0 []:=⟨List.Pairwise.nil,aR _,fun c h=>by simp at h⟩
theorem GL.mono{c:Co}(h:GL N c)(hm:N≤M):GL M c:={ h with nd:=aV h.nd hm }
theorem cz.mono{st:List Co}(h:cz N st)(hm:N≤M):cz M st:=⟨h.oI,h.n,fun c hc=>(h.co c hc).mono hm⟩
theorem iC{st:List Co}(h:cr (aP st) s=true):st[bg (aP st) s]?=some (bX st s)∧bX st s∈st∧(bX st s).name=s∧bg (aP st) s<st.length:=by
 have h1:=PV h;have hl:bg (aP st) s<st.length:=by have:=El h;rwa [dE] at this
 have e:st[bg (aP st) s]?=some (bX st s):=by
  unfold bX;rw[gy,bH hl,pq]
 refine⟨e,Be e,?_,hl⟩;rw[sS,e] at h1;injection h1
theorem cz.set{st:List Co}(h:cz N st)(hf:cr (aP st) s=true){c:Co}(hc:GL (N+1) c)(hn:c.name=(bX st s).name):cz (N+1) (st.set (bg (aP st) s) c):=by
 obtain⟨h1,h2,h3,h4⟩:=iC hf;refine⟨?_,by rw[gW];exact h.n,fun x hx=>?_⟩
 ·have e:aP (st.set (bg (aP st) s) c)=aP st:=by
   rw[aP,List.map_set,hn];have hg:(st.map Co.name)[bg (aP st) s]?=some (bX st s).name:=by rw[sS,h1];rfl
   rw[jd] at hg;obtain⟨hg1,hg2⟩:=hg;rw[← hg2,Ob]
  rw[e];exact h.oI
 rcases List.mem_or_eq_of_mem_set hx with hx | hx
 ·exact(h.co x hx).mono (fJ _)
 rw[hx];exact hc
theorem K9{α:Type}(l:List α)(i:Nat):List.Sublist (cT l i) l:=by
 unfold cT
 conv=>rhs;rw[← sO i l]
 refine List.Sublist.append_left ?_ _;rw[← J6];exact Oa _ _
theorem P5{d:V}:∀{aj:List Ix},rX d aj=0↔∀x∈aj,(eB x.path d).2.2=0
 | []=>by simp[rX]
 | x::r=>by
  rw[rX,List.forall_mem_cons];split
  ·rename_i h;constructor
   ·intro h';exact absurd h' h
   rintro⟨h',-⟩;exact absurd h' h
  rename_i h;rw[P5 (aj:=r)];exact⟨fun h'=>⟨by simpa using h,h'⟩,fun h'=>h'.2⟩
theorem WU{d x:V}(h:x∈eT ag d):x=d∨x∈ag:=by
 unfold eT at h;split at h
 ·rcases List.mem_or_eq_of_mem_set h with h | h
  ·exact .inr h
  exact .inl h
 exact Em.1 h
theorem WV{d:V}(h:fw (gf ag)):fw (gf (eT ag d)):=by
 unfold eT;split
 ·rename_i hf;rw[BX] at hf;have h1:=K1 hf;rw[← GJ] at h1;rw[gf,List.map_set];obtain⟨hg1,hg2⟩:=jd.1 h1;obtain⟨m,hm⟩:∃m,gK ag (bV d).1=m:=⟨_,rfl⟩;simp only[hm] at hg1 hg2 ⊢;rw[← hg2];show fw ((gf ag).set m (gf ag)[m]);rw[Ob];exact h
 rename_i hf;rw[gf,PW,GJ];refine fw.ins h fun hm=>hf ?_
 rw[BX];exact(Ek h).2 hm
theorem aer(ag:List V)(d:V):(eT ag d).length≤ag.length+1:=by
 unfold eT;split
 ·rw[gW];omega
 rw[qM];omega
def eJ(N:Nat)(r:mS):Prop:=(∃k,k≠0∧r=.error k)∨∃st' n ag,r=.ok (st',n,ag)∧cz (N+1) st'∧(∀d∈ag,gh d)∧ag.length≤N+1
theorem eJ.err{k:Int}(h:k≠0):eJ N (.error k):=.inl ⟨k,h,rfl⟩
theorem eJ.ok{st':List Co}{n:Int}(h:cz (N+1) st'):eJ N (.ok (st',n,[])):=.inr ⟨st',n,[],rfl,h,fun d hd=>(by cases hd),aR _⟩
theorem eJ.one{st st':List Co}{n:Int}{c:Co}(h:cz (N+1) st')(hs:cz N st)(hc:c∈st)(hi:i<c.ag.length):eJ N (.ok (st',n,[c.ag.getD i V.zero])):=.inr ⟨st',n,_,rfl,h,fun d hd=>by
 rw[rz] at hd;subst hd;rw[gy,bH hi];exact(hs.co c hc).ag _ (aS hi),by simp⟩
theorem eJ.get{st':List Co}{n:Int}(h:eJ N (.ok (st',n,ag))):cz (N+1) st'∧(∀d∈ag,gh d)∧ag.length≤N+1:=by
 rcases h with ⟨k,-,h⟩ | ⟨_,_,_,h,h1⟩<;>cases h;exact h1
def qN(N:Nat)(st:List Co)(q:Rq)(r:mS):Prop:=r=h_ st q∨((q.aM=3∨q.aM=4)∧(bX st q.aw).aj≠[]∧r=.error 13)∨((q.aM=7∨q.aM=9)∧eJ N r)
theorem cz.P6{st:List Co}(h:cz N st)(hF:cr (aP st) s=true){d:V}(hd:gh d):cz (N+1) (st.set (bg (aP st) s) ⟨(bX st s).name,eT (bX st s).ag d,(bX st s).aj⟩):=by
 have aA:=h.co _ (iC hF).2.1;refine h.set hF (c:=⟨_,_,_⟩) ⟨aA.nm,WV aA.keys,fun x hm=>?_,?_,aA.aj,aA.nx,aA.path,aA.gM⟩ rfl
 ·rcases WU hm with rfl | hm
  ·exact hd
  exact aA.ag x hm
 have:=aer (bX st s).ag d;have:=aA.nd;dsimp only;omega
theorem WW{st:List Co}(h:cz N st)(hf:q.doc.fit)(hc:q.doc.count≤20000):eJ N (h_ st q):=by
 have hput:eJ N (oH st q):=by
  unfold oH;split;· exact eJ.err (by decide)
  rename_i h1;split;· exact eJ.err (by assumption)
  rename_i h2;split;· exact eJ.err (by assumption)
  split;· exact eJ.err (by decide)
  exact eJ.ok (h.P6 (by simpa using h1) ⟨by simpa using h2,hf,hc⟩)
 unfold h_;split
 ·unfold qK;split;· exact eJ.err (by decide)
  rename_i h1;split;· exact eJ.err (by decide)
  rename_i h2;split;· exact eJ.err (by decide)
  have hname:V.name q.aw=true:=by simpa using h1
  refine eJ.ok ⟨?_,by rw[qM];omega,fun c hc=>?_⟩
  ·rw[aP,gP,ma,PW];have e1:st.map ((fun s:ByteArray=>s.data.toList) ∘ Co.name)=gP (aP st):=by rw[gP,aP,ma]
   rw[e1,GI];refine fw.ins h.oI fun hm=>h2 ?_
   rw[K4 h.oI];exact PU.1 hm
  rcases Em.1 hc with rfl | hc
  ·exact⟨hname,List.Pairwise.nil,fun d hd=>by simp at hd,aR _,List.Pairwise.nil,aR _,fun x hx=>by simp at hx,fun x hx=>by simp at hx⟩
  exact(h.co c hc).mono (fJ _)
 split
 ·unfold BO;split;· exact eJ.err (by decide)
  refine eJ.ok ⟨?_,aV (K9 _ _).length_le h.n,fun c hc=>(h.co c (GK hc)).mono (fJ _)⟩;rw[aP,gP,ma,K7];have e1:st.map ((fun s:ByteArray=>s.data.toList) ∘ Co.name)=gP (aP st):=by rw[gP,aP,ma]
  rw[e1];exact h.oI.del _
 split;· exact hput
 split;· exact hput
 split
 ·unfold tM;split;· exact eJ.err (by decide)
  rename_i h1;split;· exact eJ.err (by assumption)
  split;· exact eJ.err (by decide)
  rename_i h3;have hF:cr (aP st) q.aw=true:=by simpa using h1
  have hm:=(iC hF).2.1;have aA:=h.co _ hm;refine eJ.one (h.set hF (c:=⟨_,_,_⟩) ⟨aA.nm,?_,fun d hm=>aA.ag d (GK hm),aV (K9 _ _).length_le (Kr aA.nd),aA.aj,aA.nx,aA.path,aA.gM⟩ rfl) h hm (yj (by simpa using h3));rw[gf,K7];exact aA.keys.del _
 split
 ·unfold wT;split;· exact eJ.err (by decide)
  rename_i h1;split;· exact eJ.err (by assumption)
  split;· exact eJ.err (by decide)
  rename_i h3;have hF:cr (aP st) q.aw=true:=by simpa using h1
  exact eJ.one (h.mono (fJ _)) h (iC hF).2.1 (yj (by simpa using h3))
 split
 ·unfold zG;split;· exact eJ.err (by decide)
  rename_i h1;split;· exact eJ.err (by decide)
  have hF:cr (aP st) q.aw=true:=by simpa using h1
  have aA:=h.co _ (iC hF).2.1;refine eJ.ok (h.set hF (c:=⟨_,_,_⟩) ⟨aA.nm,aA.keys,aA.ag,Kr aA.nd,?_,aV (K9 _ _).length_le aA.nx,fun x hx=>aA.path x (GK hx),fun x hx=>aA.gM x (GK hx)⟩ rfl);rw[gM,gP,ma,K7];have e1:(bX st q.aw).aj.map ((fun s:ByteArray=>s.data.toList) ∘ Ix.name)=gP (gM (bX st q.aw)):=by rw[gP,gM,ma]
  rw[e1];exact aA.aj.del _
 split
 ·unfold countP;split;· exact eJ.err (by decide)
  exact eJ.ok (h.mono (fJ _))
 exact eJ.err (by decide)
theorem qN.one{st:List Co}{r:mS}(h:qN N st q r)(h3:q.aM=3∨q.aM=4→(bX st q.aw).aj=[])(h7:¬ (q.aM=7∨q.aM=9)):r=h_ st q:=by
 rcases h with h | ⟨h,h1,-⟩ | ⟨h,-⟩
 ·exact h
 ·exact absurd (h3 h) h1
 exact absurd h h7
theorem qN.okR{st:List Co}{r:mS}(h:cz N st)(hf:q.doc.fit)(hc:q.doc.count≤20000)(hr:qN N st q r):eJ N r:=by
 rcases hr with rfl | ⟨-,-,rfl⟩ | ⟨-,hr⟩
 ·exact WW h hf hc
 ·exact eJ.err (by decide)
 exact hr
theorem En{st:List Co}(h:cz N st)(hf:q.doc.fit)(hc:q.doc.count≤20000){st':List Co}{n:Int}(he:h_ st q=.ok (st',n,ag)):cz (N+1) st':=by
 have:=WW h hf hc;rw[he] at this;exact this.get.1
theorem cz.WX{st:List Co}(h:cz N st)(hF:cr (aP st) s=true){x:Ix}(hx:V.name x.name=true)(hp:x.path.size≤200)(hf:cr (gM (bX st s)) x.name=false)(h8:(bX st s).aj.length<8) :
 cz (N+1) (st.set (bg (aP st) s) ⟨(bX st s).name,(bX st s).ag,cD (bX st s).aj (bg (gM (bX st s)) x.name) x⟩):=by
 have aA:=h.co _ (iC hF).2.1;refine h.set hF (c:=⟨_,_,_⟩) ⟨aA.nm,aA.keys,aA.ag,Kr aA.nd,?_,?_,fun y hy=>?_,fun y hy=>?_⟩ rfl
 ·rw[gM,gP,ma,PW];have e1:(bX st s).aj.map ((fun s:ByteArray=>s.data.toList) ∘ Ix.name)=gP (gM (bX st s)):=by rw[gP,gM,ma]
  rw[e1,GI];refine fw.ins aA.aj fun hm=>?_
  have:=(K4 aA.aj x.name).2 (PU.1 hm);rw[hf] at this;cases this
 ·dsimp only;rw[qM];omega
 ·rcases Em.1 hy with rfl | hy
  ·exact hp
  exact aA.path y hy
 rcases Em.1 hy with rfl | hy
 ·exact hx
 exact aA.gM y hy
end
abbrev aes:=@eJ.err
section
open Go.RowKit Go.Shelf
def mX(v:V)(s:ByteArray):Option V:=if s.toList=[] then some v else pH v (nG s)
theorem WY(v:V)(s:ByteArray)(c:Cv)(w:World)(w0:World)(hg0:Grow w0 w)(pI:s.toList=[])(hv:In w0 v c) :
 Calls prog 56 #[c.agg,.string s] w (lN w0 w (mX v s)):=by
 rw[mX,aD pI];have HG:=aa (fun x:Cv=>((ah w).alloc (.cells c.cells 27)).alloc (.cells x.cells 27));have HB:=aa (fun x:Cv=>cM (w:=w.alloc (.cells c.cells 27)) (g:=w.heap.size+1) (by simp) 27 x.cells);have HV:=aa hv;clear hv;go_enter func56,ntmps56;go_wp2_with fail;refine gV (qH rfl rfl rfl c (HB.o c)) rfl (P7 rfl (HG.o c) HV.o)
theorem aet(k:Int)(n:Nat)(b:List UInt8)(l:List V)(f:List (ByteArray×V))(s:ByteArray)(c:Cv)(w:World)(hf:(V.mk k n b l f).formed=true)(pI:¬ s.toList=[])(hs:s.size<4294967281)(w0:World)(hg0:Grow w0 w)(hv:In w0 (.mk k n b l f) c)
 (ih:∀(u:V) (t:ByteArray) (cu:Cv) (W:World),t.size<s.size→u.formed=true→Grow w0 W→In w0 u cu→Calls prog 56 #[cu.agg,.string t] W (lN w0 W (mX u t))) :
 Calls prog 56 #[c.agg,.string s] w (lN w0 w (mX (.mk k n b l f) s)):=by
 obtain⟨aB,aL,aF,cB,cL,cF,hce,-,-,-,-,-,h6,h7,h8,h9,-⟩:=hv.open;subst hce;have HG:=aa (((ah w).alloc (.cells (Cv.cells ⟨k,(n:Int),aB,b.length,cB,aL,l.length,cL,aF,f.length,cF⟩) 27)).alloc (.cells Cv.zero.cells 27));have bf:=aa ((az w 27 (Cv.cells ⟨k,(n:Int),aB,b.length,cB,aL,l.length,cL,aF,f.length,cF⟩)).alloc (.cells Cv.zero.cells 27));have ar:=aa (cM (w:=w.alloc (.cells (Cv.cells ⟨k,(n:Int),aB,b.length,cB,aL,l.length,cL,aF,f.length,cF⟩) 27)) (g:=w.heap.size+1) (by simp) 27 Cv.zero.cells);have ad4:s.toList.isEmpty=false:=by simpa using pI
 have bI:=aa hg0;have HV:=aa hv;have kH:=aa ih;have HF:=aa hf;have hlen:s.data.toList.length=s.size:=by simp
 clear hv ih hf hg0;go_enter func56,ntmps56;go_upto_block 0 with fail;go_cut [6] (fun i wx=>wx=((w.alloc (.cells (Cv.cells ⟨k,(n:Int),aB,b.length,cB,aL,l.length,cL,aF,f.length,cF⟩) 27)).alloc (.cells Cv.zero.cells 27))∧∃j:Nat,j≤s.size∧i=.int .i64 j∧(∀i (hi:i<s.data.toList.length),i<j→s.data.toList[i]≠46)∧(∀(h:j<s.data.toList.length),s.data.toList[j]=46))
 case first =>
  go_wp2_with fail;go_loopg [6] (s.size+1) (fun gk i wr=>wr=((w.alloc (.cells (Cv.cells ⟨k,(n:Int),aB,b.length,cB,aL,l.length,cL,aF,f.length,cF⟩) 27)).alloc (.cells Cv.zero.cells 27))∧∃j:Nat,j≤s.size∧gk+j=s.size+1∧i=.int .i64 j∧(∀i (hi:i<s.data.toList.length),i<j→s.data.toList[i]≠46));exact⟨rfl,0,by omega,by omega,rfl,fun i _ h=>absurd h (by omega)⟩;obtain⟨rfl,j,hj,ji,rfl,hne⟩:=hrel;have HN:=aa hne;clear hne;obtain⟨gk',rfl⟩:=bz gk (by omega);by_cases hlt:j<s.size
  ·obtain⟨y,hy⟩:∃y,s[j]'hlt=y:=⟨_,rfl⟩;have WZ:s.data.toList[j]'(by omega)=y:=by rw[← hy,GM s j hlt]
   by_cases hd:y=46
   ·have HD:=aa (WZ.trans hd);have hd2:((y.toNat:Int)==46)=true:=by rw[hd];rfl
    go_wp2_with fail;go_meet;exact⟨rfl,j,hj,rfl,HN.o,fun _=>HD.o⟩
   have hd2:((y.toNat:Int)==46)=false:=by
    simp only[pd,ne_eq];intro h;exact hd (yZ.1 (by
     have:y.toNat=46:=by omega
     rw[this];rfl))
   have HD:=aa (fun h=>hd (WZ.symm.trans h));go_wp2_with fail;go_roundg gk';refine⟨rfl,j+1,by omega,by omega,by go_num,fun i hi hij=>?_⟩;by_cases pJ:i=j
   ·subst pJ;exact HD.o
   exact HN.o i hi (by omega);omega
  obtain rfl:j=s.size:=by omega
  go_wp2_with fail;go_meet;exact⟨rfl,s.size,hj,rfl,HN.o,fun h=>absurd h (by omega)⟩
 obtain⟨rfl,j,hj,rfl,hne,W9⟩:=hcut;have bS:=aa hne;have aeu:=aa W9;clear hne W9;obtain⟨hd,hhd⟩:∃hd,s.extract 0 j=hd:=⟨_,rfl⟩;have W_:=aa hhd;go_upto_if 33 with fail;have qG:=aa (fun x:Cv=>HG.o.alloc (.cells x.cells 27));have GN:=aa (fun x:Cv=>bf.o.alloc (.cells x.cells 27));have GP:=aa (fun x:Cv=>ar.o.alloc (.cells x.cells 27));have K_:=aa (fun x:Cv=>cM (w:=((w.alloc (.cells (Cv.cells ⟨k,(n:Int),aB,b.length,cB,aL,l.length,cL,aF,f.length,cF⟩) 27)).alloc (.cells Cv.zero.cells 27))) (g:=w.heap.size+1+1) (by simp) 27 x.cells)
 go_cut [9,10] (fun t z wx=>∃(tb:Bool) (xc:Cv) (u:V),t=.bool tb∧Grow w wx∧Blk wx w.heap.size 27 (Cv.cells ⟨k,(n:Int),aB,b.length,cB,aL,l.length,cL,aF,f.length,cF⟩)∧Blk wx (w.heap.size+1) 27 Cv.zero.cells∧Blk wx (w.heap.size+1+1) 27 xc.cells ∧
  In w0 u xc∧((tb=true∧jl (.mk k n b l f) hd=some u∧k=7)∨(tb=false∧(k=7→jl (.mk k n b l f) hd=none)∧xc=Cv.zero)))
 case first =>
  have HI:=aa (fun w=>aev hd w);by_cases hk:k=7
  ·subst hk;obtain⟨z,hz⟩:∃z,oJ hd.data.toList=z:=⟨_,rfl⟩;have HST:=aa (BL (n:=n) (b:=b) (l:=l) (f:=f) (s:=hd));rw[hz] at HI HST;clear hz;by_cases hz0:0≤z
   ·rw[aD hz0] at HST;by_cases hz1:z<l.length
    ·obtain⟨i,rfl⟩:∃i:Nat,z=i:=⟨z.toNat,by omega⟩;have hi:i<l.length:=by omega
     rw[A_,bH hi] at HST;obtain⟨bk,o,x,ha,hbk,e0,e1,e2,e3,e4,hx⟩:=HV.o.fh i hi;dsimp only at ha;subst ha;have HX:=aa hx;have e0z:(((w.alloc (.cells (Cv.cells ⟨7,(n:Int),aB,b.length,cB,some ⟨bk,o,none⟩,l.length,cL,aF,f.length,cF⟩) 27)).alloc (.cells Cv.zero.cells 27)).alloc (.cells #[.int .i64 0,.int .u64 0,.slice none 0 0,.slice none 0 0,.slice none 0 0] 27)).cell? ⟨bk,o+i*5,none⟩=some (.int .i64 x.k):=((bI.o.trans (qG.o Cv.zero)).below.cell hbk).trans e0
     have e1z:(((w.alloc (.cells (Cv.cells ⟨7,(n:Int),aB,b.length,cB,some ⟨bk,o,none⟩,l.length,cL,aF,f.length,cF⟩) 27)).alloc (.cells Cv.zero.cells 27)).alloc (.cells #[.int .i64 0,.int .u64 0,.slice none 0 0,.slice none 0 0,.slice none 0 0] 27)).cell? ⟨bk,o+i*5+1,none⟩=some (.int .u64 x.n):=((bI.o.trans (qG.o Cv.zero)).below.cell hbk).trans e1;have e2z:(((w.alloc (.cells (Cv.cells ⟨7,(n:Int),aB,b.length,cB,some ⟨bk,o,none⟩,l.length,cL,aF,f.length,cF⟩) 27)).alloc (.cells Cv.zero.cells 27)).alloc (.cells #[.int .i64 0,.int .u64 0,.slice none 0 0,.slice none 0 0,.slice none 0 0] 27)).cell? ⟨bk,o+i*5+2,none⟩=some (.slice x.aB x.nB x.cB):=((bI.o.trans (qG.o Cv.zero)).below.cell hbk).trans e2
     have e3z:(((w.alloc (.cells (Cv.cells ⟨7,(n:Int),aB,b.length,cB,some ⟨bk,o,none⟩,l.length,cL,aF,f.length,cF⟩) 27)).alloc (.cells Cv.zero.cells 27)).alloc (.cells #[.int .i64 0,.int .u64 0,.slice none 0 0,.slice none 0 0,.slice none 0 0] 27)).cell? ⟨bk,o+i*5+3,none⟩=some (.slice x.aL x.nL x.cL):=((bI.o.trans (qG.o Cv.zero)).below.cell hbk).trans e3;have e4z:(((w.alloc (.cells (Cv.cells ⟨7,(n:Int),aB,b.length,cB,some ⟨bk,o,none⟩,l.length,cL,aF,f.length,cF⟩) 27)).alloc (.cells Cv.zero.cells 27)).alloc (.cells #[.int .i64 0,.int .u64 0,.slice none 0 0,.slice none 0 0,.slice none 0 0] 27)).cell? ⟨bk,o+i*5+4,none⟩=some (.slice x.aF x.nF x.cF):=((bI.o.trans (qG.o Cv.zero)).below.cell hbk).trans e4;clear hx hz0 hz1;go_wp2_with (go_at_call 104;refine(HI.o _).mono ?_;rintro e w' ⟨rfl,rfl⟩);go_meet
     exact⟨true,x,l[i],rfl,qG.o x,GN.o x,GP.o x,K_.o x,HX.o,.inl ⟨rfl,HST.o,by simp⟩⟩
    have hn:l[z.toNat]?=none:=FQ (by omega);rw[hn] at HST;clear hn;go_wp2_with (go_at_call 104;refine(HI.o _).mono ?_;rintro e w' ⟨rfl,rfl⟩);go_meet;exact⟨false,Cv.zero,V.zero,rfl,qG.o Cv.zero,GN.o Cv.zero,GP.o Cv.zero,K_.o Cv.zero,In.KA w0,.inr ⟨rfl,fun _=>HST.o,rfl⟩⟩
   rw[ak hz0] at HST;go_wp2_with (go_at_call 104;refine(HI.o _).mono ?_;rintro e w' ⟨rfl,rfl⟩);go_meet;exact⟨false,Cv.zero,V.zero,rfl,qG.o Cv.zero,GN.o Cv.zero,GP.o Cv.zero,K_.o Cv.zero,In.KA w0,.inr ⟨rfl,fun _=>HST.o,rfl⟩⟩
  have hkq:(k==7)=false:=by simpa using hk
  have HK:=aa hk;clear hk;go_wp2_with fail;go_meet;exact⟨false,Cv.zero,V.zero,rfl,qG.o Cv.zero,GN.o Cv.zero,GP.o Cv.zero,K_.o Cv.zero,In.KA w0,.inr ⟨rfl,fun h=>absurd h HK.o,rfl⟩⟩
 obtain⟨tb,xc,u,rfl,hw,hb2,hb4,kI,hu,hh⟩:=hcut;have hform:=HF.o;rw[tj] at hform;simp only[ig,nY,iy] at hform;have HND:=aa hform.2;have H7:=aa (show k=7→f.length=0 by
  intro h;have:=hform.1.1.1;unfold V.own at this;simp only[ig,iy] at this;omega)
 have HH:=aa hh;have HW:=aa hw;have aew:=aa hb2;have aex:=aa hb4;have aey:=aa kI;have HU:=aa hu;have hc2:=hb2.cell;have dO:=hb2.lt;clear hform hh hw hb2 hb4 kI hu;rename World=>wy;go_wp2_with fail;go_loopg [9,11] (f.length+1) (fun gk t i wr=>∃(p:Nat) (tb:Bool) (xc:Cv) (u:V),p≤f.length∧gk+p=f.length+1∧i=.int .i64 p∧t=.bool tb∧Grow w wr∧Blk wr w.heap.size 27 (Cv.cells ⟨k,(n:Int),aB,b.length,cB,aL,l.length,cL,aF,f.length,cF⟩)∧Blk wr (w.heap.size+1) 27 Cv.zero.cells∧Blk wr (w.heap.size+1+1) 27 xc.cells ∧
  In w0 u xc∧((tb=true∧jl (.mk k n b l f) hd=some u)∨(tb=false∧(k=7→jl (.mk k n b l f) hd=none)∧xc=Cv.zero∧∀i (hi:i<f.length),i<p→f[i].1≠hd)))
 refine⟨0,tb,xc,u,by omega,by omega,rfl,rfl,HW.o,aew.o,aex.o,aey.o,HU.o,?_⟩;rcases HH.o with ⟨h1,h2,-⟩ | ⟨h1,h2,h3⟩
 ·exact .inl ⟨h1,h2⟩
 exact .inr ⟨h1,h2,h3,fun i _ h=>absurd h (by omega)⟩;obtain⟨p,tb2,GQ,u2,hp,ji,rfl,rfl,hwr,hr2,hr4,yl,hu2,zn⟩:=hrel;have zJ:=aa zn;have fL:=aa hwr;have bM:=aa hr2;have bY:=aa hr4;have kJ:=aa yl;have Eg:=aa hu2;have ank:=hr2.cell;have anl:=hr2.lt;clear zn hwr hr2 hr4 yl hu2;obtain⟨gk',rfl⟩:=bz gk (by omega);by_cases hlt:p<f.length
 ·have HK7:=aa (show k≠7 from fun h=>by have:=H7.o h;omega);obtain⟨bk,o,x,ha,hbk,es,ik,e0,e1,e2,e3,e4,hx⟩:=HV.o.gX p hlt;dsimp only at ha;subst ha;replace es:=((bI.o.trans fL.o).below.cell hbk).trans es;replace e0:=((bI.o.trans fL.o).below.cell hbk).trans e0;replace e1:=((bI.o.trans fL.o).below.cell hbk).trans e1;replace e2:=((bI.o.trans fL.o).below.cell hbk).trans e2;replace e3:=((bI.o.trans fL.o).below.cell hbk).trans e3;replace e4:=((bI.o.trans fL.o).below.cell hbk).trans e4;replace hbk:=bG hbk (bI.o.trans fL.o).size;have HX:=aa hx;obtain⟨q,hq⟩:∃q,f[p].1=q:=⟨_,rfl⟩;rw[hq] at es;have HQ:=aa hq;have hc8:=kJ.o.cell;have aez:=kJ.o.lt;have Xa:=kJ.o.frozen;clear hx hq;by_cases he:q=hd
  ·have HST:=aa (show jl (.mk k n b l f) hd=some f[p].2 by rw[wQ HK7.o,aek HND.o hlt (HQ.o.trans he)];rfl);have om:(q.toList==hd.toList)=true:=by rw[he];simp
   clear he;go_wp2_with fail;go_roundg gk';exact⟨p+1,true,x,f[p].2,by omega,by omega,by go_num,rfl,fL.o.mK (Nat.le_add_right _ 2) x,bM.o.Gv (by omega) x,bY.o.Gv (by omega) x,wI (c:=x) kJ.o,HX.o,.inl ⟨rfl,HST.o⟩⟩;omega
  have HE:=aa he;have om:(q.toList==hd.toList)=false:=by
   simp only[pd,ne_eq];intro h;rw[toList_data,toList_data] at h;exact he (Dg (yY h))
  clear he;go_wp2_with fail;go_roundg gk';refine⟨p+1,tb2,GQ,u2,by omega,by omega,by go_num,rfl,fL.o,bM.o,bY.o,kJ.o,Eg.o,?_⟩;rcases zJ.o with h1 | ⟨h1,h2,h3,h4⟩
  ·exact .inl h1
  refine .inr ⟨h1,h2,h3,fun i hi hij=>?_⟩;by_cases pJ:i=p
  ·subst pJ;rw[HQ.o];exact HE.o
  exact h4 i hi (by omega);omega
 obtain rfl:p=f.length:=by omega
 have wW:=aa (show mX (.mk k n b l f) s=(jl (.mk k n b l f) hd).bind fun u=>pH u (if j=s.size then [] else nG (s.extract (j+1) s.size)) by
  rw[mX,ak pI];by_cases hjs:j=s.size
  ·rw[aD hjs,PY (fun i hi=>bS.o i hi (by omega)),← W_.o,hjs,ByteArray.extract_zero_size];rfl
  rw[ak hjs,aej (k:=j) (by omega) bS.o (aeu.o (by omega)),W_.o];rfl)
 have iz:=bY.o.cell;have Gx:=bY.o.lt;have zq:=bY.o.frozen;have hc8:=kJ.o.cell;have aez:=kJ.o.lt;rcases zJ.o with ⟨rfl,hst⟩ | ⟨rfl,hno,rfl,hall⟩
 ·have HST:=aa hst;clear hst;by_cases hjs:j=s.size
  ·have HP:=aa (show mX (.mk k n b l f) s=some u2 by rw[wW.o,HST.o,aD hjs];rfl);subst hjs;go_wp2_with fail;refine gV (qH rfl rfl rfl GQ (wI (c:=GQ) bY.o)) rfl (P7 HP.o (fL.o.mK (fJ _) GQ) Eg.o)
  by_cases La:j+1=s.size
  ·have P8:=aa (P4 HST.o HF.o);have HP:=aa (show mX (.mk k n b l f) s=none by
    have hz:(s.extract (j+1) s.size).size=0:=by rw[ByteArray.size_extract];omega
    have hz2:(s.extract (j+1) s.size).data.toList.length=0:=by simpa using hz
    rw[wW.o,HST.o,ak hjs,PY (fun i hi=>absurd hi (by omega))];show (jl u2 _).bind _=none;rw[ael P8.o hz];rfl)
   have hb1:((j:Int)==(s.size:Int))=false:=by simp only[pd,ne_eq];omega
   have hb2:((j:Int)+1==(s.size:Int))=true:=by simp only[FI];omega
   clear hjs La;go_wp2_with fail;refine gV (qH rfl rfl rfl Cv.zero (Ed (c:=Cv.zero) bY.o)) rfl (P9 HP.o (fL.o.mK (fJ _) Cv.zero))
  have P8:=aa (P4 HST.o HF.o);have anm:j<s.size:=by omega
  have hsz:(s.extract (j+1) s.size).size=s.size-(j+1):=by rw[ByteArray.size_extract];omega
  have HP:=aa (show mX (.mk k n b l f) s=mX u2 (s.extract (j+1) s.size) by
   rw[wW.o,HST.o,ak hjs,mX,ak]
   ·rfl
   intro h;rw[toList_data] at h;have h0:(s.extract (j+1) s.size).data.toList.length=0:=by rw[h];rfl
   have h1:(s.extract (j+1) s.size).data.toList.length=(s.extract (j+1) s.size).size:=by simp
   omega)
  have HC:=aa (kH.o u2 (s.extract (j+1) s.size) GQ wr.drew (by omega) P8.o (bI.o.trans fL.o.drew) Eg.o);have hb1:((j:Int)==(s.size:Int))=false:=by simp only[pd,ne_eq];omega
  clear hjs hsz;obtain⟨y,hy⟩:∃y,j+1=y:=⟨_,rfl⟩;have hyj:(j:Int)+1=(y:Int):=by omega
  have hys:y≤s.size:=by omega
  have hyw:IntKind.i64.wrap (y:Int)=(y:Int):=by rw[df];omega
  have hy0:(0:Int)≤(y:Int):=by omega
  have hy1:(y:Int)≤(s.size:Int):=by omega
  rw[hy] at HP HC;have hb2:((y:Int)==(s.size:Int))=false:=by simp only[pd,ne_eq];omega
  go_upto_region 22 with fail;go_region_law ((go_simp;go_at_call 56;refine HC.o.mono ?_;rintro e w2 ⟨hg2,x,t,u3,rfl,hx,hh⟩;have hb4:=(bY.o.grow ((ah wr).drew.trans hg2));have ann:=hb4.cell;have ano:=hb4.lt;have anp:=hb4.frozen));go_wp2_with fail;refine gV (qH rfl rfl rfl x (wI (c:=x) hb4)) rfl ?_;exact⟨(fL.o.trans ((ah wr).drew.trans hg2)).mK (fJ _) x,x,t,u3,rfl,hx,by rw[HP.o];exact hh⟩
 have nI:=aa (show jl (.mk k n b l f) hd=none by
  by_cases hk:k=7
  ·exact hno hk
  rw[wQ hk,K8 (fun i hi=>hall i hi hi)];rfl)
 have HP:=aa (show mX (.mk k n b l f) s=none by rw[wW.o,nI.o];rfl);clear hno hall;go_wp2_with fail;refine gV (qH rfl rfl rfl Cv.zero (Ed (c:=Cv.zero) bY.o)) rfl (P9 HP.o (fL.o.mK (fJ _) Cv.zero))
theorem BZ(w0:World):∀(n:Nat) (v:V) (s:ByteArray) (c:Cv) (w:World),s.size≤n→s.size<4294967281→v.formed=true→Grow w0 w→In w0 v c →
 Calls prog 56 #[c.agg,.string s] w (lN w0 w (mX v s))
 | 0,v,s,c,w,hn,hs,hf,hg,hv=>WY v s c w w0 hg (by rw[toList_data];exact AW.1 (by have h:s.data.toList.length=s.size:=(by simp);omega)) hv
 | n+1,v,s,c,w,hn,hs,hf,hg,hv=>by
  by_cases pI:s.toList=[]
  ·exact WY v s c w w0 hg pI hv
  obtain⟨k,m,b,l,f⟩:=v;exact aet k m b l f s c w hf pI hs w0 hg hv (fun u t cu W ht hu ym BN=>BZ w0 n u t cu W (by omega) (by omega) hu ym BN)
end
section
open Go.RowKit Go.Shelf Go.WideShapes
def gm(w:World)(b:List UInt8)(e:Ending)(w':World):Prop:=∃A c,e=.returned (.slice A b.length c)∧Row w' w.heap.size (.slice A b.length c) b.length b∧Grow w w'
theorem gm.of{b xs:List UInt8}{n:Nat}(h:xs=b)(hn:n=b.length)(hr:Row w' w.heap.size (.slice A n c) n xs)(hg:Grow w w'):gm w b (.returned (.slice A n c)) w':=by
 subst h hn;exact⟨A,c,rfl,hr,hg⟩
theorem P_(n:Nat)(w:World)(hn:n<18446744073709551616):Calls prog 155 #[.int .u64 n] w fun e w'=>e=.returned (.int .u64 (jT n:Nat))∧w=w':=by
 have h2:=Xb n hn;have h3:n<9223372036854775808→bits .or .u64 (n:Int) 9223372036854775808=((n+9223372036854775808:Nat):Int):=fun hlt=>by
  have:=u64_or_nat n 9223372036854775808 hn (by decide);rw[show n ||| 9223372036854775808=n+9223372036854775808 by
   have h4:=nat_join 63 9223372036854775808 n (by decide) (by rw[GS];exact hlt);rw[Nat.or_comm,h4];omega] at this
  exact this
 by_cases hlt:n<9223372036854775808
 ·have h4:=h3 hlt;have hd:(((n:Int) / 9223372036854775808)==0)=true:=by simp;omega
  have ht:jT n=n+9223372036854775808:=by rw[jT,aD hlt]
  clear h2 h3;go_enter func155,ntmps155;go_wp2;go_ret;exact⟨by rw[ht];rfl,rfl⟩
 have hd:(((n:Int) / 9223372036854775808)==0)=false:=by simp;omega
 have ht:jT n=18446744073709551615-n:=by rw[jT,ak hlt]
 clear h3;go_enter func155,ntmps155;go_wp2;go_ret;exact⟨rfl,rfl⟩
theorem Eo(n size:Nat)(w:World)(hs:size≤8)(hn:n<18446744073709551616):Calls prog 154 #[.int .u64 n,.int .i64 size] w (gm w (be size n)):=by
 go_enter func154,ntmps154;go_wp2_with fail;go_loopg [5,6] (size+1) (fun gk o i wr=>∃(r:Nat) (z:Int) (A':Option Addr) (c':Nat),r≤size∧gk=r+1∧z+1=(r:Int)∧i=.int .i64 z∧o=.slice A' (size-r) c'∧Row wr w.heap.size (.slice A' (size-r) c') (size-r) ((be size n).take (size-r))∧Grow w wr);exact⟨size,(size:Int)-1,none,0,au _,rfl,by omega,rfl,by rw[y_],by rw[y_,FT];exact jb _ _ _ _,ah w⟩;obtain⟨r,z,A',c',hr,rfl,hz,rfl,rfl,hrow,hg⟩:=hrel;have HR:=aa hrow;have HG:=aa hg;clear hrow hg;by_cases h0:r=0
 ·subst h0;have hz0:z=-1:=by omega
  subst hz0;clear hz;go_wp2_with fail;go_ret;exact gm.of (rB (by rw[g_];omega)) (by rw[g_];omega) HR.o HG.o
 obtain⟨j,rfl⟩:∃j,r=j+1:=⟨r-1,by omega⟩;obtain rfl:z=(j:Int):=by omega
 clear hz h0;have hB:(((UInt8.ofNat (n / 256 ^ j)).toNat:Nat):Int)=(n:Int) / 2 ^ (8*j) % 256:=by
  rw[Oj,← Oi];rfl
 have HB:=aa hB;have HT:=aa (Xc n size j (by omega));clear hB;go_wp2_with (at_builtin;refine gA (ys:=[UInt8.ofNat (n / 256 ^ j)]) rfl (.tmp 13) (.tmp 20) _ rfl rfl (HR.o.alloc _) _ rfl (lD _ HB.o (az wr _ _)) (by simp only[aU,bT];omega) (by simp;have:=HG.o.size;omega) ?_;intro A4 c4 w4 hr4 hg4;have bY:=aa hr4;have bP:=aa (show Grow w w4 from cJ (HG.o.alloc _) (ej hg4 (HR.o.alloc _) (by simp;have:=HG.o.size;omega)));clear hr4 hg4);go_roundg (j+1);have e:size-(j+1)+[UInt8.ofNat (n / 256 ^ j)].length=size-j:=by simp only[aU,bT];omega
 have iA:=bY.o;rw[e,← HT.o] at iA;exact⟨j,(j:Int)-1,A4,c4,by omega,rfl,by omega,rfl,by rw[← e];rfl,iA,bP.o⟩;omega
theorem Qa(b:List UInt8)(B:Option Addr)(bc:Nat)(w:World)(hb:bh w B b)(hl:b.length≤70000000000000):Calls prog 156 #[.slice B b.length bc] w (gm w (eH b)):=by
 have HB:=aa hb;clear hb;go_enter func156,ntmps156;go_wp2_with fail;go_loopg [3,4] (b.length+1) (fun gk o i wr=>∃(k:Nat) (xs:List UInt8) (A':Option Addr) (c':Nat),k≤b.length∧gk+k=b.length+1∧i=.int .i64 k∧xs=iX (b.take k)∧o=.slice A' xs.length c'∧Row wr w.heap.size (.slice A' xs.length c') xs.length xs∧Grow w wr);exact⟨0,[],none,0,aR _,rfl,rfl,rfl,rfl,jb _ _ _ _,ah w⟩;obtain⟨k,xs,A',c',hk,hg,rfl,hxs,rfl,hr,hgr⟩:=hrel;have HR:=aa hr;have HG:=aa hgr;have hel:xs.length≤2*b.length:=by
  have:=(qF (b.take k)).2;rw[dU] at this;rw[hxs];omega
 have hzz:=hgr.size;clear hr hgr;by_cases hlt:k<b.length
 ·obtain⟨gk',rfl⟩:=bz gk (by omega);obtain⟨bk,o,rfl,hcell⟩:=HB.o.2 (by omega);have hcw:=hcell k _ (wE b k hlt);have hc:=(HG.o.below.cell hcw.2.2).trans hcw.1;have hbl:bk<wr.heap.size:=bG hcw.2.2 HG.o.size;have hstep:iX (b.take (k+1))=xs++(if b[k]=0 then [0,255] else [b[k]]):=by rw[hxs,py b k hlt,Xd]
  have HST:=aa hstep;have bt:=aa (fun(W:World) (h:Grow wr W)=>(h.below.cell (p:=⟨bk,o+k,none⟩) hbl).trans hc);have tO:∀q,Value.ownBlock (.slice A' xs.length c')=some q→bk≠q:=fun q hq e=>by
   have:=(bJ HR.o q hq).1;have:=hcw.2.2;dsimp only at this;omega
  have B0:=aa (fun(W:World) (h:∀k,k<wr.heap.size→(∀q,Value.ownBlock (.slice A' xs.length c')=some q→k≠q)→W.heap[k]?=wr.heap[k]?)=>(uy (a:=⟨bk,o+k,none⟩) (h bk hbl tO)).trans hc);clear hstep hcell hcw hxs bt tO;by_cases hx:b[k]=0
  ·rw[aD hx] at HST;rw[hx] at hc B0;have hc':wr.cell? ⟨bk,o+k,none⟩=some (.int .u8 0):=hc;have Xe:=aa (show ∀(W:World),(∀k,k<wr.heap.size→(∀q,Value.ownBlock (.slice A' xs.length c')=some q→k≠q)→W.heap[k]?=wr.heap[k]?)→W.cell? ⟨bk,o+k,none⟩=some (.int .u8 0) from B0.o);clear hc hx B0;have B0:=Xe;clear Xe;go_wp2_with (first
    | (at_builtin;refine gA (ys:=[0]) rfl (.tmp 11) (.tmp 16) _ rfl rfl (HR.o.alloc _) _ rfl (lD 0 rfl (az wr _ _)) (by simp only[aU,bT];omega) (by simp;omega) ?_;intro A4 c4 w4 hr4 hg4;have bY:=aa hr4;have GU:=aa (show Below w.heap.size wr w4 from cJ (oY (jH _ wr) hzz _) (ej hg4 (HR.o.alloc _) (by simp;omega)));have zq:wr.heap.size≤w4.heap.size:=GU.o.size;have ml:=aa (show ∀k,k<wr.heap.size→(∀q,Value.ownBlock (.slice A' xs.length c')=some q→k≠q)→w4.heap[k]?=wr.heap[k]? from fun k hk hne=>(hg4.grow.block k (by simp;omega) (fun e=>hne k e.symm rfl)).trans (((ah wr).alloc _).below.block k hk));have iz:=B0.o w4 ml.o;have hb4:bk<w4.heap.size:=bG hbl (by have:=hg4.grow.size;simp at this;omega);clear hr4 hg4)
    | (at_builtin;refine gA (ys:=[255]) rfl (.tmp 23) (.tmp 24) _ rfl rfl (bY.o.alloc _) _ rfl (lD 255 rfl (az w4 _ _)) (by simp only[aU,bT];omega) (by simp;omega) ?_;intro A5 c5 w5 iA bK;have eP:=aa iA;have a_:=aa (show Grow w w5 from cJ (cJ HG.o GU.o) (cJ (oY (jH _ w4) (by omega) _) (ej bK (bY.o.alloc _) (by simp;omega))));clear iA bK))
   go_roundg gk';have hn:(xs++[(0:UInt8),255]).length=xs.length+[(0:UInt8)].length+[(255:UInt8)].length:=by simp
   have e:xs++[(0:UInt8)]++[255]=xs++[0,255]:=by simp
   have iA:=eP.o;rw[e] at iA;exact⟨k+1,xs++[0,255],A5,c5,by omega,by omega,by go_num,HST.o.symm,by rw[hn];rfl,by rw[hn];exact iA,a_.o⟩;omega
  rw[ak hx] at HST;obtain⟨x,vh⟩:∃x,b[k]=x:=⟨_,rfl⟩;have hne:((x.toNat:Int)==0)=false:=by
   have:x.toNat≠0:=fun e=>hx (by rw[vh];exact yZ.1 e)
   simp;omega
  rw[vh] at HST hc B0;have hxl:=x.toNat_lt;clear hx vh
  go_wp2_with (at_builtin;refine gA (ys:=[x]) rfl (.tmp 11) (.tmp 16) _ rfl rfl (HR.o.alloc _) _ rfl (lD x rfl (az wr _ _)) (by simp only[aU,bT];omega) (by simp;omega) ?_;intro A4 c4 w4 hr4 hg4;have bY:=aa hr4;have GU:=aa (show Below w.heap.size wr w4 from cJ (oY (jH _ wr) hzz _) (ej hg4 (HR.o.alloc _) (by simp;omega)));have zq:wr.heap.size≤w4.heap.size:=GU.o.size;have ml:=aa (show ∀k,k<wr.heap.size→(∀q,Value.ownBlock (.slice A' xs.length c')=some q→k≠q)→w4.heap[k]?=wr.heap[k]? from fun k hk hne=>(hg4.grow.block k (by simp;omega) (fun e=>hne k e.symm rfl)).trans (((ah wr).alloc _).below.block k hk));have iz:=B0.o w4 ml.o;have hb4:bk<w4.heap.size:=bG hbl (by have:=hg4.grow.size;simp at this;omega);clear hr4 hg4)
  go_roundg gk';have hn:(xs++[x]).length=xs.length+[x].length:=bp;exact⟨k+1,xs++[x],A4,c4,by omega,by omega,by go_num,HST.o.symm,by rw[hn];rfl,by rw[hn];exact bY.o,cJ HG.o GU.o⟩;omega
 obtain rfl:k=b.length:=by omega
 rw[fT] at hxs;have Lb:=aa hxs;clear hxs hg;go_wp2_with (at_builtin;refine gA (ys:=[0,0]) rfl (.tmp 26) (.tmp 27) _ rfl rfl (HR.o.alloc _) _ rfl (Xf (n:=2) [0,0] #[.int .u8 0,.int .u8 0] rfl (az wr _ _) rfl) (by simp only[aU,bT];omega) (by simp;omega) ?_;intro A4 c4 w4 hr4 hg4;have bY:=aa hr4;have bP:=aa (show Grow w w4 from cJ (HG.o.alloc _) (ej hg4 (HR.o.alloc _) (by simp;omega)));clear hr4 hg4);go_ret;exact gm.of (by rw[Lb.o];rfl) (by rw[Lb.o];simp[eH]) bY.o bP.o
end
section
open Go.RowKit Go.Shelf Go.WideShapes
theorem Xg(m j:Nat)(hm:m<18446744073709551616):9007199254740992≤m / 2 ^ j↔j<sh m:=by
 rw[Nat.le_div_iff_mul_le (kQ (by omega)),← yn,← mf];unfold sh;by_cases h0:m=0
 ·subst h0;have:0<2 ^ (53+j):=kQ (by omega);simp
 rw[← Nat.le_log2 h0];omega
theorem Xh(m:Nat)(hm:m<18446744073709551616):sh m≤11:=by
 unfold sh;by_cases h0:m=0
 ·subst h0;decide
 have:m.log2<64:=by rw[Nat.log2_lt h0,Qb];exact hm
 omega
theorem aeA(aI:Nat):Op.negFloat .f64 (Ieee.double.nearest false aI 0)=Ieee.double.nearest true aI 0:=by
 have key:∀r,r≤9218868437227405312→Op.negFloat .f64 (Ieee.double.word false r)=Ieee.double.word true r:=by
  intro r hr;have e1:Ieee.double.word false r=r:=by unfold Ieee.Format.word;simp
  have e2:Ieee.double.word true r=r+9223372036854775808:=by unfold Ieee.Format.word;rw[wX];simp;omega
  rw[e1,e2];show r ^^^ 2 ^ 63=_;rw[GS];exact Qc r (by omega)
 unfold Ieee.Format.nearest;split
 ·exact key 0 (by omega)
 simp only[Ep];exact key _ (Nat.min_le_right _ _)
theorem aeB(b:Nat)(w:World):(Op.unary .neg (.float .f64 b)).run prog w=.ok (.float .f64 (Op.negFloat .f64 b)) w:=rfl
theorem aeC(m:Nat)(hm:m≤9223372036854775807)(w:World):Calls prog 153 #[.int .i64 (m:Int)] w fun e w'=>e=.returned (.tuple #[.int .u64 ((fl (m:Int)).1:Nat),.int .u64 ((fl (m:Int)).2:Nat)])∧w=w':=by
 have hb:=GV;obtain⟨s,hs⟩:∃s,sh m=s:=⟨_,rfl⟩;have aeD:s≤11:=by rw[← hs];exact Xh m (by omega)
 have hfl:fl (m:Int)=(Ieee.double.nearest false (m / 2 ^ s*2 ^ s) 0,m % 2 ^ s):=by
  unfold fl;rw[aD (by omega),A_,hs]
 have oz:=aa hfl;have HST:=aa (fun j=>Xg m j (by omega));rw[hs] at HST;clear hfl hs;go_enter func153,ntmps153;go_wp2_with fail;go_loopg [5] (s+1) (fun gk k wr=>∃j:Nat,j≤s∧gk+j=s+1∧k=.int .u64 (j:Int)∧wr=w);exact⟨0,aR _,rfl,rfl,rfl⟩;obtain⟨j,hj,hg,rfl,rfl⟩:=hrel;obtain⟨gk',rfl⟩:=bz gk (by omega);by_cases hlt:j<s
 ·have h1:=(HST.o j).2 hlt;have hd:decide ((9007199254740992:Int)≤(m:Int) / 2 ^ j)=true:=by
   apply cj;have:((m / 2 ^ j:Nat):Int)=(m:Int) / 2 ^ j:=by push_cast;rfl
   omega
  clear h1;go_wp2_with fail;go_roundg gk';exact⟨j+1,by omega,by omega,by go_num,rfl⟩;omega
 obtain rfl:j=s:=by omega
 have h1:¬ 9007199254740992≤m / 2 ^ j:=fun h=>by have:=(HST.o j).1 h;omega
 have hd:decide ((9007199254740992:Int)≤(m:Int) / 2 ^ j)=false:=by
  apply cm;have:((m / 2 ^ j:Nat):Int)=(m:Int) / 2 ^ j:=by push_cast;rfl
  omega
 clear h1;go_wp2_with fail;have zK:=Dl m (2 ^ j);rw[xL] at zK;have hc:((m / 2 ^ j*2 ^ j:Nat):Int)=(m:Int) / 2 ^ j*2 ^ j:=by push_cast;rfl
 have e1:IntKind.u64.wrap ((m:Int) / 2 ^ j*2 ^ j)=((m / 2 ^ j*2 ^ j:Nat):Int):=by rw[← hc,IntKind.wrap_u64];omega
 have e2:IntKind.u64.wrap ((m:Int)-((m / 2 ^ j*2 ^ j:Nat):Int))=((m % 2 ^ j:Nat):Int):=by rw[IntKind.wrap_u64];omega
 go_ret2;refine⟨?_,rfl⟩;show Ending.returned (.tuple #[.int .u64 ((floatOfInt .f64 (IntKind.u64.wrap ((m:Int) / 2 ^ j*2 ^ j)):Nat):Int),.int .u64 (IntKind.u64.wrap ((m:Int)-IntKind.u64.wrap ((m:Int) / 2 ^ j*2 ^ j)))])=_;rw[e1,e2,oz.o];have e3:floatOfInt .f64 ((m / 2 ^ j*2 ^ j:Nat):Int)=Ieee.double.nearest false (m / 2 ^ j*2 ^ j) 0:=by
  show Ieee.double.nearest (decide (((m / 2 ^ j*2 ^ j:Nat):Int)<0)) (((m / 2 ^ j*2 ^ j:Nat):Int)).natAbs 0=_;rw[cm (by omega),Int.natAbs_natCast]
 rw[e3]
theorem aeE(m:Nat)(hm0:1≤m)(hm:m≤9223372036854775808)(w:World):Calls prog 153 #[.int .i64 (-(m:Int))] w fun e w'=>e=.returned (.tuple #[.int .u64 ((fl (-(m:Int))).1:Nat),.int .u64 ((fl (-(m:Int))).2:Nat)])∧w=w':=by
 have hb:=GV;have B6:=aeB
 obtain⟨i,hi⟩:∃i:Int,-(m:Int)=i:=⟨_,rfl⟩;obtain⟨s,hs⟩:∃s,sh m=s:=⟨_,rfl⟩;have aeD:s≤11:=by rw[← hs];exact Xh m (by omega)
 have hfl:fl i=(Ieee.double.nearest true ((m+(2 ^ s-1)) / 2 ^ s*2 ^ s) 0,(m+(2 ^ s-1)) / 2 ^ s*2 ^ s-m):=by
  have e:i.natAbs=m:=by omega
  unfold fl;rw[ak (by omega),e,hs]
 rw[hi];have oz:=aa hfl;have HST:=aa (fun j=>Xg m j (by omega));rw[hs] at HST;have hi1:i<0:=by omega
 have hi2:-9223372036854775808≤i:=by omega
 have fU:IntKind.u64.wrap (IntKind.u64.wrap (-(i+1))+1)=(m:Int):=by rw[IntKind.wrap_u64,IntKind.wrap_u64];omega
 clear hfl hs;have HI:=aa hi;clear hi;go_enter func153,ntmps153;go_wp2_with fail;rw[show -(i+1)+1=(m:Int) by have:=HI.o;omega];go_loopg [8] (s+1) (fun gk k wr=>∃j:Nat,j≤s∧gk+j=s+1∧k=.int .u64 (j:Int)∧wr=w);exact⟨0,aR _,rfl,rfl,rfl⟩;obtain⟨j,hj,hg,rfl,rfl⟩:=hrel;obtain⟨gk',rfl⟩:=bz gk (by omega);by_cases hlt:j<s
 ·have h1:=(HST.o j).2 hlt;have hd:decide ((9007199254740992:Int)≤(m:Int) / 2 ^ j)=true:=by
   apply cj;have:((m / 2 ^ j:Nat):Int)=(m:Int) / 2 ^ j:=by push_cast;rfl
   omega
  clear h1;go_wp2_with fail;go_roundg gk';exact⟨j+1,by omega,by omega,by go_num,rfl⟩;omega
 obtain rfl:j=s:=by omega
 have h1:¬ 9007199254740992≤m / 2 ^ j:=fun h=>by have:=(HST.o j).1 h;omega
 have hd:decide ((9007199254740992:Int)≤(m:Int) / 2 ^ j)=false:=by
  apply cm;have:((m / 2 ^ j:Nat):Int)=(m:Int) / 2 ^ j:=by push_cast;rfl
  omega
 clear h1;have hp:0<2 ^ j:=kQ (by omega);have Qd:2 ^ j≤2 ^ 11:=ny (by omega) (by omega);have e11:(2:Nat) ^ 11=2048:=by decide
 obtain⟨P,hP⟩:∃P,2 ^ j=P:=⟨_,rfl⟩;have Qe:(2:Int) ^ j=(P:Int):=by rw[← hP];push_cast;rfl
 rw[hP] at hp Qd;have a1:IntKind.u64.wrap ((2:Int) ^ j)=(P:Int):=by rw[Qe,IntKind.wrap_u64];omega
 have a2:IntKind.u64.wrap ((P:Int)-1)=((P-1:Nat):Int):=by rw[IntKind.wrap_u64];omega
 have a3:IntKind.u64.wrap ((m:Int)+((P-1:Nat):Int))=(m:Int)+((P-1:Nat):Int):=by rw[IntKind.wrap_u64];omega
 obtain⟨U,hU⟩:∃U,(m+(P-1)) / P*P=U:=⟨_,rfl⟩;have zK:=Dl (m+(P-1)) P;have ir:=Bb (m+(P-1)) hp;rw[xL,hU] at zK;have a4:IntKind.u64.wrap (((m:Int)+((P-1:Nat):Int)) / 2 ^ j*2 ^ j)=(U:Int):=by
  have:((m:Int)+((P-1:Nat):Int)) / 2 ^ j*2 ^ j=(U:Int):=by rw[Qe,← hU,sU,Int.natCast_ediv,Int.natCast_add]
  rw[this,IntKind.wrap_u64];omega
 have a5:IntKind.u64.wrap ((U:Int)-(m:Int))=((U-m:Nat):Int):=by rw[IntKind.wrap_u64];omega
 have a6:floatOfInt .f64 (U:Int)=Ieee.double.nearest false U 0:=by
  show Ieee.double.nearest (decide ((U:Int)<0)) ((U:Int)).natAbs 0=_;rw[cm (by omega),Int.natAbs_natCast]
 rw[hP,hU] at oz;have Er:=aa a5;have yo:=aa a6;clear hP Qe hU zK ir hp Qd e11 a5 a6;go_wp2_with fail;go_ret2;refine⟨?_,rfl⟩;show Ending.returned (.tuple #[.int .u64 ((Op.negFloat .f64 (floatOfInt .f64 (U:Int)):Nat):Int),.int .u64 (IntKind.u64.wrap ((U:Int)-(m:Int)))])=_;rw[Er.o,yo.o,oz.o,aeA]
theorem aeF(i:Int)(h1:-9223372036854775808≤i)(h2:i≤9223372036854775807)(w:World):Calls prog 153 #[.int .i64 i] w fun e w'=>e=.returned (.tuple #[.int .u64 ((fl i).1:Nat),.int .u64 ((fl i).2:Nat)])∧w=w':=by
 by_cases h:0≤i
 ·obtain⟨m,rfl⟩:=Int.eq_ofNat_of_zero_le h;exact aeC m (by omega) w
 obtain⟨m,hm⟩:∃m:Nat,i=-(m:Int):=⟨i.natAbs,by omega⟩;subst hm;exact aeE m (by omega) (by omega) w
end




theorem Qf(n cap mb:Nat)(A:Option Addr)(el:Nat→Cc)(s:ByteArray)(w:World)(hn:n≤140737488355328)(hrow:rK w A 3 n (fun j=>(el j).cells))(h0:w.cell? ⟨mb,0,none⟩=some (.slice A n cap))(h2:w.cell? ⟨mb,2,none⟩=some (.string s))(hmb:mb<w.heap.size) :
 Calls prog 115 #[.pointer (some ⟨mb,0,none⟩)] w fun e w'=>e=.returned (.tuple #[.int .i64 (il (lL (fun j=>(el j).nm) s) n:Nat),.bool (gj (lL (fun j=>(el j).nm) s) n)])∧Grow w w':=by
 have ax:=aa (fun w1 (h:Grow w w1)=>acA n (lL (fun j=>(el j).nm) s) el A cap (.string s) w1 hn (hrow.grow h) (fun j hj w' hg=>aeb (el j) s w'));have lO:=aa hmb;obtain⟨RN,pK⟩:∃R,il (lL (fun j=>(el j).nm) s) n=R:=⟨_,rfl⟩;obtain⟨RF,yq⟩:∃R,gj (lL (fun j=>(el j).nm) s) n=R:=⟨_,rfl⟩;rw[pK,yq] at ax ⊢;clear hrow pK yq;go_enter func115,ntmps115;go_wp2_with fail;refine dg ?_;refine cW (S:=fun w'=>Grow w w'∧w'.cell? ⟨mb,0,none⟩=some (.slice A n cap)∧w'.cell? ⟨mb,2,none⟩=some (.string s)) (by kernel_rfl) (⟨(ah w).drew,h0,h2⟩) (fun hHeld=>?_);refine cO 0 ?_;refine cO 1 ?_;refine cO 2 ?_;refine cO 3 ?_;refine cO 4 ?_;refine cO 5 ?_;refine cO 6 ?_;refine cO 7 ?_;refine cO 8 ?_;refine cO 9 ?_;refine aK 10 (fun K hK=>?_);go_simp;go_at_call 162
 refine(ax.o _ hHeld.1).mono ?_;rintro ee w3 ⟨rfl,hg3⟩;refine aT hK (⟨hHeld.1.trans hg3,(hg3.below.cell (p:=⟨mb,0,none⟩) (bG lO.o hHeld.1.size)).trans hHeld.2.1,(hg3.below.cell (p:=⟨mb,2,none⟩) (bG lO.o hHeld.1.size)).trans hHeld.2.2⟩) (fun hHeld=>?_);refine ai 11 ?_;refine ai 12 ?_;refine ai 13 ?_;refine ai 14 ?_;refine cG ?_;go_wp2_with fail;go_ret2;exact⟨rfl,hHeld.1⟩
theorem aeG(n cap mb pb po:Nat)(A:Option Addr)(el:Nat→Ix)(s:ByteArray)(w:World)(hn:n≤140737488355328)(hrow:rK w A 3 n (fun j=>(el j).cells))(h0:w.cell? ⟨pb,po+2,none⟩=some (.slice A n cap))(h2:w.cell? ⟨mb,3,none⟩=some (.string s))(hmb:mb<w.heap.size)(hpb:pb<w.heap.size) :
 Calls prog 125 #[.pointer (some ⟨mb,0,none⟩),.pointer (some ⟨pb,po,none⟩)] w fun e w'=>e=.returned (.tuple #[.int .i64 (il (lL (fun j=>(el j).name) s) n:Nat),.bool (gj (lL (fun j=>(el j).name) s) n)])∧Grow w w':=by
 have ax:=aa (fun w1 (h:Grow w w1)=>acB n (lL (fun j=>(el j).name) s) el A cap (.string s) w1 hn (hrow.grow h) (fun j hj w' hg=>aec (el j) s w'));have lO:=aa hmb;have HPB:=aa hpb;obtain⟨RN,pK⟩:∃R,il (lL (fun j=>(el j).name) s) n=R:=⟨_,rfl⟩;obtain⟨RF,yq⟩:∃R,gj (lL (fun j=>(el j).name) s) n=R:=⟨_,rfl⟩;rw[pK,yq] at ax ⊢;clear hrow pK yq;go_enter func125,ntmps125;go_wp2_with fail;refine dg ?_;refine cW (S:=fun w'=>Grow w w'∧w'.cell? ⟨pb,po+2,none⟩=some (.slice A n cap)∧w'.cell? ⟨mb,3,none⟩=some (.string s)) (by kernel_rfl) (⟨(ah w).drew,h0,h2⟩) (fun hHeld=>?_);refine cO 0 ?_;refine cO 1 ?_;refine cO 2 ?_;refine cO 3 ?_;refine cO 4 ?_;refine cO 5 ?_;refine cO 6 ?_;refine cO 7 ?_;refine cO 8 ?_;refine aK 9 (fun K hK=>?_);go_simp
 go_at_call 170;refine(ax.o _ hHeld.1).mono ?_;rintro ee w3 ⟨rfl,hg3⟩;refine aT hK (⟨hHeld.1.trans hg3,(hg3.below.cell (p:=⟨pb,po+2,none⟩) (bG HPB.o hHeld.1.size)).trans hHeld.2.1,(hg3.below.cell (p:=⟨mb,3,none⟩) (bG lO.o hHeld.1.size)).trans hHeld.2.2⟩) (fun hHeld=>?_);refine ai 10 ?_;refine ai 11 ?_;refine ai 12 ?_;refine ai 13 ?_;refine cG ?_;go_wp2_with fail;go_ret2;exact⟨rfl,hHeld.1⟩
section
open Go.RowKit
theorem Kept.Xi{row:Option Nat}(h:w.grownBy w' row):Kept (fun q=>row=some q) w w':=
 ⟨h.os,h.tape,h.output,h.size,fun k hk hs=>h.block k hk fun e=>hs e.symm⟩
theorem Kept.none_(h:Grow w w'):Kept (fun _=>False) w w':=gN h
section
variable {α β:Type}
structure GR (f:α→List Value) (z:Nat) (T:TypeId) (R:(Addr→Value→Prop)→α→β→Prop) (S:Nat→Prop) (w:World) (lo:Nat) (A:Option Addr) (c:Nat) (xs:List α) (ys:List β):Prop where
 row:w.ownsRow lo T z (.slice A xs.length c) xs.length ((xs.map f).flatten)
 two:Two (R (dI w (fun q=>ba A=some q∨S q))) xs ys
variable {f:α→List Value} {z:Nat} {T:TypeId} {R:(Addr→Value→Prop)→α→β→Prop} {S:Nat→Prop} {w w':World} {lo c c':Nat} {A A':Option Addr} {xs:List α} {ys:List β}
theorem GR.kept{K:Nat→Prop}(hm:∀(C C':Addr→Value→Prop),(∀p u,C p u→C' p u)→∀a b,R C a b→R C' a b)(h:GR f z T R S w lo A c xs ys)(hk:Kept K w w')(hs:∀q,K q→S q)(hA:∀g,ba A=some g→¬ K g):GR f z T R S w' lo A c xs ys:=
 ⟨fG h.row hk hA,h.two.mono fun a b k=>hm _ _ (kZ hk fun q hq=>.inr (hs q hq)) a b k⟩
theorem GR.grow(hm:∀(C C':Addr→Value→Prop),(∀p u,C p u→C' p u)→∀a b,R C a b→R C' a b)(h:GR f z T R S w lo A c xs ys)(hg:Grow w w'):GR f z T R S w' lo A c xs ys:=
 h.kept hm (Kept.none_ hg) (fun _ h=>h.elim) (fun _ _ h=>h)
theorem GR.nil(w:World):GR f z T R S w lo none 0 [] []:=⟨by rw[nW,Fz];exact jb _ _ _ _,Two.nil⟩
theorem GR.made{cap:Nat}(h:w.ownsRow lo T z (.slice (some ⟨g,0,none⟩) 0 cap) 0 []):GR f z T R S w lo (some ⟨g,0,none⟩) cap [] ([]:List β):=⟨by rw[nW,Fz];exact h,Two.nil⟩
theorem GR.add(hm:∀(C C':Addr→Value→Prop),(∀p u,C p u→C' p u)→∀a b,R C a b→R C' a b)(h:GR f z T R S w lo A c xs ys){a:α}{b:β}(hv:R (dI w (fun q=>ba A=some q∨S q)) a b)
 (hr:w'.ownsRow lo T z (.slice A' (xs.length+1) c') (xs.length+1) ((xs.map f).flatten++f a)) (hg:w.grownBy w' (Value.ownBlock (.slice A xs.length c))) (hA:Value.ownBlock (.slice A' (xs.length+1) c')=Value.ownBlock (.slice A xs.length c)∨Value.ownBlock (.slice A' (xs.length+1) c')=some w.heap.size) :
 GR f z T R S w' lo A' c' (xs++[a]) (ys++[b]):=by
 rw[bj,bj] at hA;rw[bj] at hg;have hC:∀p u,dI w (fun q=>ba A=some q∨S q) p u→dI w' (fun q=>ba A'=some q∨S q) p u:=fun p u hp=>by
  have hp2:=kZ (Kept.Xi hg) (fun q hq=>.inl hq) p u hp;refine⟨hp2.1,hp2.2.1,fun hq=>?_⟩;rcases hq with hq | hq
  ·rcases hA with hA | hA
   ·rw[hA] at hq;exact hp.2.2 (.inl hq)
   rw[hA] at hq;injection hq with hq;have:=hp.2.1;omega
  exact hp.2.2 (.inr hq)
 refine⟨?_,(h.two.mono fun x y k=>hm _ _ hC x y k).append (Two.one (hm _ _ hC _ _ hv))⟩;rw[bp,FM,l7,xJ];simpa using hr
end
abbrev vF:Cv→List Value:=fun c=>c.cells.toList
abbrev vR:(Addr→Value→Prop)→Cv→V→Prop:=fun C c v=>IsV C v c
theorem kK(C C':Addr→Value→Prop)(h:∀p u,C p u→C' p u)(a:Cv)(b:V)(k:vR C a b):vR C' a b:=dX h _ _ k
abbrev VR(S:Nat→Prop)(w:World)(lo:Nat)(A:Option Addr)(c:Nat)(cs:List Cv)(ag:List V):Prop:=GR vF 5 27 vR S w lo A c cs ag
abbrev cF:Cc→List Value:=fun c=>c.cells.toList
abbrev cR:(Addr→Value→Prop)→Cc→Co→Prop:=fun C e c=>wU C e c
theorem pL(C C':Addr→Value→Prop)(h:∀p u,C p u→C' p u)(a:Cc)(b:Co)(k:cR C a b):cR C' a b:=k.mono h
abbrev CR(S:Nat→Prop)(w:World)(lo:Nat)(A:Option Addr)(c:Nat)(es:List Cc)(st:List Co):Prop:=GR cF 3 48 cR S w lo A c es st
theorem VR.list{cs:List Cv}(h:VR S w lo A c cs ag)(hS:∀g,ba A=some g→¬ S g)(hl:ag.length≤140737488355328):IsV (dI w S) (.mk 7 0 [] ag []) (js A ag.length c):=by
 have hlen:=h.two.1;have hr:=h.row;rw[hlen] at hr;refine KZ (lM hr hS) ⟨hlen.symm,fun j v d hv hd=>?_⟩ (mW hr).1 hl;exact dX (dI.sub fun q hq=>.inr hq) _ _ (h.two.2 j d v hd hv)
theorem VR.B_{cs:List Cv}(h:VR S w lo A c cs ag)(hS:∀g,ba A=some g→¬ S g)(hl:ag.length≤140737488355328):InL w A c ag:=dX jS _ _ (h.list hS hl)
theorem CR.Xj{st:List Co}(h:CR S w lo A c es st):cQ w A c st:=by
 have hlen:=h.two.1;have hr:=h.row;rw[hlen] at hr;refine⟨(mW hr).1,es,h.two.mono fun a b k=>k.mono jS,?_⟩;exact(lM (S:=fun _=>False) hr (fun _ _ h=>h)).mono jS
end
abbrev pM:=@Kept.Xi
abbrev Lc:=@Kept.none_
section
open Go.RowKit Go.ChangeShapes Go.ChangeAt Go.Shelf Go.WideShapes
theorem aeH{H:Type}{enc:TypeId×Value→H}{sp:Nat→Bool}{d:DataW H}{p:List MemPlace}(hok:Value.okWide prog W .any base 9 v)
 (h:DataW.Trod enc prog W 0 sp held 9 v d p):∃s:ByteArray,v=.string s∧s.size+1=Rows.uptoBulk d:=by
 obtain⟨s,rfl⟩:=okWide_string pz hok;obtain⟨fuel,hf⟩:=h;obtain⟨s',es,hys,_⟩:=Dr pz hf;refine⟨s,rfl,?_⟩;have e1:s=s':=by
  have h2:([Value.string s]:List Value)=[Value.string s']:=es;injection h2 with h2 _;injection h2
 have e2:=dJ Prod.fst hys;dsimp only at e2;subst e1;rw[e2];simp[Rows.uptoBulk]
theorem aeI(W:World)(h:W.ShapedOpen prog):kD W:=by
 obtain⟨m,hm⟩:=PB.s1_3 W h;exact⟨m,hm,Oh _ _ hm⟩
end
end Go.Proofs.YtndjopkdbdcmdaaGreatDoor
