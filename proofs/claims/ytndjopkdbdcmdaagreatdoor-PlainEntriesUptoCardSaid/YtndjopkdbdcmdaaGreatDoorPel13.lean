/- Part 13 of the proof of pentries_card. -/
import Derived.Test.YtndjopkdbdcmdaaGreatDoorPel11
import Derived.Test.YtndjopkdbdcmdaaGreatDoorPel12
set_option linter.unusedVariables false
set_option linter.unusedSimpArgs false
set_option maxRecDepth 100000
set_option maxHeartbeats 12800000
open Go.Proofs.Tryz
namespace Go.Proofs.YtndjopkdbdcmdaaGreatDoor
section
open Go.RowKit
theorem adn{v u:V}{s:ByteArray}(h:jd v s=some u):u.count≤v.count:=by
 obtain⟨k,n,b,l,f⟩:=v;rw[u6];by_cases h7:k=7
 ·subst h7;rw[yF] at h;split at h
  ·have hm:u.count∈l.map V.count:=jx.2 ⟨u,yn h,rfl⟩;have:=J6 hm;omega
  cases h
 rw[vt h7,Ck] at h;obtain⟨⟨t,x⟩,h1,rfl⟩:=h;have hm:x.count∈f.map fun x=>x.2.count:=jx.2 ⟨(t,x),Cl h1,rfl⟩
 have:=J6 hm;show x.count≤_;omega
theorem Vi:∀{l:List ByteArray} {v u:V},kM v l=some u→u.count≤v.count
 | [],v,u,h=>by rw[kM] at h;injection h with h;rw[h];exact av _
 | s::r,v,u,h=>by
  rw[kM,Jz] at h;obtain⟨x,h1,h2⟩:=h;exact a_ (Vi h2) (adn h1)
theorem Vj{v u:V}{s:ByteArray}(h:gB v s=some u):u.count≤v.count:=by
 unfold gB at h;split at h
 ·split at h
  ·injection h with h;rw[h];exact av _
  exact Vi h
 cases h
def cH(path:ByteArray)(v:V):List UInt8×Bool×Int:=
 if (bt v).2≠0 then ([],false,(bt v).2) else match gB v path with
  | none=>([],false,0)
  | some u=>if (iX [u,(jq v).getD V.zero] [false,false]).2≠0 then ([],false,(iX [u,(jq v).getD V.zero] [false,false]).2)
   else ((iX [u,(jq v).getD V.zero] [false,false]).1,true,0)
def yP(w:World)(p:List UInt8×Bool×Int)(e:Ending)(w':World):Prop:=
 ∃base A c,e=.returned (.tuple #[.slice A p.1.length c,.bool p.2.1,.int .i64 p.2.2])∧w.heap.size≤base∧Row w' base (.slice A p.1.length c) p.1.length p.1∧Grow w w'
theorem yP.bad{w w':World}{e:Int}{t:Bool}(h:Grow w w'):yP w ([],t,e) (.returned (.tuple #[.slice none 0 0,.bool t,.int .i64 e])) w':=
 ⟨w.heap.size,none,0,rfl,av _,iH _ _ _ _,h⟩
theorem ado{v:V}(h:(bt v).2=0):∃i,jq v=some i∧v.good=0∧(bK i).2=0:=by
 unfold bt at h;split at h
 ·rename_i hg;exact absurd h hg
 rename_i hg;split at h
 ·cases h
 cases hi:jq v with
 | none=>rw[hi] at h;cases h
 | some i=>rw[hi] at h;exact⟨i,rfl,by simpa using hg,h⟩
theorem Vk(w:World)(s t:Bool):Om (w.alloc (.cells #[.bool s,.bool t] 4)) (some ⟨w.heap.size,0,none⟩) [s,t]:=by
 refine⟨rfl,fun _=>⟨w.heap.size,0,rfl,fun j u hu=>?_⟩⟩;have hn:=aH w 4 #[.bool s,.bool t];rcases j with _ | _ | j
 ·cases hu;exact⟨hn.cell 0,aS _,hn.lt⟩
 ·cases hu;exact⟨hn.cell 1,aS _,hn.lt⟩
 simp at hu
abbrev Ix.agg(x:Ix):Value:=.agg x.cells
theorem OH(x:Ix)(v:V)(c:Cv)(w:World)(hx:x.path.size<4294967281)(eP:v.count≤20000)(hT:eo w)(hM:kO w)(hv:In w v c):Calls prog 28 #[x.agg,c.agg] w (yP w (cH x.path v)):=by
 have aP:=aa (((ah w).alloc (.cells x.cells 64)).alloc (.cells c.cells 27));have C_:=aa ((aH w 64 x.cells).alloc (.cells c.cells 27));have bf:=aa (df (w:=w.alloc (.cells x.cells 64)) (g:=w.heap.size+1) (by simp) 27 c.cells);have hcell:=bf.o.cell;have HV:=aa hv;have HT:=aa hT;have HM:=aa hM;have HKEY:=aa (J7 v c _ eP (hT.grow aP.o) (hv.grow aP.o));obtain⟨⟨kb,ke⟩,fG⟩:∃r,bt v=r:=⟨_,rfl⟩;rw[fG] at HKEY;have gh:=aa fG;clear hT hv hM fG;go_enter func28,ntmps28;go_wp2_with fail;refine HKEY.o.mono ?_;rintro e w1 ⟨base,Ak,ck,rfl,hbk,F4,hg1⟩;dsimp only at F4 ⊢;have aQ:=aa (bf.o.grow hg1);have Da:=aa (C_.o.grow hg1);have hc1:=aQ.o.cell;have ek:=aQ.o.lt;have hx1:=Da.o.cell;have adp:=Da.o.lt;have aN:=aa (aP.o.trans hg1)
 clear hg1 F4 hbk hcell HKEY;by_cases h0:ke=0
 ·subst h0;have Db:=aa (ack v x.path c w1 (HT.o.grow aN.o) (HM.o.grow aN.o) eP hx (HV.o.grow aN.o));go_wp2_with fail;refine Db.o.mono ?_;rintro e w2 ⟨hg2,cu,t,u,rfl,tI,hres⟩;have HG2:=aa (aN.o.trans hg2);have aG:=aa (aQ.o.grow hg2);have hc2:=aG.o.cell;have hl2:=aG.o.lt;have yN:=aa (show In w2 u cu from iL (fun p y h=>⟨h.1,aS _,h.2.2⟩) u cu tI);have Dc:=aa (aH w2 27 cu.cells);clear tI hc1 ek hx1 adp Db;have OI:=aa (HG2.o.alloc (.cells cu.cells 27));have adq:=aa (aG.o.alloc (.cells cu.cells 27));have hcb:=adq.o.cell;have Az:=Dc.o.cell;rcases hres with ⟨hp,rfl⟩ | ⟨hp,rfl,rfl,rfl⟩
  ·have HP:=aa hp;obtain⟨i,hi⟩:∃i,jq v=some i:=(ado (v:=v) (by rw[gh.o])).imp fun i h=>h.1
   have HI:=aa hi;have pL:=aa (fun w2 (h:Grow w w2)=>Od v c w w2 h HV.o);rw[hi] at pL;clear hi hp hg2;go_wp2_with fail;refine(pL.o _ OI.o).mono ?_;rintro e w3 ⟨hg3,ci,t3,u3,rfl,tD,F5⟩;obtain⟨hu3,rfl⟩:some i=some u3∧t3=true:=by
    rcases F5 with h | ⟨h,-⟩
    ·exact h
    cases h
   injection hu3 with hu3;subst hu3;clear F5 pL;have aJ:=aa (OI.o.trans hg3);have OJ:=aa (Dc.o.grow hg3);have alM:=OJ.o.cell;have alN:=OJ.o.lt;have Vl:=aa (yN.o.grow (((ah w2).alloc (.cells cu.cells 27)).trans hg3));have yH:=aa (tD.grow aJ.o);have tL:=aa ((ah w3).alloc (.cells ci.cells 27));have yI:=aa (aH w3 27 ci.cells);have alO:=yI.o.cell;have HU4:=aa (OJ.o.alloc (.cells ci.cells 27));have alP:=HU4.o.cell;clear hcb Az hg3 tD hc2 hl2;have HR:=aa (InL.row2 (Vl.o.grow tL.o) (yH.o.grow tL.o));have hR:=yI.o.lt;have F6:=Vk ((w3.alloc (.cells ci.cells 27)).alloc (.cells (cells2 cu ci) 27)) false false;have xe:=((ah ((w3.alloc (.cells ci.cells 27)))).alloc (.cells (cells2 cu ci) 27))
   have Dd:=(xe.trans (ah _)).alloc (.cells #[.bool false,.bool false] 4);have Vm:=V.J5 (a_ (Vj HP.o) eP) Vl.o;have rI:=V.J5 (a_ (FL HI.o) eP) yH.o;have rF:=HR.o.grow ((ah _).alloc (.cells #[.bool false,.bool false] 4));have hal:=acQ [u,i] [false,false] _ _ 2 2 _ (fun y hy=>by
    rcases iw.1 hy with rfl | hy
    ·exact Vm
    rw[uP] at hy;subst hy;exact rI) (HT.o.grow ((aJ.o.trans tL.o).trans Dd)) rF F6 (by simp)
   simp only[dh] at hal;obtain⟨⟨ab,ae⟩,AA⟩:∃r,iX [u,i] [false,false]=r:=⟨_,rfl⟩;rw[AA] at hal;have qw:=aa hal;have Kj:=aa AA;have bz:=aa ((aJ.o.trans tL.o).trans Dd);clear hal AA rF F6 xe Dd Vm rI HR;go_wp2_with fail;refine qw.o.mono ?_;rintro e w4 ⟨base,A4,c4,rfl,hb4,hr4,hg4⟩;dsimp only at hr4 ⊢;have bC:=aa (bz.o.trans hg4);have au:=aa (a_ bz.o.size hb4);have cN:=aa hr4;clear hg4 hb4 hr4;by_cases he:ae=0
   ·subst he;go_wp2_with fail;go_ret3;rw[show cH x.path v=(ab,true,0) by unfold cH;rw[gh.o,ai (by simp),HP.o];simp only[HI.o,ni,Kj.o];rfl];exact⟨base,A4,c4,rfl,au.o,cN.o,bC.o⟩
   go_wp2_with fail;go_ret3;rw[show cH x.path v=([],false,ae) by unfold cH;rw[gh.o,ai (by simp),HP.o];simp only[HI.o,ni,Kj.o];rw[ar he]];exact yP.bad bC.o
  go_wp2_with fail;go_ret3;rw[show cH x.path v=([],false,0) by unfold cH;rw[gh.o,ai (by simp),hp]];exact yP.bad OI.o
 go_wp2_with fail;go_ret3;rw[show cH x.path v=([],false,ke) by unfold cH;rw[gh.o,ar h0]];exact yP.bad aN.o
end
abbrev OL:=@yP.bad
section
open Go.RowKit
def nG(path:ByteArray)(d:V):Option (List UInt8×Int×V):=
 if (cH path d).2.1 then some ((cH path d).1,((cH path d).1.length:Int)-((bK ((jq d).getD V.zero)).1.length:Int),d) else none
def fW(path:ByteArray):List V→Int
 | []=>0
 | d::r=>if (cH path d).2.2≠0 then (cH path d).2.2 else fW path r
def jV(path:ByteArray)(ag:List V):List (List UInt8×Int×V):=ag.filterMap (nG path)
theorem OM{path:ByteArray}:∀{ag:List V},(∀j (h:j<ag.length),(cH path ag[j]).2.2=0)→fW path ag=0
 | [],h=>rfl
 | d::r,h=>by
  rw[fW,ai (by have:=h 0 (by simp);simpa using this)];exact OM fun j hj=>by have:=h (j+1) (by simpa using hj);simpa using this
theorem Kk{path:ByteArray}:∀{ag:List V} {j:Nat} (hj:j<ag.length),(∀i (h:i<ag.length),i<j→(cH path ag[i]).2.2=0)→(cH path ag[j]).2.2≠0→fW path ag=(cH path ag[j]).2.2
 | d::r,0,hj,h,he=>by rw[fW,ar (by simpa using he)];rfl
 | d::r,j+1,hj,h,he=>by
  rw[fW,ai (by have:=h 0 (by simp) (by omega);simpa using this)];exact Kk (ag:=r) (j:=j) (by simpa using hj) (fun i hi hij=>by have:=h (i+1) (by simpa using hi) (by omega);simpa using this) (by simpa using he)
theorem OO{path:ByteArray}{ag:List V}{j:Nat}(hj:j<ag.length):jV path (ag.take (j+1))=jV path (ag.take j)++(nG path ag[j]).toList:=by
 unfold jV;rw[Cm,bN hj,List.filterMap_append]
 cases h:nG path ag[j]<;>simp[h]
end
section
open Go.RowKit
theorem adr(c:Cc)(s:ByteArray)(w:World):Calls prog 163 #[.agg c.cells,.string s] w fun e w'=>e=.returned (.int .i64 (Lib.compareBytes c.nm.data.toList s.data.toList))∧Grow w w':=by
 have HS:=aa (fun w=>ads c.nm s w);have HG:=aa ((ah w).alloc (.cells c.cells 48));go_enter func163,ntmps163;go_wp2_with (go_at_call 97;refine(HS.o _).mono ?_;rintro e w' ⟨rfl,rfl⟩);go_ret;exact⟨rfl,HG.o⟩
theorem adt(v:V)(c:Cv)(k:List UInt8)(K:Option Addr)(kc:Nat)(w:World)(eP:v.count≤20000)(hT:eo w)(hv:In w v c)(hk:ba w K k):Calls prog 167 #[c.agg,.slice K k.length kc] w fun e w'=>e=.returned (.int .i64 (Lib.compareBytes (bt v).1 k))∧Grow w w':=by
 have aP:=aa ((ah w).alloc (.cells c.cells 27));have hcell:=(aH w 27 c.cells).cell;have HKEY:=aa (J7 v c _ eP (hT.grow aP.o) (hv.grow aP.o));have HK:=aa hk;obtain⟨⟨kb,ke⟩,fG⟩:∃r,bt v=r:=⟨_,rfl⟩;rw[fG] at HKEY ⊢;clear hT hv hk fG;go_enter func167,ntmps167;go_wp2_with fail;refine HKEY.o.mono ?_;rintro e w1 ⟨base,A1,c1,rfl,hb1,hr1,hg1⟩;dsimp only at hr1 ⊢;have aN:=aa (aP.o.trans hg1);have HC:=aa (Uc kb k A1 K c1 kc w1 hr1.reads.1 (HK.o.grow aN.o));clear hr1 hg1 hb1 hcell;go_wp2_with fail;refine HC.o.mono ?_;rintro e w2 ⟨rfl,rfl⟩;go_wp2_with fail;go_ret;exact⟨rfl,aN.o⟩
def qx(names:Nat→ByteArray)(s:ByteArray)(j:Nat):Int:=Lib.compareBytes (names j).data.toList s.data.toList
end
section
open Go.RowKit
def vA(ag:List V)(k:List UInt8)(j:Nat):Int:=Lib.compareBytes (bt (ag.getD j V.zero)).1 k
theorem InL.rows{w:World}{A:Option Addr}{cap:Nat}{ag:List V}(h:InL w A cap ag):∃el:Nat→Cv,wN w A 5 ag.length (fun j=>(el j).cells)∧∀j (hj:j<ag.length),In w ag[j] (el j):=by
 have hx:∀j,∃x:Cv,∀hj:j<ag.length,∃bk o,A=some ⟨bk,o,none⟩∧bk<w.heap.size∧(∀i v,x.cells[i]?=some v→w.cell? ⟨bk,o+j*5+i,none⟩=some v)∧In w ag[j] x:=fun j=>by
  by_cases hj:j<ag.length
  ·obtain⟨bk,o,x,ha,hb,e0,e1,e2,e3,e4,hv⟩:=eG.fJ h j hj;refine⟨x,fun _=>⟨bk,o,ha,hb,fun i v hi=>?_,hv⟩⟩;rcases i with _ | _ | _ | _ | _ | i
   ·cases hi;exact e0
   ·cases hi;exact e1
   ·cases hi;exact e2
   ·cases hi;exact e3
   ·cases hi;exact e4
   simp at hi
  exact⟨Cv.zero,fun h=>absurd h hj⟩
 refine⟨fun j=>Classical.choose (hx j),fun j hj=>?_,fun j hj=>?_⟩
 ·obtain⟨bk,o,ha,hb,hc,-⟩:=wH (hx j) hj;exact⟨bk,o,ha,hb,hc⟩
 obtain⟨bk,o,ha,hb,hc,hv⟩:=wH (hx j) hj;exact hv
theorem adu(ag:List V)(pb po cap:Nat)(A:Option Addr)(k:List UInt8)(K:Option Addr)(kc:Nat)(w:World)(eP:∀v∈ag,v.count≤20000)(hlen:ag.length≤140737488355328)(hT:eo w)(hc:w.cell? ⟨pb,po+1,none⟩=some (.slice A ag.length cap))(hpb:pb<w.heap.size)(hd:InL w A cap ag)(hk:ba w K k) :
 Calls prog 120 #[.pointer (some ⟨pb,po,none⟩),.slice K k.length kc] w fun e w'=>e=.returned (.tuple #[.int .i64 (jS (vA ag k) ag.length:Nat),.bool (jB (vA ag k) ag.length)])∧Grow w w':=by
 obtain⟨el,hrow,hin⟩:=hd.rows;have aC:=aa (abr ag.length (vA ag k) el A cap (.slice K k.length kc) w hlen hrow (fun j hj w' hg=>by
  have h:=adt ag[j] (el j) k K kc w' (eP _ (aY hj)) (hT.grow hg) ((hin j hj).grow hg) (hk.grow hg);unfold vA;rw[jN,bN hj,ni];exact h))
 clear hrow hin hd hk hT eP;go_enter func120,ntmps120;go_wp2_with fail;refine aC.o.mono ?_;rintro e w2 ⟨rfl,hg⟩;have HG:=aa hg;clear hg;go_wp2_with fail;go_ret2;exact⟨rfl,HG.o⟩
end
section
open Go.RowKit
structure Co where
 name:ByteArray
 ag:List V
 aq:List Ix
def bX(names:List ByteArray)(s:ByteArray):Nat:=jS (qx (fun j=>names.getD j ⟨#[]⟩) s) names.length
def cQ(names:List ByteArray)(s:ByteArray):Bool:=jB (qx (fun j=>names.getD j ⟨#[]⟩) s) names.length
def iM(ag:List V)(k:List UInt8):Nat:=jS (vA ag k) ag.length
def jg(ag:List V)(k:List UInt8):Bool:=jB (vA ag k) ag.length
abbrev EN:=List UInt8×Int×V
def tM(x:EN):List EN→List EN
 | []=>[x]
 | y::r=>if cD y.1 x.1 then y::tM x r else x::y::r
def xf(l:List EN):List EN:=l.foldl (fun a x=>tM x a) []
def jr(path:ByteArray)(ag:List V):List EN:=if fW path ag=0 then xf (jV path ag) else []
def rJ:List EN→Bool
 | a::b::r=>decide (a.1.take a.2.1.toNat=b.1.take b.2.1.toNat)||rJ (b::r)
 | _=>false
def tN(d:V):List Ix→Int
 | []=>0
 | x::r=>if (cH x.path d).2.2≠0 then (cH x.path d).2.2 else tN d r
def yQ(ag:List V):List Ix→Bool
 | []=>false
 | x::r=>(x.uniq&&rJ (jr x.path ag))||yQ ag r
abbrev ov:=Except Int (List Co×Int×List V)
abbrev bh(st:List Co):List ByteArray:=st.map Co.name
abbrev jF(c:Co):List ByteArray:=c.aq.map Ix.name
def bH(st:List Co)(s:ByteArray):Co:=st.getD (bX (bh st) s) ⟨⟨#[]⟩,[],[]⟩
def cK{α:Type}(l:List α)(i:Nat)(x:α):List α:=l.take i++x::l.drop i
def gj{α:Type}(l:List α)(i:Nat):List α:=l.take i++l.drop (i+1)
def mN(st:List Co)(q:Rq):ov:=
 if V.name q.aD=false then .error 4 else if cQ (bh st) q.aD=true then .error 6 else if 16≤st.length then .error 19 else
 .ok (cK st (bX (bh st) q.aD) ⟨q.aD,[],[]⟩,0,[])
def F7(st:List Co)(q:Rq):ov:=
 if cQ (bh st) q.aD=false then .error 5 else .ok (gj st (bX (bh st) q.aD),0,[])
def fN(ag:List V)(d:V):List V:=
 if jg ag (bt d).1=true then ag.set (iM ag (bt d).1) d else cK ag (iM ag (bt d).1) d
def pM(st:List Co)(q:Rq):ov:=
 if cQ (bh st) q.aD=false then .error 5 else if (bt q.doc).2≠0 then .error (bt q.doc).2 else
 if tN q.doc (bH st q.aD).aq≠0 then .error (tN q.doc (bH st q.aD).aq) else
 if jg (bH st q.aD).ag (bt q.doc).1=true∧q.bp≠3 then .error 6 else
 if yQ (fN (bH st q.aD).ag q.doc) (bH st q.aD).aq=true then .error 13 else
 .ok (st.set (bX (bh st) q.aD) ⟨(bH st q.aD).name,fN (bH st q.aD).ag q.doc,(bH st q.aD).aq⟩,
  if jg (bH st q.aD).ag (bt q.doc).1=true then 1 else 0,[])
def F8(st:List Co)(q:Rq):ov:=
 if cQ (bh st) q.aD=false then .error 5 else if (bK q.key).2≠0 then .error (bK q.key).2 else
 if jg (bH st q.aD).ag (bK q.key).1=false then .error 17 else
 .ok (st.set (bX (bh st) q.aD) ⟨(bH st q.aD).name,gj (bH st q.aD).ag (iM (bH st q.aD).ag (bK q.key).1),(bH st q.aD).aq⟩,
  0,[(bH st q.aD).ag.getD (iM (bH st q.aD).ag (bK q.key).1) V.zero])
def OP(st:List Co)(q:Rq):ov:=
 if cQ (bh st) q.aD=false then .error 5 else if (bK q.key).2≠0 then .error (bK q.key).2 else
 if jg (bH st q.aD).ag (bK q.key).1=false then .error 17 else
 .ok (st,0,[(bH st q.aD).ag.getD (iM (bH st q.aD).ag (bK q.key).1) V.zero])
def F9(st:List Co)(q:Rq):ov:=
 if V.name q.index=false then .error 4 else if 200<q.path.size then .error 2 else if cQ (bh st) q.aD=false then .error 5 else
 if cQ (jF (bH st q.aD)) q.index=true then .error 6 else if 8≤(bH st q.aD).aq.length then .error 19 else
 if fW q.path (bH st q.aD).ag≠0 then .error (fW q.path (bH st q.aD).ag) else
 if q.unique=true∧rJ (jr q.path (bH st q.aD).ag)=true then .error 13 else
 .ok (st.set (bX (bh st) q.aD) ⟨(bH st q.aD).name,(bH st q.aD).ag,cK (bH st q.aD).aq (bX (jF (bH st q.aD)) q.index) ⟨q.index,q.path,q.unique⟩⟩,0,[])
def F_(st:List Co)(q:Rq):ov:=
 if cQ (bh st) q.aD=false then .error 5 else if cQ (jF (bH st q.aD)) q.index=false then .error 5 else
 .ok (st.set (bX (bh st) q.aD) ⟨(bH st q.aD).name,(bH st q.aD).ag,gj (bH st q.aD).aq (bX (jF (bH st q.aD)) q.index)⟩,0,[])
def countP(st:List Co)(q:Rq):ov:=
 if cQ (bh st) q.aD=false then .error 5 else .ok (st,(bH st q.aD).ag.length,[])
def Kl(v:V):Int:=if v.k=0 then 0 else v.good
def Vn(q:Rq)(path:ByteArray)(d:V):V:=if q.index=⟨#[]⟩ then (jq d).getD V.zero else (gB d path).getD V.zero
def OQ(c:Co)(q:Rq):ByteArray:=(c.aq.getD (bX (jF c) q.index) ⟨⟨#[]⟩,⟨#[]⟩,false⟩).path
def Ga(c:Co)(q:Rq):List V:=if q.index=⟨#[]⟩ then c.ag else (jr (OQ c q) c.ag).map fun x=>x.2.2
noncomputable def Km(c:Co)(q:Rq):List V:=((Ga c q).filter fun d=>Vo (Vn q (OQ c q) d) q.low q.high).take q.n.toNat
noncomputable def OS(st:List Co)(q:Rq):ov:=
 if cQ (bh st) q.aD=false then .error 5 else if cQ (jF (bH st q.aD)) q.index=false∧q.index≠⟨#[]⟩ then .error 5 else
 if q.n<1∨64<q.n then .error 1 else if Kl q.low≠0 then .error (Kl q.low) else if Kl q.high≠0 then .error (Kl q.high) else
 .ok (st,((Km (bH st q.aD) q).length:Int),Km (bH st q.aD) q)
noncomputable def kp(st:List Co)(q:Rq):ov:=
 if q.bp=1 then mN st q else if q.bp=2 then F7 st q else if q.bp=3 then pM st q else if q.bp=4 then pM st q else if q.bp=5 then F8 st q else
 if q.bp=6 then OP st q else if q.bp=7 then F9 st q else if q.bp=8 then F_ st q else if q.bp=9 then OS st q else if q.bp=10 then countP st q else .error 1
noncomputable def mO(st:List Co)(q:Rq):List Co×Rp:=
 match kp st q with
 | .error e=>(st,⟨e,0,[],0⟩)
 | .ok (st',n,ag)=>(st',⟨0,n,ag,0⟩)
end
section
open Go.RowKit
section
variable {α:Type} (f:α→List Value) (z:Nat) (hz:∀x,(f x).length=z)
include hz
theorem De:∀(l:List α),((l.map f).flatten).length=l.length*z
 | []=>by simp
 | x::r=>by rw[eW,l5,bD,hz,De r,aU,jM,ng,ES]
theorem tO:∀(l:List α) (j:Nat),((l.map f).flatten).drop (j*z)=((l.drop j).map f).flatten
 | l,0=>by simp
 | [],j+1=>by simp
 | x::r,j+1=>by
  rw[eW,l5,List.drop_succ_cons,← tO r j,jM,ng,ES,← Jm,List.drop_left' (hz x)]
theorem yR:∀(l:List α) (j:Nat),((l.map f).flatten).take (j*z)=((l.take j).map f).flatten
 | l,0=>by simp
 | [],j+1=>by simp
 | x::r,j+1=>by
  have e:(j+1)*z=(f x).length+j*z:=by rw[hz,jM,ng,ES]
  rw[eW,l5,MK,eW,l5,← yR r j,e,List.take_length_add_append]
theorem ow(l:List α)(j i:Nat)(hi:i<z)(x:α)(hj:l[j]?=some x):((l.map f).flatten)[j*z+i]?=(f x)[i]?:=by
 have hjl:j<l.length:=(kE.1 hj).1;have he:l[j]=x:=(kE.1 hj).2;rw[← wC,tO f z hz,yg hjl,eW,l5,Jp (by rw[hz];exact hi),he]
theorem Vp(l:List α)(i:Nat)(x:α):((l.map f).flatten).take (i*z)++f x++((l.map f).flatten).drop (i*z)=((cK l i x).map f).flatten:=by
 rw[yR f z hz,tO f z hz,cK,lZ,zP,eW,l5,mE]
theorem Vq(l:List α)(i:Nat)(x:α)(h:i<l.length):((l.map f).flatten).take (i*z)++f x++((l.map f).flatten).drop ((i+1)*z)=((l.set i x).map f).flatten:=by
 rw[yR f z hz,tO f z hz,M0,ar h,lZ,zP,eW,l5,mE]
end
def Two{α β:Type}(R:α→β→Prop)(l:List α)(m:List β):Prop:=l.length=m.length∧∀(j:Nat) a b,l[j]?=some a→m[j]?=some b→R a b
namespace Two
variable {α β:Type} {R:α→β→Prop} {l:List α} {m:List β}
theorem mono{R':α→β→Prop}(h:Two R l m)(hR:∀a b,R a b→R' a b):Two R' l m:=⟨h.1,fun j a b ha hb=>hR a b (h.2 j a b ha hb)⟩
theorem nil:Two R [] []:=⟨rfl,fun j a b ha=>by simp at ha⟩
theorem take(h:Two R l m)(i:Nat):Two R (l.take i) (m.take i):=⟨by rw[eD,eD,h.1],fun j a b ha hb=>by
 rw[Cn] at ha hb;split at ha
 ·rw[ar ‹_›] at hb;exact h.2 j a b ha hb
 cases ha⟩
theorem drop(h:Two R l m)(i:Nat):Two R (l.drop i) (m.drop i):=⟨by rw[iI,iI,h.1],fun j a b ha hb=>by
 rw[wC] at ha hb;exact h.2 _ a b ha hb⟩
theorem append{l':List α}{m':List β}(h:Two R l m)(k:Two R l' m'):Two R (l++l') (m++m'):=⟨by rw[bD,bD,h.1,k.1],fun j a b ha hb=>by
 by_cases hj:j<l.length
 ·rw[Jp hj] at ha;rw[Jp (by rw[← h.1];exact hj)] at hb;exact h.2 j a b ha hb
 rw[MQ (by omega)] at ha;rw[MQ (by rw[← h.1];omega),← h.1] at hb;exact k.2 _ a b ha hb⟩
theorem cons{a:α}{b:β}(h:R a b)(k:Two R l m):Two R (a::l) (b::m):=⟨by rw[aU,aU,k.1],fun j x y ha hb=>by
 rcases j with _ | j
 ·simp at ha hb;rw[← ha,← hb];exact h
 exact k.2 j x y (by simpa using ha) (by simpa using hb)⟩
theorem one{a:α}{b:β}(h:R a b):Two R [a] [b]:=cons h nil
theorem del(h:Two R l m)(i:Nat):Two R (gj l i) (gj m i):=(h.take i).append (h.drop (i+1))
theorem ins(h:Two R l m)(i:Nat){a:α}{b:β}(k:R a b):Two R (cK l i a) (cK m i b):=(h.take i).append (cons k (h.drop i))
theorem set(h:Two R l m)(i:Nat){a:α}{b:β}(k:R a b):Two R (l.set i a) (m.set i b):=⟨by rw[j5,j5,h.1],fun j x y ha hb=>by
 rw[List.getElem?_set] at ha hb;split at ha
 ·rename_i hij;rw[ar hij] at hb;split at ha
  ·split at hb
   ·cases ha;cases hb;exact k
   cases hb
  cases ha
 rw[ai ‹_›] at hb;exact h.2 j x y ha hb⟩
theorem set'(hl:l.length=m.length)(i:Nat){a:α}{b:β}(h:∀(j:Nat) x y,j≠i→l[j]?=some x→m[j]?=some y→R x y)(k:R a b):Two R (l.set i a) (m.set i b):=⟨by rw[j5,j5,hl],fun j x y ha hb=>by
 rw[List.getElem?_set] at ha hb;split at ha
 ·rename_i hij;rw[ar hij] at hb;split at ha
  ·split at hb
   ·cases ha;cases hb;exact k
   cases hb
  cases ha
 rename_i hij;rw[ai hij] at hb;exact h j x y (fun e=>hij e.symm) ha hb⟩
theorem at_(h:Two R l m){j:Nat}(hj:j<l.length)(hj':j<m.length):R l[j] m[j]:=h.2 j _ _ (bN hj) (bN hj')
end Two
abbrev Cc.zero:Cc:=⟨⟨#[]⟩,none,0,0,none,0,0⟩
def dw(es:List Cc):List Value:=(es.map fun e=>e.cells.toList).flatten
def gm(xs:List Ix):List Value:=(xs.map fun x=>x.cells.toList).flatten
def fD(cs:List Cv):List Value:=(cs.map fun c=>c.cells.toList).flatten
theorem Vr(es:List Cc):(dw es).length=es.length*3:=De _ 3 (fun _=>rfl) es
theorem adv(es:List Cv):(fD es).length=es.length*5:=De _ 5 (fun _=>rfl) es
theorem Df(es:List Cc):∀v∈dw es,v.oneCell'=true:=by
 intro v hv;simp only[dw,EX,jx] at hv;obtain⟨_,⟨e,_,rfl⟩,h⟩:=hv;simp at h;rcases h with rfl | rfl | rfl<;>rfl
theorem Dg(es:List Ix):∀v∈gm es,v.oneCell'=true:=by
 intro v hv;simp only[gm,EX,jx] at hv;obtain⟨_,⟨e,_,rfl⟩,h⟩:=hv;simp at h;rcases h with rfl | rfl | rfl<;>rfl
theorem Dh(es:List Cv):∀v∈fD es,v.oneCell'=true:=by
 intro v hv;simp only[fD,EX,jx] at hv;obtain⟨_,⟨e,_,rfl⟩,h⟩:=hv;simp at h;rcases h with rfl | rfl | rfl | rfl | rfl<;>rfl
def fp(w:World)(S:Nat→Prop)(p:Addr)(u:Value):Prop:=w.cell? p=some u∧p.block<w.heap.size∧¬ S p.block
theorem fp.kept{S T:Nat→Prop}{w w':World}(hk:Kept T w w')(hs:∀q,T q→S q)(p:Addr)(u:Value)(h:fp w S p u):fp w' S p u:=
 ⟨(uQ (hk.block p.block h.2.1 (fun ht=>h.2.2 (hs _ ht)))).trans h.1,cU h.2.1 hk.size,h.2.2⟩
theorem fp.CY{S:Nat→Prop}{w:World}(p:Addr)(u:Value)(h:fp w S p u):bE w 0 w.heap.size p u:=⟨h.1,aS _,h.2.1⟩
theorem fp.sub{S T:Nat→Prop}{w:World}(hs:∀q,T q→S q)(p:Addr)(u:Value)(h:fp w S p u):fp w T p u:=⟨h.1,h.2.1,fun ht=>h.2.2 (hs _ ht)⟩
theorem fp.OT{S:Nat→Prop}{w:World}{lo hi:Nat}(hh:hi≤w.heap.size)(hs:∀q,S q→q<lo∨hi≤q)(p:Addr)(u:Value)(h:bE w lo hi p u):fp w S p u:=
 ⟨h.1,cU h.2.2 hh,fun hq=>by have h1:=h.2.1;have h2:=h.2.2;rcases hs _ hq with e | e<;>omega⟩
def kq(w:World)(A:Option Addr)(xs:List Ix):Prop:=Reads (bE w 0 w.heap.size) 3 A xs.length (gm xs)
theorem kq.grow{w w':World}{A:Option Addr}{xs:List Ix}(h:kq w A xs)(hg:Grow w w'):kq w' A xs:=dW (eO hg.below (av _) (av _) hg.size) h
structure vB (C:Addr→Value→Prop) (e:Cc) (c:Co):Prop where
 nm:e.nm=c.name
 dn:e.dn=c.ag.length
 xn:e.xn=c.aq.length
 xc:c.aq.length≤e.xc
 ag:IsV C (.mk 7 0 [] c.ag []) (kf e.dA c.ag.length e.dc)
 aq:Reads C 3 e.xA c.aq.length (gm c.aq)
theorem vB.mono{C C':Addr→Value→Prop}(h:∀p u,C p u→C' p u){e:Cc}{c:Co}(k:vB C e c):vB C' e c:=⟨k.nm,k.dn,k.xn,k.xc,k.ag.mono h,k.aq.mono h⟩
abbrev rK(w:World)(e:Cc)(c:Co):Prop:=vB (bE w 0 w.heap.size) e c
def dR(w:World)(A:Option Addr)(cap:Nat)(st:List Co):Prop:=
 st.length≤cap∧∃es,Two (rK w) es st∧Reads (bE w 0 w.heap.size) 3 A st.length (dw es)
theorem dR.grow{w w':World}{A:Option Addr}{cap:Nat}{st:List Co}(h:dR w A cap st)(hg:Grow w w'):dR w' A cap st:=by
 obtain⟨hc,es,h1,h2⟩:=h;have hm:=eO hg.below (av 0) (av _) hg.size;exact⟨hc,es,h1.mono fun a b k=>k.mono hm,h2.mono hm⟩
theorem dR.nil(w:World):dR w none 0 []:=⟨av _,[],Two.nil,⟨rfl,fun h=>by simp at h⟩⟩
abbrev bM(A:Option Addr):Option Nat:=A.map (·.block)
structure iY (w:World) (B:Nat) (e:Cc) (c:Co):Prop where
 nm:e.nm=c.name
 dn:e.dn=c.ag.length
 xn:e.xn=c.aq.length
 ag:∃cs:List Cv,w.ownsRow B 27 5 (.slice e.dA c.ag.length e.dc) c.ag.length (fD cs)∧Two (fun v c=>eG w B v c) c.ag cs
 aq:w.ownsRow B 64 3 (.slice e.xA c.aq.length e.xc) c.aq.length (gm c.aq)
structure Own (w:World) (B:Nat) (A:Option Addr) (cap:Nat) (es:List Cc) (st:List Co):Prop where
 row:w.ownsRow B 48 3 (.slice A st.length cap) st.length (dw es)
 two:Two (iY w B) es st
 Gb:∀(i j:Nat) (a b:Cc),es[i]?=some a→es[j]?=some b→i≠j→∀g,bM a.dA=some g→bM b.dA≠some g
 Gc:∀(i j:Nat) (a b:Cc),es[i]?=some a→es[j]?=some b→i≠j→∀g,bM a.xA=some g→bM b.xA≠some g
theorem cE(A:Option Addr)(n c:Nat):Value.ownBlock (.slice A n c)=bM A:=by cases A<;>rfl
theorem gD{S:Nat→Prop}{w w':World}{B:Nat}{T:TypeId}{z n c:Nat}{A:Option Addr}{xs:List Value}(h:w.ownsRow B T z (.slice A n c) n xs)(hk:Kept S w w')(hs:∀g,bM A=some g→¬ S g):w'.ownsRow B T z (.slice A n c) n xs:=by
 refine⟨h.1,?_⟩;rcases h.2 with hn | ⟨g,cap,cur,e,hb,hgg,rest⟩
 ·exact .inl hn
 refine .inr ⟨g,cap,cur,e,hb,?_,rest⟩;injection e with e1 e2 e3;rw[hk.block g (pn.1 hgg).1 (hs g (by rw[e1];rfl))];exact hgg
theorem kr{w w':World}{B:Nat}{T:TypeId}{z n c:Nat}{A:Option Addr}{xs:List Value}(h:w.ownsRow B T z (.slice A n c) n xs)(hg:Grow w w'):w'.ownsRow B T z (.slice A n c) n xs:=
 gD h (jh (S:=fun _=>False) hg) (fun _ _ h=>h)
theorem ku{S:Nat→Prop}{w:World}{B:Nat}{T:TypeId}{z n c:Nat}{A:Option Addr}{xs:List Value}(h:w.ownsRow B T z (.slice A n c) n xs)(hs:∀g,bM A=some g→¬ S g):Reads (fp w S) z A n xs:=by
 refine⟨h.1,fun hn=>?_⟩;obtain⟨g,cur,e,hb,hg,-,-,-,ht,-⟩:=mP h hn;exact⟨g,0,e,fun j u hu=>by rw[dg];exact⟨vC hg ht j u hu,(pn.1 hg).1,hs g (by rw[e];rfl)⟩⟩
theorem nH{w:World}{B:Nat}{T:TypeId}{z n c:Nat}{A:Option Addr}{xs:List Value}(h:w.ownsRow B T z (.slice A n c) n xs):n≤c∧c≤maxLen:=by
 rcases h.2 with ⟨e,hn⟩ | ⟨g,cap,cur,e,hb,hgg,h1,h2,-⟩
 ·injection e with e1 e2 e3;subst hn;exact⟨aS _,by rw[e3];exact aS _⟩
 injection e with e1 e2 e3;rw[e3];exact⟨h1,h2⟩
theorem OU{C:Addr→Value→Prop}{A:Option Addr}{ag:List V}{cs:List Cv}{cap:Nat}(h:Reads C 5 A ag.length (fD cs))(ht:Two (fun v c=>IsV C v c) ag cs)(hc:ag.length≤cap)(hl:ag.length≤140737488355328) :
 IsV C (.mk 7 0 [] ag []) (kf A ag.length cap):=by
 rw[IsV];refine⟨rfl,rfl,rfl,rfl,rfl,by decide,by decide,by decide,by simp,by simp,hc,hl,by simp,by simp,⟨rfl,fun h=>by simp at h⟩,fun i hi=>?_,fun i hi=>by simp at hi⟩;have hic:i<cs.length:=by rw[← ht.1];exact hi
 obtain⟨bk,o,ha,hcell⟩:=h.2 (by omega);have hg:∀k,k<5→(fD cs)[i*5+k]?=cs[i].cells.toList[k]?:=fun k hk=>ow _ 5 (fun _=>rfl) cs i k hk cs[i] (bN hic)
 refine⟨bk,o,cs[i],ha,⟨?_,?_,?_,?_,?_⟩,ht.at_ hi hic⟩
 ·have:=hcell (i*5+0) _ (hg 0 (by omega));rwa [fF] at this
 ·have:=hcell (i*5+1) _ (hg 1 (by omega));rwa [← lh] at this
 ·have:=hcell (i*5+2) _ (hg 2 (by omega));rwa [← lh] at this
 ·have:=hcell (i*5+3) _ (hg 3 (by omega));rwa [← lh] at this
 have:=hcell (i*5+4) _ (hg 4 (by omega));rwa [← lh] at this
theorem eG.Vs{S:Nat→Prop}{w:World}{B:Nat}{v:V}{c:Cv}(h:eG w B v c)(hB:B≤w.heap.size)(hs:∀q,S q→B≤q):IsV (fp w S) v c:=iL (fp.OT hB (fun q hq=>.inr (hs q hq))) v c h
theorem eG.keep{S:Nat→Prop}{w w':World}{B:Nat}{v:V}{c:Cv}(h:eG w B v c)(hk:Kept S w w')(hB:B≤w.heap.size)(hs:∀q,S q→B≤q):eG w' B v c:=h.below (hk.below hB hs) (av _) (av _)
theorem iY.r{S:Nat→Prop}{w:World}{B:Nat}{e:Cc}{c:Co}(h:iY w B e c)(hB:B≤w.heap.size)(hs:∀q,S q→B≤q)(hd:∀g,bM e.dA=some g→¬ S g)(hx:∀g,bM e.xA=some g→¬ S g)(hl:c.ag.length≤140737488355328):vB (fp w S) e c:=by
 obtain⟨cs,h1,h2⟩:=h.ag;exact⟨h.nm,h.dn,h.xn,(nH h.aq).1,OU (ku h1 hd) (h2.mono fun v c hv=>hv.Vs hB hs) (nH h1).1 hl,ku h.aq hx⟩
theorem iY.keep{S:Nat→Prop}{w w':World}{B:Nat}{e:Cc}{c:Co}(h:iY w B e c)(hk:Kept S w w')(hB:B≤w.heap.size)(hs:∀q,S q→B≤q)(hd:∀g,bM e.dA=some g→¬ S g)(hx:∀g,bM e.xA=some g→¬ S g):iY w' B e c:=by
 obtain⟨cs,h1,h2⟩:=h.ag;exact⟨h.nm,h.dn,h.xn,⟨cs,gD h1 hk hd,h2.mono fun v c hv=>hv.keep hk hB hs⟩,gD h.aq hk hx⟩
theorem Own.grow{w w':World}{B:Nat}{A:Option Addr}{cap:Nat}{es:List Cc}{st:List Co}(h:Own w B A cap es st)(hB:B≤w.heap.size)(hg:Grow w w'):Own w' B A cap es st:=
 ⟨kr h.row hg,h.two.mono fun a b k=>k.keep (jh (S:=fun _=>False) hg) hB (fun _ h=>h.elim) (fun _ _ h=>h) (fun _ _ h=>h),h.Gb,h.Gc⟩
theorem Di{w:World}{B B':Nat}{T T':TypeId}{z z' n n' c c':Nat}{A A':Option Addr}{xs xs':List Value}(h:w.ownsRow B T z (.slice A n c) n xs)(k:w.ownsRow B' T' z' (.slice A' n' c') n' xs')(ht:T≠T'):∀g,bM A=some g→bM A'≠some g:=by
 intro g h1 h2;rcases h.2 with ⟨e,-⟩ | ⟨g1,_,cur,e,-,hg,-⟩
 ·injection e with e1;rw[e1] at h1;cases h1
 rcases k.2 with ⟨e',-⟩ | ⟨g2,_,cur',e',-,hg',-⟩
 ·injection e' with e1;rw[e1] at h2;cases h2
 injection e with e1;injection e' with e2;rw[e1] at h1;rw[e2] at h2
 cases h1;cases h2
 rw[hg] at hg';injection hg' with hg';injection hg' with _ hT _;exact ht hT
theorem fH{w:World}{B:Nat}{T T':TypeId}{z n c mb:Nat}{A:Option Addr}{xs:List Value}{cs:Array Value}(h:w.ownsRow B T z (.slice A n c) n xs)(k:Blk w mb T' cs)(ht:T≠T'):bM A≠some mb:=by
 intro h1;rcases h.2 with ⟨e,-⟩ | ⟨g1,_,cur,e,-,hg,-⟩
 ·injection e with e1;rw[e1] at h1;cases h1
 injection e with e1;rw[e1] at h1
 cases h1
 rw[show w.heap[_]?=_ from k] at hg;injection hg with hg;injection hg with _ hT _;exact ht hT.symm
theorem OV{w:World}{B n c gb i k:Nat}{es:List Cc}{e':Cc}{v:Value}(h:w.ownsRow B 48 3 (.slice (some ⟨gb,0,none⟩) n c) n (dw es))(hi:i<es.length)(hn:es.length=n)(hk:k<3)(he:e'.cells.toList=es[i].cells.toList.set k v) :
 (w.setCell ⟨gb,i*3+k,none⟩ v).ownsRow B 48 3 (.slice (some ⟨gb,0,none⟩) n c) n (dw (es.set i e')):=by
 obtain⟨g,cur,e,hb,hg,h1,h2,h3,h4,h5⟩:=mP h (by omega)
 cases e
 have hsz:(w.setCell ⟨gb,i*3+k,none⟩ v).heap[gb]?=some (.cells (cur.setIfInBounds (i*3+k) v) 48 (0,0)):=Blk.bg hg _ v;have hlen:(dw (es.set i e')).length=n*3:=by rw[Vr,j5,hn]
 refine Gd hb hsz h1 h2 (by rw[Array.size_setIfInBounds,h3]) ?_ hlen;rw[Array.toList_setIfInBounds,List.take_set,h4,dw,dw,← Vq _ 3 (fun _=>rfl) es i e' hi,he];have hes:(es.map fun e=>e.cells.toList).flatten=((es.map fun e=>e.cells.toList).flatten).take (i*3)++(es[i].cells.toList++((es.map fun e=>e.cells.toList).flatten).drop ((i+1)*3)):=by
  conv=>lhs;rw[← pU (i*3) ((es.map fun e=>e.cells.toList).flatten)]
  congr 1;have d1:=tO (fun e:Cc=>e.cells.toList) 3 (fun _=>rfl) es i;have d2:=tO (fun e:Cc=>e.cells.toList) 3 (fun _=>rfl) es (i+1);rw[yg hi,eW,l5] at d1;rw[d1,d2]
 have hlt:(((es.map fun e=>e.cells.toList).flatten).take (i*3)).length=i*3:=by
  rw[eD,De _ 3 (fun _=>rfl)];omega
 conv=>lhs;rw[hes]
 rw[MW _ _ (by rw[hlt];omega),hlt,show i*3+k-i*3=k by omega,List.set_append_left _ _ (by simp;omega),mE]
end
abbrev jW:=@fp.CY
abbrev xg:=@fp.kept
section
open Go.RowKit Go.Shelf
theorem adw:∀(a b:List UInt8),Lib.compareBytes a b=-1∨Lib.compareBytes a b=0∨Lib.compareBytes a b=1:=fun a b=>by
 fun_induction Lib.compareBytes a b<;>simp_all
theorem Vt:∀(a b c:List UInt8),Lib.compareBytes a b≤0→Lib.compareBytes b c≤0→Lib.compareBytes a c≤0∧(Lib.compareBytes a b<0→Lib.compareBytes a c<0)
 | [],[],c,_,h=>⟨h,fun h=>by simp[Lib.compareBytes] at h⟩
 | [],_::_,[],_,h=>by simp[Lib.compareBytes] at h
 | [],_::_,_::_,_,_=>by simp[Lib.compareBytes]
 | _::_,[],_,h,_=>by simp[Lib.compareBytes] at h
 | _::_,_::_,[],_,h=>by simp[Lib.compareBytes] at h
 | x::a,y::b,z::c,h,k=>by
  rw[Lib.compareBytes] at h k ⊢;simp only[zV] at h k ⊢;rw[Lib.compareBytes];simp only[zV];by_cases h1:x.toNat<y.toNat
  ·by_cases k1:y.toNat<z.toNat
   ·rw[ar (show x.toNat<z.toNat by omega)];exact⟨by decide,fun _=>by decide⟩
   rw[ai k1] at k;by_cases k2:z.toNat<y.toNat
   ·rw[ar k2] at k;exact absurd k (by decide)
   rw[ar (show x.toNat<z.toNat by omega)];exact⟨by decide,fun _=>by decide⟩
  rw[ai h1] at h ⊢;by_cases h2:y.toNat<x.toNat
  ·rw[ar h2] at h;exact absurd h (by decide)
  rw[ai h2] at h ⊢;by_cases k1:y.toNat<z.toNat
  ·rw[ar (show x.toNat<z.toNat by omega)];exact⟨by decide,fun _=>by decide⟩
  rw[ai k1] at k;by_cases k2:z.toNat<y.toNat
  ·rw[ar k2] at k;exact absurd k (by decide)
  rw[ai k2] at k;rw[ai (show ¬ x.toNat<z.toNat by omega),ai (show ¬ z.toNat<x.toNat by omega)];exact Vt a b c h k
structure Fine (u:V):Prop where
 formed:u.formed=true
 fit:u.fit
namespace V
theorem adx{u v:V}(hu:Fine u)(hv:Fine v):cmp u v=Lib.compareBytes u.key v.key:=by
 rcases Ge u v hu.formed hu.fit hv.formed hv.fit with ⟨rfl,h⟩ | h
 ·rw[h,Gf]
 exact h.cmp.symm
theorem OW{u v:V}(hu:Fine u)(hv:Fine v):cmp u v=0↔u=v:=by
 rcases Ge u v hu.formed hu.fit hv.formed hv.fit with ⟨rfl,h⟩ | h
 ·exact⟨fun _=>rfl,fun _=>h⟩
 exact⟨fun e=>absurd e h.xh,fun e=>by subst e;exact h.irrefl.elim⟩
theorem Vu{u v:V}(hu:Fine u)(hv:Fine v):cmp v u=-(cmp u v):=by
 rcases Ge u v hu.formed hu.fit hv.formed hv.fit with ⟨rfl,h⟩ | h
 ·rw[h];rfl
 rcases Ge v u hv.formed hv.fit hu.formed hu.fit with ⟨rfl,h'⟩ | h'
 ·exact h.irrefl.elim
 exact h'.uniq h.swap
end V
namespace V
structure Keyed (v:V):Prop extends Fine v where
 good:v.good=0
 short:v.key.length≤96
theorem Keyed.of{v:V}(h:(bK v).2=0)(hf:v.fit):Keyed v:=by
 obtain⟨h1,h2⟩:=FJ h;exact⟨⟨(ady h1).1,hf⟩,h1,h2⟩
theorem Keyed.bK{v:V}(h:Keyed v):bK v=(v.key,0):=by
 have:=h.short;unfold Proofs.YtndjopkdbdcmdaaGreatDoor.bK;rw[ai (by rw[h.good];simp),ai (by omega)]
def Dj(t:Bool)(c:Int):Int:=if t=true then -c else c
theorem Vv(t:Bool){u v:V}(hu:Fine u)(hv:Fine v):(u=v∧cmp u v=0)∨Diff (Dj t (cmp u v)) (flip t u.key) (flip t v.key):=by
 rcases Ge u v hu.formed hu.fit hv.formed hv.fit with h | h
 ·exact .inl h
 right;unfold flip Dj
 cases t
 ·exact h
 exact h.flip
theorem adz(s t:Bool){a b c d:V}(ha:Fine a)(hb:Fine b)(hc:Fine c)(hd:Fine d) :
 Lib.compareBytes (flip s a.key++flip t b.key) (flip s c.key++flip t d.key)=eJ (Dj s (cmp a c)) (Dj t (cmp b d)):=by
 have h0:∀s,Dj s 0=0:=by intro s;cases s<;>rfl
 rcases Vv s ha hc with ⟨rfl,h⟩ | h
 ·rw[h,h0,kK,Dk];rcases Vv t hb hd with ⟨rfl,h⟩ | h
  ·rw[h,h0,Gf]
  exact h.cmp
 rw[qi _ h.xh];exact(h.right _ _).cmp
end V
end
section
open Go.RowKit
theorem OX{cf:Nat→Int}{n p:Nat}(h1:∀j,j<p→cf j<0)(h2:∀j,p≤j→j<n→0≤cf j):∀(g i j:Nat),j-i≤g→i≤p→p≤j→j≤n→gX cf g i j=p
 | 0,i,j,hg,hi,hj,hn=>by rw[gX];omega
 | g+1,i,j,hg,hi,hj,hn=>by
  rw[gX];split
  ·rename_i hij;split
   ·rename_i hc;have hp:(i+j) / 2<p:=by
     rcases dH ((i+j) / 2) p with h | h
     ·exact h
     have:=h2 _ h (by omega);omega
    exact OX h1 h2 g _ j (by omega) (by omega) hj hn
   rename_i hc;have hp:p≤(i+j) / 2:=by
    rcases dH ((i+j) / 2) p with h | h
    ·exact absurd (h1 _ h) hc
    exact h
   exact OX h1 h2 g i _ (by omega) hi hp (by omega)
  omega
theorem adA{cf:Nat→Int}{n p:Nat}(hp:p≤n)(h1:∀j,j<p→cf j<0)(h2:∀j,p≤j→j<n→0≤cf j):jS cf n=p:=OX h1 h2 n 0 n (by omega) (aS _) hp (av _)
theorem OY{cf cg:Nat→Int}{n:Nat}(h:∀j,j<n→cf j=cg j):∀(g i j:Nat),j≤n→gX cf g i j=gX cg g i j
 | 0,i,j,hj=>rfl
 | g+1,i,j,hj=>by
  rw[gX,gX];split
  ·rw[h _ (by omega),OY h g _ j hj,OY h g i _ (by omega)]
  rfl
theorem OZ{cf cg:Nat→Int}{n:Nat}(h:∀j,j<n→cf j=cg j):jS cf n=jS cg n:=OY h n 0 n (av _)
theorem Vw{cf cg:Nat→Int}{n:Nat}(h:∀j,j<n→cf j=cg j):jB cf n=jB cg n:=by
 unfold jB;rw[OZ h];by_cases hn:jS cg n<n
 ·rw[h _ hn]
 simp[hn]
theorem adB{a b:List UInt8}(h:cD a b=true):cD b a=false:=by
 rcases uU (cD b a) with k | k
 ·have:=vD a b a h k;rw[tP] at this;cases this
 exact k
theorem O0{a b:List UInt8}:cD a b=true↔Lib.compareBytes a b<0:=by simp[cD]
theorem Gg{a b:List UInt8}:Lib.compareBytes a b=0↔a=b:=by
 constructor
 ·intro h;refine Dl a b (by simp[cD,h]) ?_;rcases uU (cD b a) with k | k
  ·rw[O0] at k;have:=(Vt b a b (by omega) (by omega)).2 k;have h2:=tP b;simp[cD] at h2;omega
  exact k
 rintro rfl;have h:=tP a;rcases adw a a with e | e | e
 ·simp[cD,e] at h
 ·exact e
 exfalso
 induction a with
 | nil=>simp[Lib.compareBytes] at e
 | cons x a ih=>rw[Lib.compareBytes] at e;simp at e;exact ih (tP a) e
def eQ(l:List (List UInt8)):Prop:=l.Pairwise fun a b=>cD a b=true
def eI(keys:List (List UInt8))(k:List UInt8):Nat:=keys.countP fun x=>cD x k
def kN(keys:List (List UInt8))(k:List UInt8):Nat:=jS (fun j=>Lib.compareBytes (keys.getD j []) k) keys.length
def kF(keys:List (List UInt8))(k:List UInt8):Bool:=jB (fun j=>Lib.compareBytes (keys.getD j []) k) keys.length
theorem eQ.lt{l:List (List UInt8)}(h:eQ l){i j:Nat}(hij:i<j)(hj:j<l.length):cD (l[i]'(by omega)) l[j]=true:=(Cq.1 h) i j (by omega) hj hij
theorem O1(keys:List (List UInt8))(k:List UInt8):eI keys k≤keys.length:=List.countP_le_length
theorem AE:∀{keys:List (List UInt8)} {k:List UInt8},eQ keys→∀{j:Nat} (hj:j<keys.length),j<eI keys k↔cD keys[j] k=true
 | [],k,h,j,hj=>by simp at hj
 | x::r,k,h,j,hj=>by
  have hr:eQ r:=(jz.1 h).2;have hx:=(jz.1 h).1;by_cases hxk:cD x k=true
  ·have e:eI (x::r) k=eI r k+1:=by unfold eI;rw[List.countP_cons_of_pos (by simpa using hxk)]
   rw[e];rcases j with _ | j
   ·simp[hxk]
   have:=AE (k:=k) hr (j:=j) (by simpa using hj);simp only[EL];rw[← this];omega
  have e:eI (x::r) k=0:=by
   unfold eI;rw[List.countP_eq_zero];intro y hy hyk;rcases iw.1 hy with rfl | hy
   ·exact hxk hyk
   exact hxk (vD x y k (hx y hy) hyk)
  rw[e];constructor
  ·intro h0;omega
  intro h0;exfalso;have:(x::r)[j]∈x::r:=aY _;rcases iw.1 this with e1 | e1
  ·rw[e1] at h0;exact hxk h0
  exact hxk (vD _ _ _ (hx _ e1) h0)
theorem Gh{keys:List (List UInt8)}{k:List UInt8}(h:eQ keys):kN keys k=eI keys k:=by
 refine adA (O1 _ _) (fun j hj=>?_) (fun j hj hn=>?_)
 ·have hl:j<keys.length:=cU hj (O1 _ _);rw[jN,bN hl,ni];exact O0.1 ((AE h hl).1 hj)
 rw[jN,bN hn,ni];have:¬ cD keys[j] k=true:=fun hc=>by have:=(AE h hn).2 hc;omega
 rw[O0] at this;omega
theorem Kn{keys:List (List UInt8)}{k:List UInt8}(h:eQ keys):kF keys k=true↔k∈keys:=by
 unfold kF jB;rw[show jS (fun j=>Lib.compareBytes (keys.getD j []) k) keys.length=eI keys k from Gh h];simp only[gV,iy,EF];constructor
 ·rintro⟨h1,h2⟩;rw[jN,bN h1,ni,Gg] at h2;rw[← h2];exact aY _
 intro hm;obtain⟨j,hj,e⟩:=kH hm;have hle:eI keys k=j:=by
  have h1:¬ j<eI keys k:=fun hc=>by have:=(AE h hj).1 hc;rw[e,tP] at this;cases this
  rcases dH (eI keys k) j with h2 | h2
  ·have h3:cD (keys[eI keys k]'(by omega)) k=true:=by have h4:=h.lt h2 hj;rwa [e] at h4
   have:=(AE h (by omega)).2 h3;omega
  omega
 rw[hle];refine⟨hj,?_⟩;rw[jN,bN hj,ni,e,Gg]
theorem O3{keys:List (List UInt8)}{k:List UInt8}(h:kF keys k=true):keys[kN keys k]?=some k:=by
 unfold kF jB at h;simp only[gV,iy,EF] at h;obtain⟨h1,h2⟩:=h;unfold kN;rw[jN,bN h1,ni,Gg] at h2;rw[bN h1,h2]
abbrev gF(names:List ByteArray):List (List UInt8):=names.map fun s=>s.data.toList
theorem Vx(names:List ByteArray)(j:Nat):(names.getD j ⟨#[]⟩).data.toList=(gF names).getD j []:=by
 rw[jN,jN,qX]
 cases names[j]?<;>rfl
theorem Gi(names:List ByteArray)(s:ByteArray):bX names s=kN (gF names) s.data.toList:=by
 unfold bX kN qx;rw[cY];exact OZ fun j _=>by rw[Vx]
theorem Vy(names:List ByteArray)(s:ByteArray):cQ names s=kF (gF names) s.data.toList:=by
 unfold cQ kF qx;rw[cY];exact Vw fun j _=>by rw[Vx]
abbrev iZ(ag:List V):List (List UInt8):=ag.map fun d=>(bt d).1
theorem Vz(ag:List V){j:Nat}(h:j<ag.length):(bt (ag.getD j V.zero)).1=(iZ ag).getD j []:=by
 rw[jN,jN,qX,bN h];rfl
theorem Ko(ag:List V)(k:List UInt8):iM ag k=kN (iZ ag) k:=by
 unfold iM kN;rw[cY];exact OZ fun j h=>by unfold vA;rw[Vz ag h]
theorem Gj(ag:List V)(k:List UInt8):jg ag k=kF (iZ ag) k:=by
 unfold jg kF;rw[cY];exact Vw fun j h=>by unfold vA;rw[Vz ag h]
theorem VA{a b:ByteArray}(h:a.data.toList=b.data.toList):a=b:=by
 cases a;cases b;simp only[ByteArray.mk.injEq];exact Array.toList_inj.1 h
theorem O4{names:List ByteArray}{s:ByteArray}:s.data.toList∈gF names↔s∈names:=by
 rw[jx];constructor
 ·rintro⟨x,hx,e⟩;rw[← VA e];exact hx
 intro h;exact⟨s,h,rfl⟩
theorem Kp{names:List ByteArray}(h:eQ (gF names))(s:ByteArray):cQ names s=true↔s∈names:=by rw[Vy,Kn h,O4]
theorem O5{names:List ByteArray}{s:ByteArray}(h:cQ names s=true):names[bX names s]?=some s:=by
 rw[Vy] at h;have:=O3 h;rw[← Gi,qX] at this
 cases hx:names[bX names s]? with
 | none=>rw[hx] at this;cases this
 | some y=>rw[hx] at this;injection this with this;rw[VA this]
theorem Kq{names:List ByteArray}{s:ByteArray}(h:cQ names s=true):bX names s<names.length:=(kE.1 (O5 h)).1
theorem O6(names:List ByteArray)(s:ByteArray):bX names s≤names.length:=JL _ _
theorem VB(ag:List V)(k:List UInt8):iM ag k≤ag.length:=JL _ _
theorem yS{ag:List V}{k:List UInt8}(h:jg ag k=true):iM ag k<ag.length:=by
 unfold jg jB at h;simp only[gV,iy] at h;exact h.1
theorem eQ.ins{keys:List (List UInt8)}{k:List UInt8}(h:eQ keys)(hk:k ∉ keys):eQ (cK keys (kN keys k) k):=by
 rw[Gh h,cK];have hlt:∀x∈keys.take (eI keys k),cD x k=true:=fun x hx=>by
  obtain⟨j,hj,e⟩:=kH hx;rw[eD] at hj;rw[Cb] at e;rw[← e];exact(AE h (by omega)).1 (by omega)
 have hgt:∀x∈keys.drop (eI keys k),cD k x=true:=fun x hx=>by
  obtain⟨j,hj,e⟩:=kH hx;rw[iI] at hj;rw[Jy] at e;have h1:cD x k=false:=by
   rcases uU (cD x k) with h1 | h1
   ·rw[← e] at h1;have:=(AE h (by omega)).2 h1;omega
   exact h1
  rcases uU (cD k x) with h2 | h2
  ·exact h2
  have:=Dl x k h1 h2;subst this;exact absurd (qY hx) hk
 refine List.pairwise_append.2 ⟨h.sublist (List.take_sublist _ _),jz.2 ⟨hgt,h.sublist (M3 _ _)⟩,fun a ha b hb=>?_⟩;rcases iw.1 hb with rfl | hb
 ·exact hlt a ha
 exact vD _ _ _ (hlt a ha) (hgt b hb)
theorem eQ.del{keys:List (List UInt8)}(h:eQ keys)(i:Nat):eQ (gj keys i):=by
 refine List.pairwise_append.2 ⟨h.sublist (List.take_sublist _ _),h.sublist (M3 _ _),fun a ha b hb=>?_⟩;obtain⟨x,hx,ex⟩:=kH ha;obtain⟨y,hy,ey⟩:=kH hb;rw[eD] at hx;rw[iI] at hy;rw[Cb] at ex;rw[Jy] at ey;rw[← ex,← ey];exact h.lt (by omega) (by omega)
theorem eQ.inj{keys:List (List UInt8)}(h:eQ keys){i j:Nat}(hi:i<keys.length)(hj:j<keys.length)(e:keys[i]=keys[j]):i=j:=by
 rcases ET i j with h1 | h1 | h1
 ·have:=h.lt h1 hj;rw[e,tP] at this;cases this
 ·exact h1
 have:=h.lt h1 hi;rw[e,tP] at this;cases this
theorem O7{α β:Type}(f:α→β)(l:List α)(i:Nat)(x:α):(cK l i x).map f=cK (l.map f) i (f x):=by simp[cK,List.map_take,List.map_drop]
theorem O8{α β:Type}(f:α→β)(l:List α)(i:Nat):(gj l i).map f=gj (l.map f) i:=by simp[gj,List.map_take,List.map_drop]
theorem yT{α:Type}{l:List α}{i:Nat}{x y:α}:y∈cK l i x↔y=x∨y∈l:=by
 unfold cK;rw[qV,iw];constructor
 ·rintro(h | h | h)
  ·exact .inr (yq h)
  ·exact .inl h
  exact .inr (qY h)
 rintro(h | h)
 ·exact .inr (.inl h)
 rw[← pU i l,qV] at h;rcases h with h | h
 ·exact .inl h
 exact .inr (.inr h)
theorem AG{α:Type}{l:List α}{i:Nat}{y:α}(h:y∈gj l i):y∈l:=by
 rcases qV.1 h with h | h
 ·exact yq h
 exact qY h
theorem tQ{α:Type}{l:List α}{i:Nat}{x:α}:(cK l i x).length=l.length+1:=by
 unfold cK;rw[bD,aU,eD,iI];omega
abbrev Gk(l:List EN):List (List UInt8):=l.map Prod.fst
theorem O9(x:EN):∀l,(tM x l).Perm (x::l)
 | []=>Cr _
 | y::r=>by
  rw[tM];split
  ·exact((O9 x r).cons y).trans (List.Perm.swap x y r)
  exact Cr _
theorem VC:∀(l a:List EN),(l.foldl (fun a x=>tM x a) a).Perm (l++a)
 | [],a=>Cr _
 | x::r,a=>by
  rw[Ji];exact(VC r _).trans (((Cr r).append (O9 x a)).trans List.perm_middle)
theorem xk(l:List EN):(xf l).Perm l:=by
 have:=VC l [];rwa [mD] at this
def rL(l:List EN):Prop:=l.Pairwise fun a b=>cD b.1 a.1=false
theorem VF{x:EN}:∀{l:List EN},rL l→rL (tM x l)
 | [],h=>List.pairwise_singleton _ _
 | y::r,h=>by
  rw[tM];have hr:=(jz.1 h).2;have hy:=(jz.1 h).1;split
  ·rename_i hc;refine jz.2 ⟨fun b hb=>?_,VF hr⟩;rcases iw.1 ((O9 x r).mem_iff.1 hb) with e | e
   ·rw[e];exact adB hc
   exact hy b e
  rename_i hc;have hc':cD y.1 x.1=false:=by rcases uU (cD y.1 x.1) with k | k;exact absurd k hc;exact k
  refine jz.2 ⟨fun b hb=>?_,h⟩;rcases iw.1 hb with e | e
  ·rw[e];exact hc'
  exact VG.ntrans _ _ _ (hy b e) hc'
theorem VH:∀(l a:List EN),rL a→rL (l.foldl (fun a x=>tM x a) a)
 | [],a,h=>h
 | x::r,a,h=>by rw[Ji];exact VH r _ (VF h)
theorem Kr(l:List EN):rL (xf l):=VH l [] List.Pairwise.nil
theorem VI:∀{l m:List EN},l.Perm m→rL l→rL m→(Gk l).Nodup→l=m
 | [],m,hp,_,_,_=>(List.nil_perm.1 hp).symm
 | x::r,[],hp,_,_,_=>absurd hp.symm (by simp)
 | x::r,y::s,hp,hl,hm,hn=>by
  have hlx:=(jz.1 hl).1;have hmy:=(jz.1 hm).1;have hxy:x=y:=by
   rcases iw.1 (hp.mem_iff.1 (nY)) with e | e
   ·exact e
   rcases iw.1 (hp.mem_iff.2 (nY)) with e' | e'
   ·exact e'.symm
   exfalso;have h1:cD x.1 y.1=false:=hmy x e;have h2:cD y.1 x.1=false:=hlx y e';have h3:x.1=y.1:=Dl _ _ h1 h2;have hn':=List.nodup_cons.1 (show (x.1::Gk r).Nodup from hn);exact hn'.1 (by rw[h3];exact jx.2 ⟨y,e',rfl⟩)
  subst hxy;have hn':=List.nodup_cons.1 (show (x.1::Gk r).Nodup from hn);rw[VI ((List.perm_cons x).1 hp) (jz.1 hl).2 (jz.1 hm).2 hn'.2]
theorem adC{l m:List EN}(hp:m.Perm l)(ho:rL m)(hn:(Gk l).Nodup):m=xf l:=
 VI (hp.trans (xk l).symm) ho (Kr l) ((hp.map Prod.fst).nodup_iff.2 hn)
end
section
open Go.RowKit Go.Shelf
theorem VJ(s:ByteArray):Lib.indexB s vr=Lib.indexByte s.data.toList 46:=Lib.index_one _ _
theorem indexByte_none{l:List UInt8}(h:∀j (hj:j<l.length),l[j]≠46):Lib.indexByte l 46=-1:=by
 induction l with
 | nil=>rfl
 | cons b l ih =>
  have h0:(b==46)=false:=pj.2 (h 0 (by simp));rw[Lib.indexByte,h0,ih (fun j hj=>h (j+1) (by simpa using hj))];rfl
theorem indexByte_some{l:List UInt8}{k:Nat}(hk:k<l.length)(h:∀j (hj:j<l.length),j<k→l[j]≠46)(he:l[k]=46):Lib.indexByte l 46=k:=by
 induction l generalizing k with
 | nil=>simp at hk
 | cons b l ih =>
  cases k with
  | zero =>
   have h0:(b==46)=true:=by simpa using he
   rw[Lib.indexByte,h0];rfl
  | succ k =>
   have h0:(b==46)=false:=pj.2 (h 0 (by simp) (by omega));have hi:=ih (k:=k) (by simpa using hk) (fun j hj hjk=>h (j+1) (by simpa using hj) (by omega)) he;rw[Lib.indexByte,h0,hi];have hb:((k:Int)==-1)=false:=by rw[pj];omega
   rw[hb];simp
theorem O_{s:ByteArray}(h:∀j (hj:j<s.data.toList.length),s.data.toList[j]≠46):nD s=[s]:=
 Lib.splitB_miss _ _ _ _ ((VJ s).trans (indexByte_none h))
theorem adD{s:ByteArray}{k:Nat}(hk:k<s.data.toList.length)(h:∀j (hj:j<s.data.toList.length),j<k→s.data.toList[j]≠46)(he:s.data.toList[k]=46) :
 nD s=s.extract 0 k::nD (s.extract (k+1) s.size):=by
 have hi:Lib.indexB s vr=k:=(VJ s).trans (indexByte_some hk h he);unfold nD;rw[Lib.countB_hit s vr k (by decide) hi,ES 1,Lib.splitB_hit _ _ _ _ _ hi];rfl
theorem adE{f:List (ByteArray×V)}{s:ByteArray}(hd:(f.map Prod.fst).Nodup){j:Nat}(h:j<f.length)(he:f[j].1=s):(f.find? fun x=>decide (x.1=s))=some f[j]:=by
 refine Oa h (fun i hi hij hs=>?_) he;have h1:i<(f.map Prod.fst).length:=by simpa using hi
 have h2:j<(f.map Prod.fst).length:=by simpa using h
 have h3:i≠j:=by omega
 exact h3 ((List.getElem_inj (h₀:=h1) (h₁:=h2) hd).1 (by simpa using hs.trans he.symm))
theorem adF{v:V}(h:v.formed=true){s:ByteArray}(hs:s.size=0):jd v s=none:=by
 obtain⟨k,n,b,l,f⟩:=v;have hl:s.data.toList=[]:=zQ.1 (by simpa using hs);by_cases hk:k=7
 ·subst hk;rw[yF,hl,ai (by decide)]
 rw[vt hk];rw[rh] at h;simp only[gV,nU] at h;rw[J1]
 ·rfl
 intro i hi he;have hn:=(h.1.2 _ (aY hi)).1;rw[he] at hn;unfold V.name at hn;simp[hs,hl] at hn
theorem Ks{v u:V}{s:ByteArray}(h:jd v s=some u)(hv:v.formed=true):u.formed=true:=by
 obtain⟨k,n,b,l,f⟩:=v;rw[rh] at hv;simp only[gV,nU] at hv;by_cases hk:k=7
 ·subst hk;rw[yF] at h;split at h
  ·exact hv.1.1.2 _ (yn h)
  cases h
 rw[vt hk] at h;obtain⟨x,hx,rfl⟩:=Ck.1 h;exact(hv.1.2 _ (Cl hx)).2
end
section
open Go.RowKit
theorem adG{k:Int}{n:Nat}{b:List UInt8}{l:List V}{f:List (ByteArray×V)}(h:(V.mk k n b l f).fit):∀x∈l,x.fit:=by rw[V.fit] at h;exact h.2.1
theorem VK{k:Int}{n:Nat}{b:List UInt8}{l:List V}{f:List (ByteArray×V)}(h:(V.mk k n b l f).fit):∀x∈f,x.2.fit:=by rw[V.fit] at h;exact h.2.2
theorem adH{v u:V}{s:ByteArray}(h:jd v s=some u)(hf:v.fit):u.fit:=by
 obtain⟨k,n,b,l,f⟩:=v;by_cases hk:k=7
 ·subst hk;rw[yF] at h;split at h
  ·exact adG hf u (yn h)
  cases h
 rw[vt hk,Ck] at h;obtain⟨x,h1,rfl⟩:=h;exact VK hf x (Cl h1)
theorem VL:∀{l:List ByteArray} {v u:V},kM v l=some u→v.fit→u.fit
 | [],v,u,h,hf=>by rw[kM] at h;injection h with h;rw[← h];exact hf
 | s::r,v,u,h,hf=>by
  rw[kM,Jz] at h;obtain⟨x,h1,h2⟩:=h;exact VL h2 (adH h1 hf)
theorem VM:∀{l:List ByteArray} {v u:V},kM v l=some u→v.formed=true→u.formed=true
 | [],v,u,h,hf=>by rw[kM] at h;injection h with h;rw[← h];exact hf
 | s::r,v,u,h,hf=>by
  rw[kM,Jz] at h;obtain⟨x,h1,h2⟩:=h;exact VM h2 (Ks h1 hf)
theorem adI{v u:V}{s:ByteArray}(h:gB v s=some u)(hf:v.fit):Fine u:=by
 unfold gB at h;split at h
 ·rename_i hg;have fh:=(mJ hg).1;split at h
  ·injection h with h;rw[← h];exact⟨fh,hf⟩
  exact⟨VM h fh,VL h hf⟩
 cases h
structure eu (d:V):Prop where
 key:(bt d).2=0
 fit:d.fit
 count:d.count≤20000
theorem eu.id{d:V}(h:eu d):∃i,jq d=some i∧V.Keyed i∧bt d=(i.key,0)∧d.good=0∧d.k=8:=by
 have hk:=h.key;unfold bt at hk ⊢;by_cases h0:d.good=0
 ·rw[ai (by simpa using h0)] at hk ⊢;by_cases h8:d.k=8
  ·rw[ai (by simpa using h8)] at hk ⊢
   cases hi:jq d with
   | none=>rw[hi] at hk;simp at hk
   | some i =>
    rw[hi] at hk;dsimp only at hk ⊢;obtain⟨s,hs⟩:=UZ hi;have hfi:i.fit:=by
     obtain⟨k,n,b,l,f⟩:=d;exact VK h.fit (s,i) hs
    have hK:=V.Keyed.of hk hfi;exact⟨i,rfl,hK,hK.bK,h0,h8⟩
  rw[ar h8] at hk;simp at hk
 rw[ar h0] at hk;exact absurd hk h0
theorem Kt{path:ByteArray}{d:V}(h:eu d)(hp:gB d path=none):cH path d=([],false,0)∧nG path d=none:=by
 have e:cH path d=([],false,0):=by unfold cH;rw[ai (by simpa using h.key),hp]
 exact⟨e,by unfold nG;rw[e];rfl⟩
theorem Gl{path:ByteArray}{d u:V}(h:eu d)(hp:gB d path=some u)(he:(cH path d).2.2=0) :
 ∃i,jq d=some i∧Fine u∧V.Keyed i∧bt d=(i.key,0)∧cH path d=(u.key++i.key,true,0)∧nG path d=some (u.key++i.key,(u.key.length:Int),d):=by
 obtain⟨i,hi,hK,hkey,-,-⟩:=h.id;have hu:=adI hp h.fit;have e:cH path d=(u.key++i.key,true,0):=by
  unfold cH at he ⊢;rw[ai (by simpa using h.key),hp] at he ⊢;dsimp only at he ⊢;rw[hi,ni] at he ⊢;by_cases h0:(iX [u,i] [false,false]).2=0
  ·rw[ai (by simpa using h0)];have:=VN (b:=(iX [u,i] [false,false]).1) (by rw[← h0]);have h3:=this.2.2.1;rw[← h3];simp[jD,flip]
  rw[ar h0] at he;exact absurd he h0
 refine⟨i,hi,hu,hK,hkey,e,?_⟩;unfold nG;rw[e,hi,ni,hK.bK];simp only[iK,bD];congr 3;omega
theorem Pb{u v i j:V}(hu:Fine u)(hv:Fine v)(hi:Fine i)(hj:Fine j):Lib.compareBytes (u.key++i.key) (v.key++j.key)=eJ (V.cmp u v) (V.cmp i j):=by
 have:=V.adz false false hu hi hv hj;simpa [flip,V.Dj] using this
theorem key_inj{u v:V}(hu:Fine u)(hv:Fine v)(h:u.key=v.key):u=v:=by
 rw[← V.OW hu hv,V.adx hu hv,h,Gg]
def vE(path:ByteArray)(ag:List V):Prop:=ag.Pairwise fun a b=>∀u,gB a path=some u→gB b path≠some u
structure Ku (path:ByteArray) (ag:List V) (e:EN) (u i:V):Prop where
 mem:e.2.2∈ag
 path:gB e.2.2 path=some u
 id:jq e.2.2=some i
 fu:Fine u
 fi:Fine i
 b:e.1=u.key++i.key
 sz:e.2.1=(u.key.length:Int)
 key:(bt e.2.2).1=i.key
theorem Ku.part{path:ByteArray}{ag:List V}{e:EN}{u i:V}(h:Ku path ag e u i):e.1.take e.2.1.toNat=u.key:=by
 rw[h.b,h.sz];simp
theorem nI{path:ByteArray}:∀{ag:List V},fW path ag=0↔∀d∈ag,(cH path d).2.2=0
 | []=>by simp[fW]
 | d::r=>by
  rw[fW,M4];split
  ·rename_i h;constructor
   ·intro h';exact absurd h' h
   rintro⟨h',-⟩;exact absurd h' h
  rename_i h;rw[nI (ag:=r)];exact⟨fun h'=>⟨by simpa using h,h'⟩,fun h'=>h'.2⟩
theorem Pc{path:ByteArray}{ag:List V}(hd:∀d∈ag,eu d)(he:fW path ag=0):∀e∈jV path ag,∃u i,Ku path ag e u i:=by
 intro e hm;unfold jV at hm;rw[JF] at hm;obtain⟨d,kR,hx⟩:=hm;have hz:=nI.1 he d kR
 cases hp:gB d path with
 | none=>rw[(Kt (hd d kR) hp).2] at hx;cases hx
 | some u =>
  obtain⟨i,hi,hu,hK,hkey,-,hent⟩:=Gl (hd d kR) hp hz;rw[hent] at hx;injection hx with hx;subst hx;exact⟨u,i,kR,hp,hi,hu,hK.toFine,rfl,rfl,by dsimp only;rw[hkey]⟩
theorem VP{path:ByteArray}:∀{ag:List V},(∀d∈ag,eu d)→fW path ag=0→eQ (iZ ag)→(Gk (jV path ag)).Nodup
 | [],_,_,_=>by simp[jV]
 | d::r,hd,he,hr=>by
  have hdr:∀x∈r,eu x:=fun x hx=>hd x (pX _ hx)
  have her:fW path r=0:=nI.2 fun x hx=>nI.1 he x (pX _ hx)
  have ih:=VP (path:=path) hdr her (jz.1 hr).2;have hx:=(jz.1 hr).1;unfold jV at ih ⊢;rw[List.filterMap_cons]
  cases hp:gB d path with
  | none=>rw[(Kt (hd d nY) hp).2];exact ih
  | some u =>
   obtain⟨i,hi,hu,hK,hkey,-,hent⟩:=Gl (hd d nY) hp (nI.1 he d nY);rw[hent];dsimp only;refine List.nodup_cons.2 ⟨fun hm=>?_,ih⟩;obtain⟨e,hme,heq⟩:=jx.1 hm;obtain⟨v,j,hok⟩:=Pc hdr her e hme;have h0:Lib.compareBytes (u.key++i.key) (v.key++j.key)=0:=by rw[Gg,← hok.b];exact heq.symm
   rw[Pb hu hok.fu hK.toFine hok.fi] at h0;have hij:V.cmp i j=0:=(adJ h0).2;have e2:i=j:=(V.OW hK.toFine hok.fi).1 hij;have:=hx (bt e.2.2).1 (jx.2 ⟨e.2.2,hok.mem,rfl⟩);dsimp only at this;rw[hkey,hok.key,e2,tP] at this
   cases this
theorem VQ{path:ByteArray}{ag:List V}:∀{l:List EN},(∀e∈l,∃u i,Ku path ag e u i)→rL l→(rJ l=false↔l.Pairwise fun a b=>a.1.take a.2.1.toNat≠b.1.take b.2.1.toNat)
 | [],_,_=>by simp[rJ]
 | [a],_,_=>by simp[rJ]
 | a::b::r,hok,ho=>by
  have ih:=VQ (l:=b::r) (fun e he=>hok e (pX _ he)) (jz.1 ho).2;rw[rJ,ll,jO,ih,jz (a:=a)];constructor
  ·rintro⟨h1,h2⟩;refine⟨fun c hc=>?_,h2⟩;rcases iw.1 hc with rfl | hc
   ·exact h1
   intro heq;obtain⟨ua,ia,ha⟩:=hok a (by simp);obtain⟨ub,ib,hb⟩:=hok b (by simp);obtain⟨uc,ic,hcc⟩:=hok c (by simp[hc]);rw[ha.part,hcc.part] at heq;rw[ha.part,hb.part] at h1;have Gm:ua=uc:=key_inj ha.fu hcc.fu heq;subst Gm;have hne:V.cmp ua ub≠0:=fun h0=>h1 (by rw[(V.OW ha.fu hb.fu).1 h0])
   have o1:cD b.1 a.1=false:=(jz.1 ho).1 b (by simp);have o2:cD c.1 b.1=false:=(jz.1 (jz.1 ho).2).1 c hc;rw[ha.b,hb.b] at o1;rw[hcc.b,hb.b] at o2;have e1:Lib.compareBytes (ub.key++ib.key) (ua.key++ia.key)=V.cmp ub ua:=by
    rw[Pb hb.fu ha.fu hb.fi ha.fi,eJ,ai (by rw[V.Vu ha.fu hb.fu];omega)]
   have e2:Lib.compareBytes (ua.key++ic.key) (ub.key++ib.key)=V.cmp ua ub:=by
    rw[Pb ha.fu hb.fu hcc.fi hb.fi,eJ,ai hne]
   simp only[cD,e1,e2,jO,V.Vu ha.fu hb.fu] at o1 o2;omega
  rintro⟨h1,h2⟩;exact⟨h1 b (by simp),h2⟩
theorem VS{path:ByteArray}:∀{ag:List V},(∀d∈ag,eu d)→fW path ag=0→((jV path ag).Pairwise (fun a b=>a.1.take a.2.1.toNat≠b.1.take b.2.1.toNat)↔vE path ag)
 | [],_,_=>by simp[jV,vE]
 | d::r,hd,he=>by
  have hdr:∀x∈r,eu x:=fun x hx=>hd x (pX _ hx)
  have hz:∀x∈d::r,(cH path x).2.2=0:=nI.1 he;have her:fW path r=0:=nI.2 fun x hx=>hz x (pX _ hx)
  have ih:=VS (path:=path) hdr her;unfold vE at ih ⊢;rw[jz,← ih];have hlist:jV path (d::r)=(nG path d).toList++jV path r:=by
   unfold jV;rw[List.filterMap_cons];cases nG path d<;>rfl
  rw[hlist]
  cases hp:gB d path with
  | none =>
   rw[(Kt (hd d nY) hp).2];simp
  | some u =>
   obtain⟨i,hi,hu,hK,hkey,-,hent⟩:=Gl (hd d nY) hp (hz d nY);rw[hent];simp only[Option.toList_some,List.singleton_append,jz];refine and_congr_left fun _=>⟨fun h b hb v hv hbv=>?_,fun h e hm=>?_⟩
   ·injection hv with hv;subst hv;obtain⟨j,hj,hv',hK',hkey',-,adK⟩:=Gl (hdr b hb) hbv (hz b (pX _ hb));have:=h _ (show (u.key++j.key,(u.key.length:Int),b)∈jV path r from JF.2 ⟨b,hb,adK⟩);simp at this
   obtain⟨v,j,hok⟩:=Pc hdr her e hm;rw[hok.part];simp only[yl,EW];intro heq;have e2:u=v:=key_inj hu hok.fu heq;exact h _ hok.mem u rfl (e2 ▸ hok.path)
theorem Kv{α:Type}{R:α→α→Prop}(hs:∀a b,R a b→R b a){l m:List α}(hp:l.Perm m)(h:l.Pairwise R):m.Pairwise R:=(hp.pairwise_iff (fun {a b}=>hs a b)).1 h
theorem Kw{path:ByteArray}{ag:List V}(hd:∀d∈ag,eu d)(he:fW path ag=0):rJ (jr path ag)=false↔vE path ag:=by
 unfold jr;rw[ar he,VQ (fun e hm=>Pc hd he e ((xk _).mem_iff.1 hm)) (Kr _),← VS hd he];exact⟨Kv (fun a b h e=>h e.symm) (xk _),Kv (fun a b h e=>h e.symm) (xk _).symm⟩
structure Dm (N:Nat) (c:Co):Prop where
 nm:V.name c.name=true
 keys:eQ (iZ c.ag)
 ag:∀d∈c.ag,eu d
 nd:c.ag.length≤N
 aq:eQ (gF (jF c))
 nx:c.aq.length≤8
 path:∀x∈c.aq,x.path.size≤200
 Dn:∀x∈c.aq,fW x.path c.ag=0
 uniq:∀x∈c.aq,x.uniq=true→vE x.path c.ag
 jF:∀x∈c.aq,V.name x.name=true
structure ed (N:Nat) (st:List Co):Prop where
 oz:eQ (gF (bh st))
 n:st.length≤16
 co:∀c∈st,Dm N c
theorem ed.nil:ed 0 []:=⟨List.Pairwise.nil,aS _,fun c h=>by simp at h⟩
theorem Dm.mono{N M:Nat}{c:Co}(h:Dm N c)(hm:N≤M):Dm M c:={ h with nd:=a_ h.nd hm }
theorem ed.mono{N M:Nat}{st:List Co}(h:ed N st)(hm:N≤M):ed M st:=⟨h.oz,h.n,fun c hc=>(h.co c hc).mono hm⟩
theorem nJ{st:List Co}{s:ByteArray}(h:cQ (bh st) s=true):st[bX (bh st) s]?=some (bH st s)∧bH st s∈st∧(bH st s).name=s∧bX (bh st) s<st.length:=by
 have h1:=O5 h;have hl:bX (bh st) s<st.length:=by have:=Kq h;rwa [cY] at this
 have e:st[bX (bh st) s]?=some (bH st s):=by
  unfold bH;rw[jN,bN hl,ni]
 refine⟨e,yn e,?_,hl⟩;rw[qX,e] at h1;injection h1
theorem ed.set{N:Nat}{st:List Co}(h:ed N st){s:ByteArray}(hf:cQ (bh st) s=true){c:Co}(hc:Dm (N+1) c)(hn:c.name=(bH st s).name):ed (N+1) (st.set (bX (bh st) s) c):=by
 obtain⟨h1,h2,h3,h4⟩:=nJ hf;refine⟨?_,by rw[j5];exact h.n,fun x hx=>?_⟩
 ·have e:bh (st.set (bX (bh st) s) c)=bh st:=by
   rw[bh,List.map_set,hn];have hg:(st.map Co.name)[bX (bh st) s]?=some (bH st s).name:=by rw[qX,h1];rfl
   rw[kE] at hg;obtain⟨hg1,hg2⟩:=hg;rw[← hg2,List.set_getElem_self]
  rw[e];exact h.oz
 rcases List.mem_or_eq_of_mem_set hx with hx | hx
 ·exact(h.co x hx).mono (fg _)
 rw[hx];exact hc
theorem vE.sub{path:ByteArray}{l m:List V}(h:vE path m)(hs:List.Sublist l m):vE path l:=List.Pairwise.sublist hs h
theorem Dp{α:Type}(l:List α)(i:Nat):List.Sublist (gj l i) l:=by
 unfold gj
 conv=>rhs;rw[← pU i l]
 refine List.Sublist.append_left ?_ _;rw[← Jm];exact M3 _ _
theorem Dq{d:V}:∀{aq:List Ix},tN d aq=0↔∀x∈aq,(cH x.path d).2.2=0
 | []=>by simp[tN]
 | x::r=>by
  rw[tN,M4];split
  ·rename_i h;constructor
   ·intro h';exact absurd h' h
   rintro⟨h',-⟩;exact absurd h' h
  rename_i h;rw[Dq (aq:=r)];exact⟨fun h'=>⟨by simpa using h,h'⟩,fun h'=>h'.2⟩
theorem Ky{ag:List V}:∀{aq:List Ix},yQ ag aq=false↔∀x∈aq,x.uniq=true→rJ (jr x.path ag)=false
 | []=>by simp[yQ]
 | x::r=>by
  rw[yQ,ll,Ky (aq:=r),M4];refine and_congr_left fun _=>?_
  cases x.uniq<;>simp
theorem Dr{ag:List V}{d x:V}(h:x∈fN ag d):x=d∨x∈ag:=by
 unfold fN at h;split at h
 ·rcases List.mem_or_eq_of_mem_set h with h | h
  ·exact .inr h
  exact .inl h
 exact yT.1 h
theorem VT{ag:List V}{d:V}(h:eQ (iZ ag)):eQ (iZ (fN ag d)):=by
 unfold fN;split
 ·rename_i hf;rw[Gj] at hf;have h1:=O3 hf;rw[← Ko] at h1;rw[iZ,List.map_set];obtain⟨hg1,hg2⟩:=kE.1 h1;obtain⟨m,hm⟩:∃m,iM ag (bt d).1=m:=⟨_,rfl⟩;simp only[hm] at hg1 hg2 ⊢;rw[← hg2];show eQ ((iZ ag).set m (iZ ag)[m]);rw[List.set_getElem_self];exact h
 rename_i hf;rw[iZ,O7,Ko];refine eQ.ins h fun hm=>hf ?_
 rw[Gj];exact(Kn h).2 hm
theorem adL(ag:List V)(d:V):(fN ag d).length≤ag.length+1:=by
 unfold fN;split
 ·rw[j5];omega
 rw[tQ];omega
theorem AH{N:Nat}{st:List Co}{q:Rq}(h:ed N st)(hf:q.doc.fit)(hc:q.doc.count≤20000){st':List Co}{n:Int}{ag:List V}(he:kp st q=.ok (st',n,ag)):ed (N+1) st':=by
 unfold kp at he;split at he
 ·unfold mN at he;split at he;· cases he
  rename_i h1;split at he;· cases he
  rename_i h2;split at he;· cases he
  rename_i h3;injection he with he;injection he with he _;subst he;have hname:V.name q.aD=true:=by simpa using h1
  refine⟨?_,by rw[tQ];omega,fun c hc=>?_⟩
  ·rw[bh,gF,kG,O7];have e1:st.map ((fun s:ByteArray=>s.data.toList) ∘ Co.name)=gF (bh st):=by rw[gF,bh,kG]
   rw[e1,Gi];refine eQ.ins h.oz fun hm=>h2 ?_
   rw[Kp h.oz];exact O4.1 hm
  rcases yT.1 hc with rfl | hc
  ·exact⟨hname,List.Pairwise.nil,fun d hd=>by simp at hd,aS _,List.Pairwise.nil,aS _,fun x hx=>by simp at hx,fun x hx=>by simp at hx,fun x hx=>by simp at hx,fun x hx=>by simp at hx⟩
  exact(h.co c hc).mono (fg _)
 split at he
 ·unfold F7 at he;split at he;· cases he
  injection he with he;injection he with he _;subst he;refine⟨?_,a_ (Dp _ _).length_le h.n,fun c hc=>(h.co c (AG hc)).mono (fg _)⟩;rw[bh,gF,kG,O8];have e1:st.map ((fun s:ByteArray=>s.data.toList) ∘ Co.name)=gF (bh st):=by rw[gF,bh,kG]
  rw[e1];exact h.oz.del _
 have hput:pM st q=.ok (st',n,ag)→ed (N+1) st':=fun he=>by
  unfold pM at he;split at he;· cases he
  rename_i h1;split at he;· cases he
  rename_i h2;split at he;· cases he
  rename_i h3;split at he;· cases he
  rename_i h4;split at he;· cases he
  rename_i h5;injection he with he;injection he with he _;subst he;have hF:cQ (bh st) q.aD=true:=by simpa using h1
  have aW:=h.co _ (nJ hF).2.1;have hd:eu q.doc:=⟨by simpa using h2,hf,hc⟩;have vG:∀d∈fN (bH st q.aD).ag q.doc,eu d:=fun d hm=>by
   rcases Dr hm with rfl | hm
   ·exact hd
   exact aW.ag d hm
  have hne:∀x∈(bH st q.aD).aq,fW x.path (fN (bH st q.aD).ag q.doc)=0:=fun x hx=>by
   refine nI.2 fun d hm=>?_
   rcases Dr hm with rfl | hm
   ·exact Dq.1 (by simpa using h3) x hx
   exact nI.1 (aW.Dn x hx) d hm
  refine h.set hF (c:=⟨_,_,_⟩) ⟨aW.nm,VT aW.keys,vG,?_,aW.aq,aW.nx,aW.path,hne,fun x hx hu=>?_,aW.jF⟩ rfl
  ·have:=adL (bH st q.aD).ag q.doc;have:=aW.nd;dsimp only;omega
  exact(Kw vG (hne x hx)).1 (Ky.1 (by simpa using h5) x hx hu)
 split at he;· exact hput he
 split at he;· exact hput he
 split at he
 ·unfold F8 at he;split at he;· cases he
  rename_i h1;split at he;· cases he
  split at he;· cases he
  injection he with he;injection he with he _;subst he;have hF:cQ (bh st) q.aD=true:=by simpa using h1
  have aW:=h.co _ (nJ hF).2.1;refine h.set hF (c:=⟨_,_,_⟩) ⟨aW.nm,?_,fun d hm=>aW.ag d (AG hm),?_,aW.aq,aW.nx,aW.path,fun x hx=>?_,fun x hx hu=>(aW.uniq x hx hu).sub (Dp _ _),aW.jF⟩ rfl
  ·rw[iZ,O8];exact aW.keys.del _
  ·exact a_ (Dp _ _).length_le (M5 aW.nd)
  exact nI.2 fun d hm=>nI.1 (aW.Dn x hx) d (AG hm)
 split at he
 ·unfold OP at he;split at he;· cases he
  split at he;· cases he
  split at he;· cases he
  injection he with he;injection he with he _;subst he;exact h.mono (fg _)
 split at he
 ·unfold F9 at he;split at he;· cases he
  rename_i h1;split at he;· cases he
  rename_i h2;split at he;· cases he
  rename_i h3;split at he;· cases he
  rename_i h4;split at he;· cases he
  rename_i h5;split at he;· cases he
  rename_i h6;split at he;· cases he
  rename_i h7;injection he with he;injection he with he _;subst he;have hF:cQ (bh st) q.aD=true:=by simpa using h3
  have aW:=h.co _ (nJ hF).2.1;have h6':fW q.path (bH st q.aD).ag=0:=by simpa using h6
  refine h.set hF (c:=⟨_,_,_⟩) ⟨aW.nm,aW.keys,aW.ag,M5 aW.nd,?_,?_,fun x hx=>?_,fun x hx=>?_,fun x hx hu=>?_,fun x hx=>?_⟩ rfl
  ·rw[jF,gF,kG,O7];have e1:(bH st q.aD).aq.map ((fun s:ByteArray=>s.data.toList) ∘ Ix.name)=gF (jF (bH st q.aD)):=by rw[gF,jF,kG]
   rw[e1,Gi];refine eQ.ins aW.aq fun hm=>h4 ?_
   rw[Kp aW.aq];exact O4.1 hm
  ·dsimp only;rw[tQ];omega
  ·rcases yT.1 hx with rfl | hx
   ·dsimp only;omega
   exact aW.path x hx
  ·rcases yT.1 hx with rfl | hx
   ·exact h6'
   exact aW.Dn x hx
  ·rcases yT.1 hx with rfl | hx
   ·refine(Kw aW.ag h6').1 ?_;rcases uU (rJ (jr q.path (bH st q.aD).ag)) with k | k
    ·exact absurd ⟨hu,k⟩ h7
    exact k
   exact aW.uniq x hx hu
  rcases yT.1 hx with rfl | hx
  ·simpa using h1
  exact aW.jF x hx
 split at he
 ·unfold F_ at he;split at he;· cases he
  rename_i h1;split at he;· cases he
  injection he with he;injection he with he _;subst he;have hF:cQ (bh st) q.aD=true:=by simpa using h1
  have aW:=h.co _ (nJ hF).2.1;refine h.set hF (c:=⟨_,_,_⟩) ⟨aW.nm,aW.keys,aW.ag,M5 aW.nd,?_,a_ (Dp _ _).length_le aW.nx,fun x hx=>aW.path x (AG hx),fun x hx=>aW.Dn x (AG hx),fun x hx=>aW.uniq x (AG hx),fun x hx=>aW.jF x (AG hx)⟩ rfl;rw[jF,gF,kG,O8];have e1:(bH st q.aD).aq.map ((fun s:ByteArray=>s.data.toList) ∘ Ix.name)=gF (jF (bH st q.aD)):=by rw[gF,jF,kG]
  rw[e1];exact aW.aq.del _
 split at he
 ·unfold OS at he;split at he;· cases he
  split at he;· cases he
  split at he;· cases he
  split at he;· cases he
  split at he;· cases he
  injection he with he;injection he with he _;subst he;exact h.mono (fg _)
 split at he
 ·unfold countP at he;split at he;· cases he
  injection he with he;injection he with he _;subst he;exact h.mono (fg _)
 cases he
theorem VV{N:Nat}{st:List Co}{q:Rq}(h:ed N st)(hf:q.doc.fit)(hc:q.doc.count≤20000):ed (N+1) (mO st q).1:=by
 unfold mO;split
 ·exact h.mono (fg _)
 rename_i he;exact AH h hf hc he
end
section
open Go.RowKit Go.Shelf Go.WideShapes
def fT(w:World)(b:List UInt8)(e:Ending)(w':World):Prop:=∃A c,e=.returned (.slice A b.length c)∧Row w' w.heap.size (.slice A b.length c) b.length b∧Grow w w'
theorem fT.of{w w':World}{b xs:List UInt8}{n c:Nat}{A:Option Addr}(h:xs=b)(hn:n=b.length)(hr:Row w' w.heap.size (.slice A n c) n xs)(hg:Grow w w'):fT w b (.returned (.slice A n c)) w':=by
 subst h hn;exact⟨A,c,rfl,hr,hg⟩
theorem Pf(n:Nat)(w:World)(hn:n<18446744073709551616):Calls prog 155 #[.int .u64 n] w fun e w'=>e=.returned (.int .u64 (eT n:Nat))∧w=w':=by
 have h2:=VW n hn;have h3:n<9223372036854775808→bits .or .u64 (n:Int) 9223372036854775808=((n+9223372036854775808:Nat):Int):=fun hlt=>by
  have:=u64_or_nat n 9223372036854775808 hn (by decide);rw[show n ||| 9223372036854775808=n+9223372036854775808 by
   have h4:=nat_join 63 9223372036854775808 n (by decide) (by rw[Gn];exact hlt);rw[Nat.or_comm,h4];omega] at this
  exact this
 by_cases hlt:n<9223372036854775808
 ·have h4:=h3 hlt;have hd:(((n:Int) / 9223372036854775808)==0)=true:=by simp;omega
  have ht:eT n=n+9223372036854775808:=by rw[eT,ar hlt]
  clear h2 h3;go_enter func155,ntmps155;go_wp2;go_ret;exact⟨by rw[ht];rfl,rfl⟩
 have hd:(((n:Int) / 9223372036854775808)==0)=false:=by simp;omega
 have ht:eT n=18446744073709551615-n:=by rw[eT,ai hlt]
 clear h3;go_enter func155,ntmps155;go_wp2;go_ret;exact⟨rfl,rfl⟩
theorem Ds(n size:Nat)(w:World)(hs:size≤8)(hn:n<18446744073709551616):Calls prog 154 #[.int .u64 n,.int .i64 size] w (fT w (be size n)):=by
 go_enter func154,ntmps154;go_wp2_with fail;go_loopg [5,6] (size+1) (fun gk o i wr=>∃(r:Nat) (z:Int) (A':Option Addr) (c':Nat),r≤size∧gk=r+1∧z+1=(r:Int)∧i=.int .i64 z∧o=.slice A' (size-r) c'∧Row wr w.heap.size (.slice A' (size-r) c') (size-r) ((be size n).take (size-r))∧Grow w wr);exact⟨size,(size:Int)-1,none,0,av _,rfl,by omega,rfl,by rw[yj],by rw[yj,ER];exact iH _ _ _ _,ah w⟩;obtain⟨r,z,A',c',hr,rfl,hz,rfl,rfl,hrow,hg⟩:=hrel;have HR:=aa hrow;have HG:=aa hg;clear hrow hg;by_cases h0:r=0
 ·subst h0;have hz0:z=-1:=by omega
  subst hz0;clear hz;go_wp2_with fail;go_ret;exact fT.of (pV (by rw[fS];omega)) (by rw[fS];omega) HR.o HG.o
 obtain⟨j,rfl⟩:∃j,r=j+1:=⟨r-1,by omega⟩;obtain rfl:z=(j:Int):=by omega
 clear hz h0;have hB:(((UInt8.ofNat (n / 256 ^ j)).toNat:Nat):Int)=(n:Int) / 2 ^ (8*j) % 256:=by
  rw[Nf,← Nc];rfl
 have HB:=aa hB;have HT:=aa (VX n size j (by omega));clear hB;go_wp2_with (at_builtin;refine fK (ys:=[UInt8.ofNat (n / 256 ^ j)]) rfl (.tmp 13) (.tmp 20) _ rfl rfl (HR.o.alloc _) _ rfl (j6 _ HB.o (aH wr _ _)) (by simp only[aU,bn];omega) (by simp;have:=HG.o.size;omega) ?_;intro A4 c4 w4 hr4 hg4;have cN:=aa hr4;have bz:=aa (show Grow w w4 from ct (HG.o.alloc _) (dU hg4 (HR.o.alloc _) (by simp;have:=HG.o.size;omega)));clear hr4 hg4);go_roundg (j+1);have e:size-(j+1)+[UInt8.ofNat (n / 256 ^ j)].length=size-j:=by simp only[aU,bn];omega
 have gZ:=cN.o;rw[e,← HT.o] at gZ;exact⟨j,(j:Int)-1,A4,c4,by omega,rfl,by omega,rfl,by rw[← e];rfl,gZ,bz.o⟩;omega
theorem Pg(b:List UInt8)(B:Option Addr)(bc:Nat)(w:World)(hb:ba w B b)(hl:b.length≤70000000000000):Calls prog 156 #[.slice B b.length bc] w (fT w (cW b)):=by
 have HB:=aa hb;clear hb;go_enter func156,ntmps156;go_wp2_with fail;go_loopg [3,4] (b.length+1) (fun gk o i wr=>∃(k:Nat) (xs:List UInt8) (A':Option Addr) (c':Nat),k≤b.length∧gk+k=b.length+1∧i=.int .i64 k∧xs=fU (b.take k)∧o=.slice A' xs.length c'∧Row wr w.heap.size (.slice A' xs.length c') xs.length xs∧Grow w wr);exact⟨0,[],none,0,aS _,rfl,rfl,rfl,rfl,iH _ _ _ _,ah w⟩;obtain⟨k,xs,A',c',hk,hg,rfl,hxs,rfl,hr,hgr⟩:=hrel;have HR:=aa hr;have HG:=aa hgr;have hel:xs.length≤2*b.length:=by
  have:=(pJ (b.take k)).2;rw[eD] at this;rw[hxs];omega
 have hzz:=hgr.size;clear hr hgr;by_cases hlt:k<b.length
 ·obtain⟨gk',rfl⟩:=bP gk (by omega);obtain⟨bk,o,rfl,hcell⟩:=HB.o.2 (by omega);have hcw:=hcell k _ (uY b k hlt);have hc:=(HG.o.below.cell hcw.2.2).trans hcw.1;have hbl:bk<wr.heap.size:=cU hcw.2.2 HG.o.size;have hstep:fU (b.take (k+1))=xs++(if b[k]=0 then [0,255] else [b[k]]):=by rw[hxs,px b k hlt,VY]
  have HST:=aa hstep;have bV:=aa (fun(W:World) (h:Grow wr W)=>(h.below.cell (p:=⟨bk,o+k,none⟩) hbl).trans hc);have qy:∀q,Value.ownBlock (.slice A' xs.length c')=some q→bk≠q:=fun q hq e=>by
   have:=(bO HR.o q hq).1;have:=hcw.2.2;dsimp only at this;omega
  have qz:=aa (fun(W:World) (h:∀k,k<wr.heap.size→(∀q,Value.ownBlock (.slice A' xs.length c')=some q→k≠q)→W.heap[k]?=wr.heap[k]?)=>(uQ (a:=⟨bk,o+k,none⟩) (h bk hbl qy)).trans hc);clear hstep hcell hcw hxs bV qy;by_cases hx:b[k]=0
  ·rw[ar hx] at HST;rw[hx] at hc qz;have hc':wr.cell? ⟨bk,o+k,none⟩=some (.int .u8 0):=hc;have VZ:=aa (show ∀(W:World),(∀k,k<wr.heap.size→(∀q,Value.ownBlock (.slice A' xs.length c')=some q→k≠q)→W.heap[k]?=wr.heap[k]?)→W.cell? ⟨bk,o+k,none⟩=some (.int .u8 0) from qz.o);clear hc hx qz;have qz:=VZ;clear VZ;go_wp2_with (first
    | (at_builtin;refine fK (ys:=[0]) rfl (.tmp 11) (.tmp 16) _ rfl rfl (HR.o.alloc _) _ rfl (j6 0 rfl (aH wr _ _)) (by simp only[aU,bn];omega) (by simp;omega) ?_;intro A4 c4 w4 hr4 hg4;have cN:=aa hr4;have Gp:=aa (show Below w.heap.size wr w4 from ct (nT (j3 _ wr) hzz _) (dU hg4 (HR.o.alloc _) (by simp;omega)));have wP:wr.heap.size≤w4.heap.size:=Gp.o.size;have lC:=aa (show ∀k,k<wr.heap.size→(∀q,Value.ownBlock (.slice A' xs.length c')=some q→k≠q)→w4.heap[k]?=wr.heap[k]? from fun k hk hne=>(hg4.grow.block k (by simp;omega) (fun e=>hne k e.symm rfl)).trans (((ah wr).alloc _).below.block k hk));have gf:=qz.o w4 lC.o;have hb4:bk<w4.heap.size:=cU hbl (by have:=hg4.grow.size;simp at this;omega);clear hr4 hg4)
    | (at_builtin;refine fK (ys:=[255]) rfl (.tmp 23) (.tmp 24) _ rfl rfl (cN.o.alloc _) _ rfl (j6 255 rfl (aH w4 _ _)) (by simp only[aU,bn];omega) (by simp;omega) ?_;intro A5 c5 w5 gZ cr;have gP:=aa gZ;have bC:=aa (show Grow w w5 from ct (ct HG.o Gp.o) (ct (nT (j3 _ w4) (by omega) _) (dU cr (cN.o.alloc _) (by simp;omega))));clear gZ cr))
   go_roundg gk';have hn:(xs++[(0:UInt8),255]).length=xs.length+[(0:UInt8)].length+[(255:UInt8)].length:=by simp
   have e:xs++[(0:UInt8)]++[255]=xs++[0,255]:=by simp
   have gZ:=gP.o;rw[e] at gZ;exact⟨k+1,xs++[0,255],A5,c5,by omega,by omega,by go_num,HST.o.symm,by rw[hn];rfl,by rw[hn];exact gZ,bC.o⟩;omega
  rw[ai hx] at HST;obtain⟨x,tR⟩:∃x,b[k]=x:=⟨_,rfl⟩;have hne:((x.toNat:Int)==0)=false:=by
   have:x.toNat≠0:=fun e=>hx (by rw[tR];exact sI.1 e)
   simp;omega
  rw[tR] at HST hc qz;have hxl:=x.toNat_lt;clear hx tR
  go_wp2_with (at_builtin;refine fK (ys:=[x]) rfl (.tmp 11) (.tmp 16) _ rfl rfl (HR.o.alloc _) _ rfl (j6 x rfl (aH wr _ _)) (by simp only[aU,bn];omega) (by simp;omega) ?_;intro A4 c4 w4 hr4 hg4;have cN:=aa hr4;have Gp:=aa (show Below w.heap.size wr w4 from ct (nT (j3 _ wr) hzz _) (dU hg4 (HR.o.alloc _) (by simp;omega)));have wP:wr.heap.size≤w4.heap.size:=Gp.o.size;have lC:=aa (show ∀k,k<wr.heap.size→(∀q,Value.ownBlock (.slice A' xs.length c')=some q→k≠q)→w4.heap[k]?=wr.heap[k]? from fun k hk hne=>(hg4.grow.block k (by simp;omega) (fun e=>hne k e.symm rfl)).trans (((ah wr).alloc _).below.block k hk));have gf:=qz.o w4 lC.o;have hb4:bk<w4.heap.size:=cU hbl (by have:=hg4.grow.size;simp at this;omega);clear hr4 hg4)
  go_roundg gk';have hn:(xs++[x]).length=xs.length+[x].length:=bD;exact⟨k+1,xs++[x],A4,c4,by omega,by omega,by go_num,HST.o.symm,by rw[hn];rfl,by rw[hn];exact cN.o,ct HG.o Gp.o⟩;omega
 obtain rfl:k=b.length:=by omega
 rw[fC] at hxs;have Kz:=aa hxs;clear hxs hg;go_wp2_with (at_builtin;refine fK (ys:=[0,0]) rfl (.tmp 26) (.tmp 27) _ rfl rfl (HR.o.alloc _) _ rfl (V4 (n:=2) [0,0] #[.int .u8 0,.int .u8 0] rfl (aH wr _ _) rfl) (by simp only[aU,bn];omega) (by simp;omega) ?_;intro A4 c4 w4 hr4 hg4;have cN:=aa hr4;have bz:=aa (show Grow w w4 from ct (HG.o.alloc _) (dU hg4 (HR.o.alloc _) (by simp;omega)));clear hr4 hg4);go_ret;exact fT.of (by rw[Kz.o];rfl) (by rw[Kz.o];simp[cW]) cN.o bz.o
end
section
open Go.RowKit Go.Shelf Go.WideShapes
theorem V5(m j:Nat)(hm:m<18446744073709551616):9007199254740992≤m / 2 ^ j↔j<sh m:=by
 rw[MV (jn (by omega)),← tS,← jy];unfold sh;by_cases h0:m=0
 ·subst h0;have:0<2 ^ (53+j):=jn (by omega);simp
 rw[← Nat.le_log2 h0];omega
theorem V6(m:Nat)(hm:m<18446744073709551616):sh m≤11:=by
 unfold sh;by_cases h0:m=0
 ·subst h0;decide
 have:m.log2<64:=by rw[Nat.log2_lt h0,Ph];exact hm
 omega
theorem adM(aM:Nat):Op.negFloat .f64 (Ieee.double.nearest false aM 0)=Ieee.double.nearest true aM 0:=by
 have key:∀r,r≤9218868437227405312→Op.negFloat .f64 (Ieee.double.word false r)=Ieee.double.word true r:=by
  intro r hr;have e1:Ieee.double.word false r=r:=by unfold Ieee.Format.word;simp
  have e2:Ieee.double.word true r=r+9223372036854775808:=by unfold Ieee.Format.word;rw[tT];simp;omega
  rw[e1,e2];show r ^^^ 2 ^ 63=_;rw[Gn];exact Pj r (by omega)
 unfold Ieee.Format.nearest;split
 ·exact key 0 (by omega)
 simp only[AJ];exact key _ (Nat.min_le_right _ _)
theorem adN(b:Nat)(w:World):(Op.unary .neg (.float .f64 b)).run prog w=.ok (.float .f64 (Op.negFloat .f64 b)) w:=rfl
theorem adO(m:Nat)(hm:m≤9223372036854775807)(w:World):Calls prog 153 #[.int .i64 (m:Int)] w fun e w'=>e=.returned (.tuple #[.int .u64 ((fl (m:Int)).1:Nat),.int .u64 ((fl (m:Int)).2:Nat)])∧w=w':=by
 have hb:=Gq;obtain⟨s,hs⟩:∃s,sh m=s:=⟨_,rfl⟩;have adP:s≤11:=by rw[← hs];exact V6 m (by omega)
 have hfl:fl (m:Int)=(Ieee.double.nearest false (m / 2 ^ s*2 ^ s) 0,m % 2 ^ s):=by
  unfold fl;rw[ar (by omega),yl,hs]
 have qd:=aa hfl;have HST:=aa (fun j=>V5 m j (by omega));rw[hs] at HST;clear hfl hs;go_enter func153,ntmps153;go_wp2_with fail;go_loopg [5] (s+1) (fun gk k wr=>∃j:Nat,j≤s∧gk+j=s+1∧k=.int .u64 (j:Int)∧wr=w);exact⟨0,aS _,rfl,rfl,rfl⟩;obtain⟨j,hj,hg,rfl,rfl⟩:=hrel;obtain⟨gk',rfl⟩:=bP gk (by omega);by_cases hlt:j<s
 ·have h1:=(HST.o j).2 hlt;have hd:decide ((9007199254740992:Int)≤(m:Int) / 2 ^ j)=true:=by
   apply bT;have:((m / 2 ^ j:Nat):Int)=(m:Int) / 2 ^ j:=by push_cast;rfl
   omega
  clear h1;go_wp2_with fail;go_roundg gk';exact⟨j+1,by omega,by omega,by go_num,rfl⟩;omega
 obtain rfl:j=s:=by omega
 have h1:¬ 9007199254740992≤m / 2 ^ j:=fun h=>by have:=(HST.o j).1 h;omega
 have hd:decide ((9007199254740992:Int)≤(m:Int) / 2 ^ j)=false:=by
  apply bY;have:((m / 2 ^ j:Nat):Int)=(m:Int) / 2 ^ j:=by push_cast;rfl
  omega
 clear h1;go_wp2_with fail;have kR:=sM m (2 ^ j);rw[nW] at kR;have hc:((m / 2 ^ j*2 ^ j:Nat):Int)=(m:Int) / 2 ^ j*2 ^ j:=by push_cast;rfl
 have e1:IntKind.u64.wrap ((m:Int) / 2 ^ j*2 ^ j)=((m / 2 ^ j*2 ^ j:Nat):Int):=by rw[← hc,IntKind.wrap_u64];omega
 have e2:IntKind.u64.wrap ((m:Int)-((m / 2 ^ j*2 ^ j:Nat):Int))=((m % 2 ^ j:Nat):Int):=by rw[IntKind.wrap_u64];omega
 go_ret2;refine⟨?_,rfl⟩;show Ending.returned (.tuple #[.int .u64 ((floatOfInt .f64 (IntKind.u64.wrap ((m:Int) / 2 ^ j*2 ^ j)):Nat):Int),.int .u64 (IntKind.u64.wrap ((m:Int)-IntKind.u64.wrap ((m:Int) / 2 ^ j*2 ^ j)))])=_;rw[e1,e2,qd.o];have e3:floatOfInt .f64 ((m / 2 ^ j*2 ^ j:Nat):Int)=Ieee.double.nearest false (m / 2 ^ j*2 ^ j) 0:=by
  show Ieee.double.nearest (decide (((m / 2 ^ j*2 ^ j:Nat):Int)<0)) (((m / 2 ^ j*2 ^ j:Nat):Int)).natAbs 0=_;rw[bY (by omega),Int.natAbs_natCast]
 rw[e3]
theorem adQ(m:Nat)(hm0:1≤m)(hm:m≤9223372036854775808)(w:World):Calls prog 153 #[.int .i64 (-(m:Int))] w fun e w'=>e=.returned (.tuple #[.int .u64 ((fl (-(m:Int))).1:Nat),.int .u64 ((fl (-(m:Int))).2:Nat)])∧w=w':=by
 have hb:=Gq;have KA:=adN
 obtain⟨i,hi⟩:∃i:Int,-(m:Int)=i:=⟨_,rfl⟩;obtain⟨s,hs⟩:∃s,sh m=s:=⟨_,rfl⟩;have adP:s≤11:=by rw[← hs];exact V6 m (by omega)
 have hfl:fl i=(Ieee.double.nearest true ((m+(2 ^ s-1)) / 2 ^ s*2 ^ s) 0,(m+(2 ^ s-1)) / 2 ^ s*2 ^ s-m):=by
  have e:i.natAbs=m:=by omega
  unfold fl;rw[ai (by omega),e,hs]
 rw[hi];have qd:=aa hfl;have HST:=aa (fun j=>V5 m j (by omega));rw[hs] at HST;have hi1:i<0:=by omega
 have hi2:-9223372036854775808≤i:=by omega
 have bG:IntKind.u64.wrap (IntKind.u64.wrap (-(i+1))+1)=(m:Int):=by rw[IntKind.wrap_u64,IntKind.wrap_u64];omega
 clear hfl hs;have HI:=aa hi;clear hi;go_enter func153,ntmps153;go_wp2_with fail;rw[show -(i+1)+1=(m:Int) by have:=HI.o;omega];go_loopg [8] (s+1) (fun gk k wr=>∃j:Nat,j≤s∧gk+j=s+1∧k=.int .u64 (j:Int)∧wr=w);exact⟨0,aS _,rfl,rfl,rfl⟩;obtain⟨j,hj,hg,rfl,rfl⟩:=hrel;obtain⟨gk',rfl⟩:=bP gk (by omega);by_cases hlt:j<s
 ·have h1:=(HST.o j).2 hlt;have hd:decide ((9007199254740992:Int)≤(m:Int) / 2 ^ j)=true:=by
   apply bT;have:((m / 2 ^ j:Nat):Int)=(m:Int) / 2 ^ j:=by push_cast;rfl
   omega
  clear h1;go_wp2_with fail;go_roundg gk';exact⟨j+1,by omega,by omega,by go_num,rfl⟩;omega
 obtain rfl:j=s:=by omega
 have h1:¬ 9007199254740992≤m / 2 ^ j:=fun h=>by have:=(HST.o j).1 h;omega
 have hd:decide ((9007199254740992:Int)≤(m:Int) / 2 ^ j)=false:=by
  apply bY;have:((m / 2 ^ j:Nat):Int)=(m:Int) / 2 ^ j:=by push_cast;rfl
  omega
 clear h1;have hp:0<2 ^ j:=jn (by omega);have Pk:2 ^ j≤2 ^ 11:=lg (by omega) (by omega);have e11:(2:Nat) ^ 11=2048:=by decide
 obtain⟨P,hP⟩:∃P,2 ^ j=P:=⟨_,rfl⟩;have Pm:(2:Int) ^ j=(P:Int):=by rw[← hP];push_cast;rfl
 rw[hP] at hp Pk;have a1:IntKind.u64.wrap ((2:Int) ^ j)=(P:Int):=by rw[Pm,IntKind.wrap_u64];omega
 have a2:IntKind.u64.wrap ((P:Int)-1)=((P-1:Nat):Int):=by rw[IntKind.wrap_u64];omega
 have a3:IntKind.u64.wrap ((m:Int)+((P-1:Nat):Int))=(m:Int)+((P-1:Nat):Int):=by rw[IntKind.wrap_u64];omega
 obtain⟨U,hU⟩:∃U,(m+(P-1)) / P*P=U:=⟨_,rfl⟩;have kR:=sM (m+(P-1)) P;have ig:=uT (m+(P-1)) hp;rw[nW,hU] at kR;have a4:IntKind.u64.wrap (((m:Int)+((P-1:Nat):Int)) / 2 ^ j*2 ^ j)=(U:Int):=by
  have:((m:Int)+((P-1:Nat):Int)) / 2 ^ j*2 ^ j=(U:Int):=by rw[Pm,← hU,mG,Int.natCast_ediv,Int.natCast_add]
  rw[this,IntKind.wrap_u64];omega
 have a5:IntKind.u64.wrap ((U:Int)-(m:Int))=((U-m:Nat):Int):=by rw[IntKind.wrap_u64];omega
 have a6:floatOfInt .f64 (U:Int)=Ieee.double.nearest false U 0:=by
  show Ieee.double.nearest (decide ((U:Int)<0)) ((U:Int)).natAbs 0=_;rw[bY (by omega),Int.natAbs_natCast]
 rw[hP,hU] at qd;have Dt:=aa a5;have xm:=aa a6;clear hP Pm hU kR ig hp Pk e11 a5 a6;go_wp2_with fail;go_ret2;refine⟨?_,rfl⟩;show Ending.returned (.tuple #[.int .u64 ((Op.negFloat .f64 (floatOfInt .f64 (U:Int)):Nat):Int),.int .u64 (IntKind.u64.wrap ((U:Int)-(m:Int)))])=_;rw[Dt.o,xm.o,qd.o,adM]
theorem adR(i:Int)(h1:-9223372036854775808≤i)(h2:i≤9223372036854775807)(w:World):Calls prog 153 #[.int .i64 i] w fun e w'=>e=.returned (.tuple #[.int .u64 ((fl i).1:Nat),.int .u64 ((fl i).2:Nat)])∧w=w':=by
 by_cases h:0≤i
 ·obtain⟨m,rfl⟩:=Int.eq_ofNat_of_zero_le h;exact adO m (by omega) w
 obtain⟨m,hm⟩:∃m:Nat,i=-(m:Int):=⟨i.natAbs,by omega⟩;subst hm;exact adQ m (by omega) (by omega) w
end
section
open Go.RowKit
theorem Kept.V7{w w':World}{row:Option Nat}(h:w.grownBy w' row):Kept (fun q=>row=some q) w w':=
 ⟨h.os,h.tape,h.output,h.size,fun k hk hs=>h.block k hk fun e=>hs e.symm⟩
theorem Kept.none_{w w':World}(h:Grow w w'):Kept (fun _=>False) w w':=jh h
section
variable {α β:Type}
structure GR (f:α→List Value) (z:Nat) (T:TypeId) (R:(Addr→Value→Prop)→α→β→Prop) (S:Nat→Prop) (w:World) (lo:Nat) (A:Option Addr) (c:Nat) (xs:List α) (ys:List β):Prop where
 row:w.ownsRow lo T z (.slice A xs.length c) xs.length ((xs.map f).flatten)
 two:Two (R (fp w (fun q=>bM A=some q∨S q))) xs ys
variable {f:α→List Value} {z:Nat} {T:TypeId} {R:(Addr→Value→Prop)→α→β→Prop} {S:Nat→Prop} {w w':World} {lo c c':Nat} {A A':Option Addr} {xs:List α} {ys:List β}
theorem GR.kept{K:Nat→Prop}(hm:∀(C C':Addr→Value→Prop),(∀p u,C p u→C' p u)→∀a b,R C a b→R C' a b)(h:GR f z T R S w lo A c xs ys)(hk:Kept K w w')(hs:∀q,K q→S q)(hA:∀g,bM A=some g→¬ K g):GR f z T R S w' lo A c xs ys:=
 ⟨gD h.row hk hA,h.two.mono fun a b k=>hm _ _ (xg hk fun q hq=>.inr (hs q hq)) a b k⟩
theorem GR.grow(hm:∀(C C':Addr→Value→Prop),(∀p u,C p u→C' p u)→∀a b,R C a b→R C' a b)(h:GR f z T R S w lo A c xs ys)(hg:Grow w w'):GR f z T R S w' lo A c xs ys:=
 h.kept hm (Kept.none_ hg) (fun _ h=>h.elim) (fun _ _ h=>h)
theorem GR.nil(w:World):GR f z T R S w lo none 0 [] []:=⟨by rw[mZ,Jj];exact iH _ _ _ _,Two.nil⟩
theorem GR.made{g cap:Nat}(h:w.ownsRow lo T z (.slice (some ⟨g,0,none⟩) 0 cap) 0 []):GR f z T R S w lo (some ⟨g,0,none⟩) cap [] ([]:List β):=⟨by rw[mZ,Jj];exact h,Two.nil⟩
theorem GR.add(hm:∀(C C':Addr→Value→Prop),(∀p u,C p u→C' p u)→∀a b,R C a b→R C' a b)(h:GR f z T R S w lo A c xs ys){a:α}{b:β}(hv:R (fp w (fun q=>bM A=some q∨S q)) a b)
 (hr:w'.ownsRow lo T z (.slice A' (xs.length+1) c') (xs.length+1) ((xs.map f).flatten++f a)) (hg:w.grownBy w' (Value.ownBlock (.slice A xs.length c))) (hA:Value.ownBlock (.slice A' (xs.length+1) c')=Value.ownBlock (.slice A xs.length c)∨Value.ownBlock (.slice A' (xs.length+1) c')=some w.heap.size) :
 GR f z T R S w' lo A' c' (xs++[a]) (ys++[b]):=by
 rw[cE,cE] at hA;rw[cE] at hg;have hC:∀p u,fp w (fun q=>bM A=some q∨S q) p u→fp w' (fun q=>bM A'=some q∨S q) p u:=fun p u hp=>by
  have hp2:=xg (Kept.V7 hg) (fun q hq=>.inl hq) p u hp;refine⟨hp2.1,hp2.2.1,fun hq=>?_⟩;rcases hq with hq | hq
  ·rcases hA with hA | hA
   ·rw[hA] at hq;exact hp.2.2 (.inl hq)
   rw[hA] at hq;injection hq with hq;have:=hp.2.1;omega
  exact hp.2.2 (.inr hq)
 refine⟨?_,(h.two.mono fun x y k=>hm _ _ hC x y k).append (Two.one (hm _ _ hC _ _ hv))⟩;rw[bD,MR,lZ,zP];simpa using hr
end
abbrev vF:Cv→List Value:=fun c=>c.cells.toList
abbrev vR:(Addr→Value→Prop)→Cv→V→Prop:=fun C c v=>IsV C v c
theorem pN(C C':Addr→Value→Prop)(h:∀p u,C p u→C' p u)(a:Cv)(b:V)(k:vR C a b):vR C' a b:=iL h _ _ k
abbrev VR(S:Nat→Prop)(w:World)(lo:Nat)(A:Option Addr)(c:Nat)(cs:List Cv)(ag:List V):Prop:=GR vF 5 27 vR S w lo A c cs ag
abbrev cF:Cc→List Value:=fun c=>c.cells.toList
abbrev cR:(Addr→Value→Prop)→Cc→Co→Prop:=fun C e c=>vB C e c
theorem lL(C C':Addr→Value→Prop)(h:∀p u,C p u→C' p u)(a:Cc)(b:Co)(k:cR C a b):cR C' a b:=k.mono h
abbrev CR(S:Nat→Prop)(w:World)(lo:Nat)(A:Option Addr)(c:Nat)(es:List Cc)(st:List Co):Prop:=GR cF 3 48 cR S w lo A c es st
theorem VR.list{S:Nat→Prop}{w:World}{lo c:Nat}{A:Option Addr}{cs:List Cv}{ag:List V}(h:VR S w lo A c cs ag)(hS:∀g,bM A=some g→¬ S g)(hl:ag.length≤140737488355328):IsV (fp w S) (.mk 7 0 [] ag []) (kf A ag.length c):=by
 have hlen:=h.two.1;have hr:=h.row;rw[hlen] at hr;refine OU (ku hr hS) ⟨hlen.symm,fun j v d hv hd=>?_⟩ (nH hr).1 hl;exact iL (fp.sub fun q hq=>.inr hq) _ _ (h.two.2 j d v hd hv)
theorem VR.KC{S:Nat→Prop}{w:World}{lo c:Nat}{A:Option Addr}{cs:List Cv}{ag:List V}(h:VR S w lo A c cs ag)(hS:∀g,bM A=some g→¬ S g)(hl:ag.length≤140737488355328):InL w A c ag:=iL jW _ _ (h.list hS hl)
theorem CR.adS{S:Nat→Prop}{w:World}{lo c:Nat}{A:Option Addr}{es:List Cc}{st:List Co}(h:CR S w lo A c es st):dR w A c st:=by
 have hlen:=h.two.1;have hr:=h.row;rw[hlen] at hr;refine⟨(nH hr).1,es,h.two.mono fun a b k=>k.mono jW,?_⟩;exact(ku (S:=fun _=>False) hr (fun _ _ h=>h)).mono jW
end
abbrev Gr:=@Kept.V7
end Go.Proofs.YtndjopkdbdcmdaaGreatDoor
