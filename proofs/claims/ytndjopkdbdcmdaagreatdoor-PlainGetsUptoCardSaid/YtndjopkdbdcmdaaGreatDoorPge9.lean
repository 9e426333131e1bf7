/- Part 9 of the proof of pgets_card. -/
import Derived.Test.YtndjopkdbdcmdaaGreatDoorPge7
import Derived.Deep.Slices
import Derived.ProofKit
import Derived.OpenShut
import Derived.SizedLaws
import Derived.Lib.LaidIn
import Derived.Lib.LaidU8T
import Derived.Test.YtndjopkdbdcmdaaGreatDoorCards
import Derived.Test.YtndjopkdbdcmdaaGreatDoorTie
import Derived.Deep.DeepHandedRow
import Derived.Deep.DeepWitnessRowRef
import Derived.SevenTiedAt
set_option linter.unusedVariables false
set_option linter.unusedSimpArgs false
set_option maxRecDepth 100000
set_option maxHeartbeats 12800000
open Go.Proofs.Tryz
open Go.RowKit
namespace Go.Proofs.YtndjopkdbdcmdaaGreatDoor
variable {A:Option Addr}{F:Func}{W w w' w0:World}{base fuel i j lo vb z:Nat}{ch ck cl cx:Cv}{held:Bool}{s:ByteArray}{t:TypeId}{tmps:Array Value}{u v:Value}
section
open Go.RowKit Go.Shelf
def jl:V→ByteArray→Option V
 | .mk k _ _ l f,s=>if k=7 then (if 0≤oJ s.data.toList then l[(oJ s.data.toList).toNat]? else none) else (f.find? fun x=>decide (x.1=s)).map Prod.snd
theorem amy(C:Addr→Value→Prop):IsV C V.zero Cv.zero:=by
 unfold V.zero;rw[IsV];exact⟨rfl,rfl,rfl,rfl,rfl,by omega,by omega,by omega,by simp,by simp,by simp,by simp,by simp,by simp,⟨rfl,fun h=>absurd h (by simp)⟩,fun i h=>absurd h (by simp),fun i h=>absurd h (by simp)⟩
def u6(w:World)(g:Option V)(e:Ending)(w':World):Prop:=
 Grow w w'∧∃(c:Cv) (t:Bool) (u:V),e=.returned (.tuple #[c.agg,.bool t])∧IsV (bQ w' w.heap.size w'.heap.size) u c∧((g=some u∧t=true)∨(g=none∧t=false∧u=V.zero∧c=Cv.zero))
theorem u6.no{g:Option V}(h:g=none)(hg:Grow w w'):u6 w g (.returned (.tuple #[Cv.zero.agg,.bool false])) w':=
 ⟨hg,Cv.zero,false,V.zero,rfl,amy _,.inr ⟨h,rfl,rfl,rfl⟩⟩
theorem u6.yes{g:Option V}{u:V}{c:Cv}(h:g=some u)(hg:Grow w w')(hlo:w.heap.size≤lo)(hi:IsV (bQ w' lo w'.heap.size) u c):u6 w g (.returned (.tuple #[c.agg,.bool true])) w':=
 ⟨hg,c,true,u,rfl,dX (fun p u h=>⟨h.1,aV hlo h.2.1,h.2.2⟩) u c hi,.inl ⟨h,rfl⟩⟩
def lN(w0 w:World)(g:Option V)(e:Ending)(w':World):Prop:=
 Grow w w'∧∃(c:Cv) (t:Bool) (u:V),e=.returned (.tuple #[c.agg,.bool t])∧In w0 u c∧((g=some u∧t=true)∨(g=none∧t=false∧u=V.zero∧c=Cv.zero))
theorem lN.no{g:Option V}(h:g=none)(hg:Grow w w'):lN w0 w g (.returned (.tuple #[Cv.zero.agg,.bool false])) w':=
 ⟨hg,Cv.zero,false,V.zero,rfl,In.KA w0,.inr ⟨h,rfl,rfl,rfl⟩⟩
theorem lN.yes{g:Option V}{u:V}{c:Cv}(h:g=some u)(hg:Grow w w')(hi:In w0 u c):lN w0 w g (.returned (.tuple #[c.agg,.bool true])) w':=
 ⟨hg,c,true,u,rfl,hi,.inl ⟨h,rfl⟩⟩
theorem qH(hF:F.results=#[ResultVar.cell 4 27,ResultVar.tmp 5])(h2:tmps.getD 4 undef=.pointer (some ⟨vb,0,none⟩))(h3:tmps.getD 5 undef=u)(c:Cv)(hv:Blk W vb 27 c.cells) :
 (results F tmps).run prog W=.ok (.tuple #[c.agg,u]) W:=by
 have hl:=FP (P:=prog) W vb 27 27 c.cells (0,0) _ hv underlying27 rfl abW;have h2':tmps[4]?.getD undef=.pointer (some ⟨vb,0,none⟩):=by simpa using h2
 have h3':tmps[5]?.getD undef=u:=by simpa using h3
 simp[results,hF,h2',h3',asAddr,hl]
theorem BL{n:Nat}{b:List UInt8}{l:List V}{f:List (ByteArray×V)}:jl (.mk 7 n b l f) s=if 0≤oJ s.data.toList then l[(oJ s.data.toList).toNat]? else none:=by
 simp[jl]
theorem amz(n:Nat)(b:List UInt8)(l:List V)(f:List (ByteArray×V))(s:ByteArray)(c:Cv)(w0 w:World)(hg0:Grow w0 w)(hv:In w0 (.mk 7 n b l f) c) :
 Calls prog 48 #[c.agg,.string s] w (lN w0 w (jl (.mk 7 n b l f) s)):=by
 rw[BL];obtain⟨z,hz⟩:∃z,oJ s.data.toList=z:=⟨_,rfl⟩;have HI:=aa (fun w=>ak4 s w);rw[hz] at HI ⊢;clear hz;obtain⟨aB,aL,aF,cB,cL,cF,rfl,-,-,-,-,-,h6,h7,-⟩:=hv.open;have HG:=aa (fun x:Cv=>((ah w).alloc (.cells (Cv.cells ⟨7,(n:Int),aB,b.length,cB,aL,l.length,cL,aF,f.length,cF⟩) 27)).alloc (.cells x.cells 27));have HB:=aa (fun x:Cv=>cM (w:=w.alloc (.cells (Cv.cells ⟨7,(n:Int),aB,b.length,cB,aL,l.length,cL,aF,f.length,cF⟩) 27)) (g:=w.heap.size+1) (by simp) 27 x.cells);have HV:=aa hv;by_cases hz0:0≤z
 ·rw[aD hz0];by_cases hz1:z<l.length
  ·obtain⟨i,rfl⟩:∃i:Nat,z=i:=⟨z.toNat,by omega⟩;have hi:i<l.length:=by omega
   rw[A_,bH hi];obtain⟨bk,o,x,ha,hbk,e0,e1,e2,e3,e4,hx⟩:=hv.fh i hi;dsimp only at ha;subst ha;replace e0:=(hg0.below.cell hbk).trans e0;replace e1:=(hg0.below.cell hbk).trans e1;replace e2:=(hg0.below.cell hbk).trans e2;replace e3:=(hg0.below.cell hbk).trans e3;replace e4:=(hg0.below.cell hbk).trans e4;replace hbk:=bG hbk hg0.size;have HX:=aa hx;clear hx hv hz0 hz1 hg0;go_enter func48,ntmps48;go_wp2_with (go_at_call 91;refine(HI.o _).mono ?_;rintro e w' ⟨rfl,rfl⟩);refine gV (qH rfl rfl rfl x (HB.o x)) rfl (lN.yes rfl (HG.o x) HX.o)
  have hn:l[z.toNat]?=none:=FQ (by omega);have HN:=aa hn;clear hn;go_enter func48,ntmps48;go_wp2_with (go_at_call 91;refine(HI.o _).mono ?_;rintro e w' ⟨rfl,rfl⟩);refine gV (qH rfl rfl rfl Cv.zero (HB.o Cv.zero)) rfl (lN.no HN.o (HG.o Cv.zero))
 rw[ak hz0];go_enter func48,ntmps48;go_wp2_with (go_at_call 91;refine(HI.o _).mono ?_;rintro e w' ⟨rfl,rfl⟩);refine gV (qH rfl rfl rfl Cv.zero (HB.o Cv.zero)) rfl (lN.no rfl (HG.o Cv.zero))
theorem wQ{k:Int}(hk:k≠7){n:Nat}{b:List UInt8}{l:List V}{f:List (ByteArray×V)}:jl (.mk k n b l f) s=(f.find? fun x=>decide (x.1=s)).map Prod.snd:=by
 simp[jl,hk]
theorem PZ{f:List (ByteArray×V)}(h:j<f.length)(h0:∀i (hi:i<f.length),i<j→f[i].1≠s)(he:f[j].1=s):(f.find? fun x=>decide (x.1=s))=some f[j]:=by
 induction f generalizing j with
 | nil=>simp at h
 | cons x r ih =>
  cases j with
  | zero =>
   simp only[FN] at he ⊢;rw[List.find?_cons,cj he]
  | succ j =>
   have hx:=h0 0 (by simp) (by omega);simp only[FN] at hx;simp only[Kc] at he ⊢;rw[List.find?_cons,cm hx];exact ih (by simpa using h) (fun i hi hij=>by have:=h0 (i+1) (by simpa using hi) (by omega);simpa using this) he
theorem K8{f:List (ByteArray×V)}(h0:∀i (hi:i<f.length),f[i].1≠s):(f.find? fun x=>decide (x.1=s))=none:=by
 rw[List.find?_eq_none];intro x hx;obtain⟨i,hi,rfl⟩:=sQ hx;simpa using h0 i hi
theorem amA(k:Int)(hk:k≠7)(n:Nat)(b:List UInt8)(l:List V)(f:List (ByteArray×V))(s:ByteArray)(c:Cv)(w0 w:World)(hg0:Grow w0 w)(hv:In w0 (.mk k n b l f) c) :
 Calls prog 48 #[c.agg,.string s] w (lN w0 w (jl (.mk k n b l f) s)):=by
 rw[wQ hk];obtain⟨aB,aL,aF,cB,cL,cF,rfl,-,-,-,-,-,-,-,h8,h9,-⟩:=hv.open;have HG:=aa (((ah w).alloc (.cells (Cv.cells ⟨k,(n:Int),aB,b.length,cB,aL,l.length,cL,aF,f.length,cF⟩) 27)).alloc (.cells Cv.zero.cells 27));have HB:=aa (cM (w:=w.alloc (.cells (Cv.cells ⟨k,(n:Int),aB,b.length,cB,aL,l.length,cL,aF,f.length,cF⟩) 27)) (g:=w.heap.size+1) (by simp) 27 Cv.zero.cells);have HV:=aa hv;have hkq:(k==7)=false:=by simpa using hk
 have aN:=aa hg0;clear hv hk hg0;go_enter func48,ntmps48;go_wp2_with fail;go_loopg [8,32] (f.length+1) (fun gk x i wr=>∃j:Nat,j≤f.length∧gk+j=f.length+1∧i=.int .i64 j∧(∀i (hi:i<f.length),i<j→f[i].1≠s)∧Grow w wr∧Blk wr (w.heap.size+1) 27 Cv.zero.cells);exact⟨0,by omega,by omega,rfl,fun i _ h=>absurd h (by omega),HG.o,HB.o⟩;obtain⟨j,hj,ji,rfl,hne,hw,hB⟩:=hrel;have HN:=aa hne;have HW:=aa hw;have mN:=aa hB;by_cases hlt:j<f.length
 ·obtain⟨gk',rfl⟩:=bz gk (by omega);obtain⟨bk,o,x,ha,hbk,es,ik,e0,e1,e2,e3,e4,hx⟩:=HV.o.gX j hlt;replace es:=((aN.o.trans hw).below.cell hbk).trans es;replace e0:=((aN.o.trans hw).below.cell hbk).trans e0;replace e1:=((aN.o.trans hw).below.cell hbk).trans e1;replace e2:=((aN.o.trans hw).below.cell hbk).trans e2;replace e3:=((aN.o.trans hw).below.cell hbk).trans e3;replace e4:=((aN.o.trans hw).below.cell hbk).trans e4;replace hbk:=bG hbk (aN.o.trans hw).size;dsimp only at ha;subst ha;have HX:=aa hx;obtain⟨q,hq⟩:∃q,f[j].1=q:=⟨_,rfl⟩;rw[hq] at es;have HQ:=aa hq;have nU:=aa (fun cs=>hw.alloc (.cells cs 82));have mA:=aa (fun cs=>hB.alloc (.cells cs 82))
  have hc1:=(mA.o #[.string q,.int .i64 x.k,.int .u64 x.n,.slice x.aB x.nB x.cB,.slice x.aL x.nL x.cL,.slice x.aF x.nF x.cF]).cell;have ku:=(mA.o #[.string q,.int .i64 x.k,.int .u64 x.n,.slice x.aB x.nB x.cB,.slice x.aL x.nL x.cL,.slice x.aF x.nF x.cF]).lt;have hz1:=(mA.o #[.string q,.int .i64 x.k,.int .u64 x.n,.slice x.aB x.nB x.cB,.slice x.aL x.nL x.cL,.slice x.aF x.nF x.cF]).frozen;clear hne hw hB hx hq;by_cases he:q=s
  ·subst he;have HF:=aa (show (f.find? fun x=>decide (x.1=q)).map Prod.snd=some f[j].2 by rw[PZ hlt HN.o HQ.o];rfl);go_wp2_with fail;refine gV (qH rfl rfl rfl x (wI (c:=x) (mA.o _))) rfl (lN.yes HF.o ((nU.o _).mK (fJ _) x) HX.o)
  have HE:=aa he;have om:(q.toList==s.toList)=false:=by
   simp only[pd,ne_eq];intro h;rw[toList_data,toList_data] at h;exact he (Dg (yY h))
  clear he;go_wp2_with fail;go_roundg gk';refine⟨j+1,by omega,by omega,by go_num,fun i hi hij=>?_,nU.o _,mA.o _⟩;by_cases pJ:i=j
  ·subst pJ;rw[HQ.o];exact HE.o
  exact HN.o i hi (by omega);omega
 obtain⟨gk',rfl⟩:=bz gk (by omega);obtain rfl:j=f.length:=by omega
 have HF:=aa (show (f.find? fun x=>decide (x.1=s)).map Prod.snd=none by rw[K8 (fun i hi=>HN.o i hi hi)];rfl);have hc1:=mN.o.cell;have ku:=mN.o.lt;have hz1:=mN.o.frozen;clear hne hw hB;go_wp2_with fail;refine gV (qH rfl rfl rfl Cv.zero (Ed (c:=Cv.zero) mN.o)) rfl (lN.no HF.o (HW.o.mK (fJ _) Cv.zero))
theorem ad7(v:V)(s:ByteArray)(c:Cv)(w0 w:World)(hg0:Grow w0 w)(hv:In w0 v c):Calls prog 48 #[c.agg,.string s] w (lN w0 w (jl v s)):=by
 obtain⟨k,n,b,l,f⟩:=v;by_cases hk:k=7
 ·subst hk;exact amz n b l f s c w0 w hg0 hv
 exact amA k hk n b l f s c w0 w hg0 hv
end
abbrev P9:=@lN.no
abbrev P7:=@lN.yes
abbrev jW:ByteArray:=⟨#[95,105,100]⟩
theorem RB:jW.toList=[95,105,100]:=by decide +kernel
def kC(v:V):Option V:=(v.f.find? fun x=>decide (x.1=jW)).map Prod.snd
theorem ab4(hF:F.results=#[ResultVar.cell 2 27,ResultVar.tmp 3])(h2:tmps.getD 2 undef=.pointer (some ⟨vb,0,none⟩))(h3:tmps.getD 3 undef=u)(c:Cv)(hv:Blk W vb 27 c.cells) :
 (results F tmps).run prog W=.ok (.tuple #[c.agg,u]) W:=by
 have hl:=FP (P:=prog) W vb 27 27 c.cells (0,0) _ hv underlying27 rfl abW;have h2':tmps[2]?.getD undef=.pointer (some ⟨vb,0,none⟩):=by simpa using h2
 have h3':tmps[3]?.getD undef=u:=by simpa using h3
 simp[results,hF,h2',h3',asAddr,hl]
theorem amB(k:Int)(n:Nat)(b:List UInt8)(l:List V)(f:List (ByteArray×V))(c:Cv)(w0 w:World)(hg0:Grow w0 w)(hv:In w0 (.mk k n b l f) c) :
 Calls prog 52 #[c.agg] w (lN w0 w (kC (.mk k n b l f))):=by
 obtain⟨s,hs⟩:∃s,s=jW:=⟨_,rfl⟩;rw[show kC (.mk k n b l f)=(f.find? fun x=>decide (x.1=s)).map Prod.snd by rw[hs];rfl];have HS:=aa hs;clear hs;obtain⟨aB,aL,aF,cB,cL,cF,rfl,-,-,-,-,-,-,-,h8,h9,-⟩:=hv.open;have HG:=aa (((ah w).alloc (.cells (Cv.cells ⟨k,(n:Int),aB,b.length,cB,aL,l.length,cL,aF,f.length,cF⟩) 27)).alloc (.cells Cv.zero.cells 27));have HB:=aa (cM (w:=w.alloc (.cells (Cv.cells ⟨k,(n:Int),aB,b.length,cB,aL,l.length,cL,aF,f.length,cF⟩) 27)) (g:=w.heap.size+1) (by simp) 27 Cv.zero.cells);have HV:=aa hv;have aN:=aa hg0;clear hv hg0;go_enter func52,ntmps52;go_wp2_with fail
 go_loopg [5,9] (f.length+1) (fun gk x i wr=>∃j:Nat,j≤f.length∧gk+j=f.length+1∧i=.int .i64 j∧(∀i (hi:i<f.length),i<j→f[i].1≠s)∧Grow w wr∧Blk wr (w.heap.size+1) 27 Cv.zero.cells);exact⟨0,by omega,by omega,rfl,fun i _ h=>absurd h (by omega),HG.o,HB.o⟩;obtain⟨j,hj,ji,rfl,hne,hw,hB⟩:=hrel;have HN:=aa hne;have HW:=aa hw;have mN:=aa hB;by_cases hlt:j<f.length
 ·obtain⟨gk',rfl⟩:=bz gk (by omega);obtain⟨bk,o,x,ha,hbk,es,ik,e0,e1,e2,e3,e4,hx⟩:=HV.o.gX j hlt;replace es:=((aN.o.trans hw).below.cell hbk).trans es;replace e0:=((aN.o.trans hw).below.cell hbk).trans e0;replace e1:=((aN.o.trans hw).below.cell hbk).trans e1;replace e2:=((aN.o.trans hw).below.cell hbk).trans e2;replace e3:=((aN.o.trans hw).below.cell hbk).trans e3;replace e4:=((aN.o.trans hw).below.cell hbk).trans e4;replace hbk:=bG hbk (aN.o.trans hw).size;dsimp only at ha;subst ha;have HX:=aa hx;obtain⟨q,hq⟩:∃q,f[j].1=q:=⟨_,rfl⟩;rw[hq] at es;have HQ:=aa hq;have nU:=aa (fun cs=>hw.alloc (.cells cs 82));have mA:=aa (fun cs=>hB.alloc (.cells cs 82))
  have hc1:=(mA.o #[.string q,.int .i64 x.k,.int .u64 x.n,.slice x.aB x.nB x.cB,.slice x.aL x.nL x.cL,.slice x.aF x.nF x.cF]).cell;have ku:=(mA.o #[.string q,.int .i64 x.k,.int .u64 x.n,.slice x.aB x.nB x.cB,.slice x.aL x.nL x.cL,.slice x.aF x.nF x.cF]).lt;have hz1:=(mA.o #[.string q,.int .i64 x.k,.int .u64 x.n,.slice x.aB x.nB x.cB,.slice x.aL x.nL x.cL,.slice x.aF x.nF x.cF]).frozen;clear hne hw hB hx hq;by_cases he:q=s
  ·have om:(q.toList==[95,105,100])=true:=by rw[← RB,he,← HS.o];simp
   subst he;have HF:=aa (show (f.find? fun x=>decide (x.1=q)).map Prod.snd=some f[j].2 by rw[PZ hlt HN.o HQ.o];rfl);go_wp2_with fail;refine gV (ab4 rfl rfl rfl x (wI (c:=x) (mA.o _))) rfl (P7 HF.o ((nU.o _).mK (fJ _) x) HX.o)
  have HE:=aa he;have om:(q.toList==[95,105,100])=false:=by
   rw[← RB,← HS.o];simp only[pd,ne_eq];intro h;rw[toList_data,toList_data] at h;exact he (Dg (yY h))
  clear he;go_wp2_with fail;go_roundg gk';refine⟨j+1,by omega,by omega,by go_num,fun i hi hij=>?_,nU.o _,mA.o _⟩;by_cases pJ:i=j
  ·subst pJ;rw[HQ.o];exact HE.o
  exact HN.o i hi (by omega);omega
 obtain⟨gk',rfl⟩:=bz gk (by omega);obtain rfl:j=f.length:=by omega
 have HF:=aa (show (f.find? fun x=>decide (x.1=s)).map Prod.snd=none by rw[K8 (fun i hi=>HN.o i hi hi)];rfl);have hc1:=mN.o.cell;have ku:=mN.o.lt;have hz1:=mN.o.frozen;clear hne hw hB;go_wp2_with fail;refine gV (ab4 rfl rfl rfl Cv.zero (Ed (c:=Cv.zero) mN.o)) rfl (P9 HF.o (HW.o.mK (fJ _) Cv.zero))
theorem KV(v:V)(c:Cv)(w0 w:World)(hg0:Grow w0 w)(hv:In w0 v c):Calls prog 52 #[c.agg] w (lN w0 w (kC v)):=by
 obtain⟨k,n,b,l,f⟩:=v;exact amB k n b l f c w0 w hg0 hv
section
open Go.RowKit Go.ChangeShapes Go.Shelf Go.Deep
theorem ab5:prog.cellsOf 5=1:=by kernel_rfl
theorem amC:prog.bytesOf 5=1:=by kernel_rfl
section
variable {H:Type} {enc:TypeId×Value→H} {W:World} {sp:Nat→Bool} {held:Bool}
theorem JO(a:Addr):a.add 0=a:=by unfold Addr.add;simp
theorem Vf{a:Addr}(h:W.cell? a=some u):a=⟨a.block,a.off,none⟩:=by
 obtain⟨bk,o,s⟩:=a
 cases s with
 | none=>rfl
 | some s =>
  exfalso;unfold World.cell? at h;simp only at h;split at h
  ·simp at h
  cases h
theorem amD{c:Value}{x:DataW H×List MemPlace}(h:DataW.trod enc prog W 0 sp held fuel 23 [c]=some x)(hw:∀n∈x.1.weights prog 23,n≤reachBytes) :
 ∃A b cap,c=.slice A b.length cap∧b.length≤cap∧b.length≤140737488355328∧bh W A b:=by
 rcases open_slice1 fk ab5 h with ⟨hc,hx⟩ | ⟨a,len,cap,m,n,V,D,Pl,hc,hb,hl,hm,hmm,hx,hall⟩
 ·injection hc with hc;subst hc;exact⟨none,[],0,rfl,by simp,by simp,⟨by simp[b_],fun h=>by simp at h⟩⟩
 injection hc with hc;have ab6:len≤m:=by rw[hmm];split<;>omega
 have hV:∀i,i<len→∃y:UInt8,V i=.int .u8 (y.toNat:Int):=fun i hi=>by
  obtain⟨h1,h2⟩:=hall i (by omega);obtain⟨n',hn,hx',hwf⟩:=F5 Dz h2;injection hn with hn;have hr:0≤n'∧n'<256:=by
   have h3:(decide (IntKind.u8.min≤n')&&decide (n'≤IntKind.u8.max))=true:=hwf;rw[ig,iy,iy] at h3;have e1:IntKind.u8.min=0:=rfl;have e2:IntKind.u8.max=255:=rfl;rw[e1,e2] at h3;omega
  refine⟨UInt8.ofNat n'.toNat,?_⟩;rw[hn,Dc];congr 1;omega
 let y:Nat→UInt8:=fun i=>if h:i<len then Classical.choose (hV i h) else 0
 have hy:∀i,i<len→V i=.int .u8 ((y i).toNat:Int):=fun i hi=>by
  show V i=.int .u8 ((if h:i<len then Classical.choose (hV i h) else 0:UInt8).toNat:Int);rw[dif_pos hi];exact xP (hV i hi)
 have hlb:((List.range len).map y).length=len:=by simp
 have hwt:len≤reachBytes:=by
  have:=hw ((len+(m-len))*1) (by rw[hx];simp[DataW.weights,amC]);omega
 have C9:=reachBytes_lt;refine⟨some a,(List.range len).map y,cap,by rw[hlb];exact hc,by rw[hlb];exact hl,by rw[hlb];simp only[Nat.reducePow] at C9;omega,⟨by rw[Ds,sP],fun hn=>?_⟩⟩;rw[hlb] at hn;have h0:=(hall 0 (by omega)).1;rw[JO] at h0;have ha:=Vf h0;refine⟨a.block,a.off,by rw[← ha],fun j u hu=>?_⟩;have hj:j<len:=by
  have:=(jd.1 hu).1;rwa [Ds,hlb] at this
 have hcell:=(hall j (by omega)).1;rw[ha,add_lit] at hcell;rw[wE _ j (by rw[hlb];exact hj)] at hu;injection hu with hu;subst hu;refine⟨?_,aR _,(show a.block<W.heap.size from Oh W _ h0)⟩;rw[hcell,hy j hj];simp
end
theorem amE{l:List (String×DataW Unit)}(h:laidMet prog l W)(h1:("unicode/utf8.first", Lib.firstData)∈l)(h2:("unicode/utf8.acceptRanges", Lib.acceptData)∈l):dz W:=
 utf8Tabs_of_readsT (U8Types.of196 abk) ⟨by kernel_rfl,by kernel_rfl,by kernel_rfl,by kernel_rfl,by kernel_rfl,by kernel_rfl,by kernel_rfl⟩ (Lib.laidMet.reads h h1) (Lib.laidMet.reads h h2)
theorem amF:(Rows.laid_unicode_utf8_first:DataW Unit)=Lib.firstData:=by kernel_rfl
theorem amG:(Rows.laid_unicode_utf8_acceptRanges:DataW Unit)=Lib.acceptData:=by kernel_rfl
noncomputable def Nf(os:Os):World:=
 let w0:=World.holding prog os ⟨#[],#[],[]⟩
 let put (h:Array Obj) (g:Nat) (cs:Array Value):Array Obj:=h.modify g fun
  | .cells _ t frozen=>.cells cs t frozen
  | o=>o
 let h1:=put w0.heap 0 (Lib.firstTab.map fun z=>Value.int .u8 z).toArray
 let h2:=put h1 1 ((List.range 16).flatMap fun i=>[Value.int .u8 (Lib.accLo i),Value.int .u8 (Lib.accHi i)]).toArray
 { w0 with heap:=h2 }
theorem amH(os:Os)(args:Array Value):laidMet prog [("unicode/utf8.acceptRanges", Lib.acceptData), ("unicode/utf8.first", Lib.firstData)] ((Nf os).forCall (fun _ _=>0) ⟨#[], args, []⟩).memory:=
 (LaidIn.of_run (l:=[("unicode/utf8.acceptRanges", Lib.acceptData), ("unicode/utf8.first", Lib.firstData)]) [1, 0] 8 (by kernel_rfl) (by kernel_rfl) (by kernel_rfl) (by kernel_rfl)).met
end
section
open Go.RowKit Go.ChangeShapes Go.Shelf Go.Deep
theorem Vg:∃fs:Array Field,prog.underlying 27=some (.struct fs)∧fs.map (fun f=>(f.type,f.offset))=#[(3,0),(22,1),(23,2),(24,3),(25,4)]:=⟨_,underlying27,by kernel_rfl⟩
theorem ab7:∃fs:Array Field,prog.underlying 82=some (.struct fs)∧fs.map (fun f=>(f.type,f.offset))=#[(9,0),(27,1)]:=⟨_,underlying82,by kernel_rfl⟩
theorem I9:prog.underlying 3=some (.int .i64):=by kernel_rfl
theorem amI:prog.underlying 22=some (.int .u64):=by kernel_rfl
theorem Vh:prog.cellsOf 3=1:=by kernel_rfl
theorem amJ:prog.cellsOf 22=1:=by kernel_rfl
theorem ab8:prog.cellsOf 23=1:=by kernel_rfl
theorem ab9:prog.cellsOf 24=1:=by kernel_rfl
theorem ab_:prog.cellsOf 25=1:=by kernel_rfl
theorem sM:prog.cellsOf 27=5:=by kernel_rfl
theorem aca:prog.cellsOf 82=6:=by kernel_rfl
theorem JP:prog.cellsOf 9=1:=by kernel_rfl
theorem amK:prog.bytesOf 27=88:=by kernel_rfl
theorem amL:prog.bytesOf 82=104:=by kernel_rfl
theorem NH{k:IntKind}{n:Int}(h:(Lit.int k n).wf=true):k.min≤n∧n≤k.max:=by
 have h3:(decide (k.min≤n)&&decide (n≤k.max))=true:=h;rw[ig,iy,iy] at h3;exact h3
theorem acb{H:Type}{P:Program}{e:TypeId}:∀{l:List (DataW H)} {d:DataW H},d∈l→∀n∈d.weights P e,n∈DataW.weightsAll P e l
 | x::r,d,h,n,hn=>by
  simp only[DataW.weightsAll,qo];rcases jI.1 h with e | e
  ·subst e;exact .inl hn
  exact .inr (acb e n hn)
section
variable {H:Type} {enc:TypeId×Value→H} {W:World} {sp:Nat→Bool} {held:Bool}
theorem open_row{e:TypeId}{dR:Nat}(ht:prog.underlying t=some (.slice e))(hz:prog.cellsOf e=z)(hz0:0<z)(hby:prog.bytesOf e=dR)(amM:0<dR){c:Value}{x:DataW H×List MemPlace}(h:DataW.trod enc prog W 0 sp held fuel t [c]=some x)(hw:∀n∈x.1.weights prog t,n≤reachBytes) :
 ∃(A:Option Addr) (len cap:Nat) (D:Nat→DataW H),c=.slice A len cap∧len≤cap∧len≤140737488355328∧((len=0)∨∃bk o,A=some ⟨bk,o,none⟩∧bk<W.heap.size) ∧
  ∀i,i<len→SizeOf.sizeOf (D i)<SizeOf.sizeOf x.1∧(∀n∈(D i).weights prog e,n≤reachBytes)∧∃(bk o fuel':Nat) (q:List MemPlace) (cs:List Value),A=some ⟨bk,o,none⟩∧cs.length=z∧(∀j u,cs[j]?=some u→bQ W 0 W.heap.size ⟨bk,o+i*z+j,none⟩ u)∧DataW.trod enc prog W 0 sp held fuel' e cs=some (D i,q):=by
 rcases open_slice ht h with ⟨hc,hx⟩ | ⟨a,len,cap,m,n,D,Pl,hc,hb,hl,hm,hmm,hx,hall⟩
 ·injection hc with hc;subst hc;exact⟨none,0,0,fun _=>x.1,rfl,by simp,by simp,.inl rfl,fun i hi=>absurd hi (by simp)⟩
 injection hc with hc;have ab6:len≤m:=by rw[hmm];split<;>omega
 rw[hz] at hall;have Fy:x.1=.slice ((List.range len).map D) ((List.range (m-len)).map fun j=>D (len+j)):=by rw[hx]
 have hwt:len≤reachBytes:=by
  have:=hw ((len+(m-len))*dR) (by rw[Fy];simp[DataW.weights,ht,hby]);have h2:len*1≤(len+(m-len))*dR:=Ko (by omega) amM;omega
 have C9:=reachBytes_lt;simp only[Nat.reducePow] at C9;have hcell:∀i,i<len→∃cs,cs.length=z∧(∀j u,cs[j]?=some u→W.cell? ((a.add (i*z)).add j)=some u)∧DataW.trod enc prog W 0 sp held n e cs=some (D i,Pl i):=fun i hi=>by
  obtain⟨cs,h1,h2⟩:=hall i (by omega);obtain⟨_,hlen,hcs⟩:=World.cells?_some h1;refine⟨cs,hlen,fun j u hu=>?_,h2⟩;have hj:j<z:=by rw[← hlen];exact(jd.1 hu).1
  rw[hcs j hj,hu]
 have JQ:0<len→a=⟨a.block,a.off,none⟩∧a.block<W.heap.size:=fun hn=>by
  obtain⟨cs,hlen,hcs,_⟩:=hcell 0 hn;have h0:=hcs 0 (cs[0]'(by omega)) (bH (by omega));rw[JO,FK,JO] at h0;exact⟨Vf h0,Oh W _ h0⟩
 refine⟨some a,len,cap,D,hc,hl,by omega,?_,fun i hi=>⟨?_,?_,?_⟩⟩
 ·rcases AU len with h0 | h0
  ·exact .inl h0
  exact .inr ⟨a.block,a.off,by rw[← (JQ h0).1],(JQ h0).2⟩
 ·rw[Fy];have hmem:D i∈(List.range len).map D:=mI.2 ⟨i,List.mem_range.2 hi,rfl⟩;have:=wh hmem;simp only[DataW.slice.sizeOf_spec];omega
 ·intro k hk;refine hw k ?_;rw[Fy];simp only[DataW.weights,ht,jI,qo];exact .inr (.inl (acb (mI.2 ⟨i,List.mem_range.2 hi,rfl⟩) k hk))
 obtain⟨cs,hlen,hcs,htr⟩:=hcell i hi;have ha:=JQ (by omega);refine⟨a.block,a.off,n,Pl i,cs,by rw[← ha.1],hlen,fun j u hu=>⟨?_,aR _,ha.2⟩,htr⟩;have:=hcs j u hu;rw[ha.1,add_lit,add_lit] at this;exact this
theorem AJ{fs:Array Field}{l:Array (TypeId×Nat)}(h:fs.map (fun f=>(f.type,f.offset))=l){o:Nat}(hi:l[i]?=some (t,o)):∃f,fs[i]?=some f∧f.type=t∧f.offset=o:=by
 subst h;rw[Array.getElem?_map] at hi
 cases hf:fs[i]? with
 | none=>rw[hf] at hi;cases hi
 | some f =>
  rw[hf] at hi;simp only[Kt,Option.some.injEq,Prod.mk.injEq] at hi;exact⟨f,rfl,hi.1,hi.2⟩
theorem JR(n:Nat):∀(d:DataW H),SizeOf.sizeOf d≤n→∀(fuel:Nat) (cs:List Value) (q:List MemPlace),DataW.trod enc prog W 0 sp held fuel 27 cs=some (d,q)→(∀k∈d.weights prog 27,k≤reachBytes) →
 ∃(v:V) (c:Cv),cs=c.cells.toList∧In W v c:=by
 induction n with
 | zero =>
  intro d hd;have:0<SizeOf.sizeOf d:=by cases d<;>simp;all_goals omega
  omega
 | succ n ih =>
  intro d hd fuel cs q h hw;obtain⟨fs,hu,ow⟩:=Vg;obtain⟨xs,m,Vi,hx,hlen,hxl,hall⟩:=Dp hu h;injection hx with hx1 hx2;subst hx1;rw[sM] at hlen;have hfl:fs.size=5:=by have:=dJ Array.size ow;simpa using this
  rw[hfl] at hxl;obtain⟨c0,c1,c2,c3,c4,rfl⟩:∃a b c d e,cs=[a,b,c,d,e]:=by
   match cs,hlen with
   | [a,b,c,d,e],_=>exact⟨a,b,c,d,e,rfl⟩
  obtain⟨x0,x1,x2,x3,x4,rfl⟩:∃a b c d e,xs=[a,b,c,d,e]:=by
   match xs,hxl with
   | [a,b,c,d,e],_=>exact⟨a,b,c,d,e,rfl⟩
  have jr:∀i t o,(#[(3,0),(22,1),(23,2),(24,3),(25,4)]:Array (TypeId×Nat))[i]?=some (t,o) →
   DataW.trod enc prog W 0 sp held m t (([c0,c1,c2,c3,c4].drop o).take (prog.cellsOf t))=[x0,x1,x2,x3,x4][i]?:=fun i t o hi=>by
   obtain⟨f,hf,rfl,rfl⟩:=AJ ow hi;exact hall i f hf
  have h0:=jr 0 _ _ rfl;have h1:=jr 1 _ _ rfl;have h2:=jr 2 _ _ rfl;have h3:=jr 3 _ _ rfl;have h4:=jr 4 _ _ rfl;rw[Vh] at h0;rw[amJ] at h1;rw[ab8] at h2;rw[ab9] at h3;rw[ab_] at h4;have Vj:fs.toList.map (·.type)=[3,22,23,24,25]:=by
   have:=dJ (fun a=>a.toList.map Prod.fst) ow;simp only[Array.toList_map,ma] at this;exact this
  have vZ:∀(j:Nat) (t:TypeId) (dd:DataW H),[3,22,23,24,25][j]?=some t→([x0,x1,x2,x3,x4].map (·.1))[j]?=some dd→∀k∈dd.weights prog t,k≤reachBytes:=fun j t dd hj hdd k hk=>by
   refine hw k ?_;simp only[DataW.weights,hu,Vj];exact DataW.weights_mem_each hj hdd k hk
  obtain⟨k,e0,_,hk⟩:=F5 I9 h0;obtain⟨nn,e1,_,hnn⟩:=F5 amI h1;simp at e0 e1;subst e0 e1;have hk':=NH hk;have hn':=NH hnn;have i1:IntKind.i64.min=-9223372036854775808:=rfl;have i2:IntKind.i64.max=9223372036854775807:=rfl;have i3:IntKind.u64.min=0:=rfl;have i4:IntKind.u64.max=18446744073709551615:=rfl;rw[i1,i2] at hk';rw[i3,i4] at hn';obtain⟨AB,b,cB,rfl,hbc,hbl,amN⟩:=amD h2 (vZ 2 _ _ rfl rfl);obtain⟨AL,nl,cL,DL,rfl,hlc,hll,Fq,hL⟩:=open_row km sM (by omega) amK (by omega) h3 (vZ 3 _ _ rfl rfl);obtain⟨AF,nf,cF,DF,rfl,hfc,KJ,hfa,hF⟩:=open_row Bu aca (by omega) amL (by omega) h4 (vZ 4 _ _ rfl rfl);have amO:SizeOf.sizeOf x3.1<n+1:=by
   have:SizeOf.sizeOf x3.1<SizeOf.sizeOf (DataW.agg ([x0,x1,x2,x3,x4].map (·.1))):=by
    have:=wh (show x3.1∈[x0,x1,x2,x3,x4].map (·.1) by simp);simp only[Dq];omega
   omega
  have QD:SizeOf.sizeOf x4.1<n+1:=by
   have:SizeOf.sizeOf x4.1<SizeOf.sizeOf (DataW.agg ([x0,x1,x2,x3,x4].map (·.1))):=by
    have:=wh (show x4.1∈[x0,x1,x2,x3,x4].map (·.1) by simp);simp only[Dq];omega
   omega
  have Vk:∀i,i<nl→∃(v:V),∃bk o c,AL=some ⟨bk,o,none⟩∧kV (bQ W 0 W.heap.size) bk (o+i*5) c∧In W v c:=fun i hi=>by
   obtain⟨s1,s2,bk,o,fuel',q',cs',ha,hlen',hcs',htr⟩:=hL i hi;obtain⟨v,c,rfl,hin⟩:=ih (DL i) (by omega) fuel' cs' q' htr s2;exact⟨v,bk,o,c,ha,⟨hcs' 0 _ rfl,hcs' 1 _ rfl,hcs' 2 _ rfl,hcs' 3 _ rfl,hcs' 4 _ rfl⟩,hin⟩
  have CG:∀i,i<nf→∃(sv:ByteArray×V),∃bk o c,AF=some ⟨bk,o,none⟩∧bQ W 0 W.heap.size ⟨bk,o+i*6,none⟩ (.string sv.1)∧sv.1.size≤140737488355328∧kV (bQ W 0 W.heap.size) bk (o+i*6+1) c∧In W sv.2 c:=fun i hi=>by
   obtain⟨s1,s2,bk,o,fuel',q',cs',ha,hlen',hcs',htr⟩:=hF i hi;obtain⟨gs,gu,AK⟩:=ab7;obtain⟨ys,m',_,hy,Vl,C8,JS⟩:=Dp gu htr;injection hy with hy1 hy2;have hgl:gs.size=2:=by have:=dJ Array.size AK;simpa using this
   rw[hgl] at C8;obtain⟨y0,y1,rfl⟩:∃a b,ys=[a,b]:=by
    match ys,C8 with
    | [a,b],_=>exact⟨a,b,rfl⟩
   obtain⟨d0,d1,d2,d3,d4,d5,rfl⟩:∃a b c d e f,cs'=[a,b,c,d,e,f]:=by
    match cs',hlen' with
    | [a,b,c,d,e,f],_=>exact⟨a,b,c,d,e,f,rfl⟩
   obtain⟨f0,um,t0,o0⟩:=AJ AK (i:=0) rfl;obtain⟨f1,Vm,t1,o1⟩:=AJ AK (i:=1) rfl;have g0:=JS 0 f0 um;have g1:=JS 1 f1 Vm;rw[t0,o0,JP] at g0;rw[t1,o1,sM] at g1;have amP:gs.toList.map (·.type)=[9,27]:=by
    have:=dJ (fun a=>a.toList.map Prod.fst) AK;simp only[Array.toList_map,ma] at this;exact this
   have gw:∀(j:Nat) (t:TypeId) (dd:DataW H),[9,27][j]?=some t→([y0,y1].map (·.1))[j]?=some dd→∀k∈dd.weights prog t,k≤reachBytes:=fun j t dd hj hdd k hk=>by
    refine s2 k ?_;rw[hy1];simp only[DataW.weights,gu,amP];exact DataW.weights_mem_each hj hdd k hk
   obtain⟨s,es,hys,_⟩:=Dr pz g0;simp at es;subst es;have hsl:s.size≤reachBytes:=by
    have:=gw 0 _ _ rfl rfl s.data.toList.length (by rw[hys];simp[DataW.weights]);simpa using this
   have C9:=reachBytes_lt;simp only[Nat.reducePow] at C9;have hsy:SizeOf.sizeOf y1.1<SizeOf.sizeOf (DF i):=by
    rw[hy1];have:=wh (show y1.1∈[y0,y1].map (·.1) by simp);simp only[Dq];omega
   obtain⟨v,c,hc,hin⟩:=ih y1.1 (by omega) m' [d1,d2,d3,d4,d5] y1.2 g1 (gw 1 _ _ rfl rfl);injection hc with e1 hc;injection hc with e2 hc;injection hc with e3 hc;injection hc with e4 hc;injection hc with e5 _;subst e1 e2 e3 e4 e5;exact⟨(s,v),bk,o,c,ha,hcs' 0 _ rfl,by show s.size≤_;omega,⟨hcs' 1 _ rfl,hcs' 2 _ rfl,hcs' 3 _ rfl,hcs' 4 _ rfl,hcs' 5 _ rfl⟩,hin⟩
  let vl:Nat→V:=fun i=>if h:i<nl then Classical.choose (Vk i h) else V.zero
  have hvl:∀i (h:i<nl),∃bk o c,AL=some ⟨bk,o,none⟩∧kV (bQ W 0 W.heap.size) bk (o+i*5) c∧In W (vl i) c:=fun i h=>by
   show ∃bk o c,_∧_∧In W (if h:i<nl then Classical.choose (Vk i h) else V.zero) c;rw[dif_pos h];exact xP (Vk i h)
  let vf:Nat→ByteArray×V:=fun i=>if h:i<nf then Classical.choose (CG i h) else (⟨#[]⟩,V.zero)
  have hvf:∀i (h:i<nf),∃bk o c,AF=some ⟨bk,o,none⟩∧bQ W 0 W.heap.size ⟨bk,o+i*6,none⟩ (.string (vf i).1)∧(vf i).1.size≤140737488355328∧kV (bQ W 0 W.heap.size) bk (o+i*6+1) c∧In W (vf i).2 c:=fun i h=>by
   have e:vf i=Classical.choose (CG i h):=by
    show (if h:i<nf then Classical.choose (CG i h) else (⟨#[]⟩,V.zero))=_;rw[dif_pos h]
   rw[e];exact xP (CG i h)
  have NI:((List.range nl).map vl).length=nl:=by simp
  have NJ:((List.range nf).map vf).length=nf:=by simp
  refine⟨.mk k nn.toNat b ((List.range nl).map vl) ((List.range nf).map vf),⟨k,nn,AB,b.length,cB,AL,nl,cL,AF,nf,cF⟩,rfl,?_⟩;unfold In;rw[IsV];refine⟨rfl,by show nn=(nn.toNat:Int);omega,rfl,NI.symm,NJ.symm,hk'.1,hk'.2,by omega,hbc,hbl,by rw[NI];exact hlc,by rw[NI];exact hll,by rw[NJ];exact hfc,by rw[NJ];exact KJ,amN,fun i hi=>?_,fun i hi=>?_⟩
  ·rw[iO,List.getElem_range];obtain⟨bk,o,c,e,h5,hin⟩:=hvl i (by rw[NI] at hi;exact hi);exact⟨bk,o,c,e,h5,hin⟩
  rw[iO,List.getElem_range];obtain⟨bk,o,c,e,hs,hz,h5,hin⟩:=hvf i (by rw[NJ] at hi;exact hi);exact⟨bk,o,c,e,hs,hz,h5,hin⟩
end
end
section
open Go.RowKit Go.ChangeShapes Go.ChangeAt Go.Shelf Go.WideShapes
theorem ajW:ownKnob prog.godebug=none:=by kernel_rfl
theorem Ng:laidOutB prog=true:=by kernel_rfl
def JT:List (String×DataW Unit):=[("unicode/utf8.acceptRanges", Rows.laid_unicode_utf8_acceptRanges), ("unicode/utf8.first", Rows.laid_unicode_utf8_first)]
theorem acd:JT=[("unicode/utf8.acceptRanges", Lib.acceptData), ("unicode/utf8.first", Lib.firstData)]:=by
 unfold JT;rw[amF,amG]
theorem ajX(os:Os)(args:Array Value):laidMet prog JT ((Nf os).forCall (fun _ _=>0) ⟨#[],args,[]⟩).memory:=by
 rw[acd];exact amH os args
theorem aj8(h:laidMetH prog JT W):dz W:=by
 have h2:laidMet prog JT W:=h;rw[acd] at h2;exact amE h2 (.tail _ (.head _)) (.head _)
end
section
open Go.RowKit Go.ChangeShapes Go.Shelf Go.Deep Go.WideShapes
theorem amQ:prog.underlying 4=some .bool:=by kernel_rfl
theorem amR:prog.cellsOf 4=1:=by kernel_rfl
theorem T3:prog.underlying 36=some (.slice 33):=by kernel_rfl
theorem amS:prog.bytesOf 33=424:=by kernel_rfl
theorem amT{α:Type}{n:Nat}{p:Nat→α→Prop}(h:∀i,i<n→∃x,p i x):∃l:List α,l.length=n∧∀i (hi:i<l.length),p i l[i]:=by
 induction n with
 | zero=>exact⟨[],rfl,fun i hi=>absurd hi (by simp)⟩
 | succ n ih =>
  obtain⟨l,hl,hp⟩:=ih (fun i hi=>h i (by omega));obtain⟨x,hx⟩:=h n (by omega);refine⟨l++[x],by simp[hl],fun i hi=>?_⟩;by_cases hlt:i<l.length
  ·rw[Kb hlt];exact hp i hlt
  have hin:i=n:=by simp at hi;omega
  subst hin;have:(l++[x])[i]=x:=by rw[NU (by omega)];simp[hl]
  rw[this];exact hx
section
variable {H:Type} {enc:TypeId×Value→H} {W:World} {sp:Nat→Bool} {held:Bool}
theorem TZ:∃fs:Array Field,prog.underlying 33=some (.struct fs)∧fs.map (fun f=>(f.type,f.offset))=#[(3,0),(9,1),(9,2),(9,3),(4,4),(27,5),(27,10),(27,15),(27,20),(3,25)]:=⟨_,underlying33,by kernel_rfl⟩
theorem Vn:prog.cellsOf 33=26:=by kernel_rfl
theorem abg(d:DataW H)(fuel:Nat)(cs:List Value)(q:List MemPlace)(h:DataW.trod enc prog W 0 sp held fuel 33 cs=some (d,q))(hw:∀k∈d.weights prog 33,k≤reachBytes) :
 ∃(r:Rq) (ck cl ch cx:Cv),cs=(b9 r.aM r.aw r.index r.path r.unique ck cl ch cx r.n).toList∧In W r.key ck∧In W r.low cl∧In W r.high ch∧In W r.doc cx∧(-9223372036854775808≤r.aM∧r.aM≤9223372036854775807)∧(-9223372036854775808≤r.n∧r.n≤9223372036854775807)∧r.aw.size≤140737488355328∧r.index.size≤140737488355328∧r.path.size≤140737488355328:=by
 obtain⟨fs,hu,ow⟩:=TZ;obtain⟨xs,m,Vi,hx,hlen,hxl,hall⟩:=Dp hu h;injection hx with hx1 hx2;subst hx1;rw[Vn] at hlen;have hfl:fs.size=10:=by have:=dJ Array.size ow;simpa using this
 rw[hfl] at hxl;obtain⟨c0,c1,c2,c3,c4,c5,c6,c7,c8,c9,c10,c11,c12,c13,c14,c15,c16,c17,c18,c19,c20,c21,JU,JV,JW,JX,rfl⟩:∃c0 c1 c2 c3 c4 c5 c6 c7 c8 c9 c10 c11 c12 c13 c14 c15 c16 c17 c18 c19 c20 c21 JU JV JW JX,cs=[c0,c1,c2,c3,c4,c5,c6,c7,c8,c9,c10,c11,c12,c13,c14,c15,c16,c17,c18,c19,c20,c21,JU,JV,JW,JX]:=by
  match cs,hlen with
  | [c0,c1,c2,c3,c4,c5,c6,c7,c8,c9,c10,c11,c12,c13,c14,c15,c16,c17,c18,c19,c20,c21,JU,JV,JW,JX],_=>exact⟨c0,c1,c2,c3,c4,c5,c6,c7,c8,c9,c10,c11,c12,c13,c14,c15,c16,c17,c18,c19,c20,c21,JU,JV,JW,JX,rfl⟩
 obtain⟨x0,x1,x2,x3,x4,x5,x6,x7,x8,x9,rfl⟩:∃x0 x1 x2 x3 x4 x5 x6 x7 x8 x9,xs=[x0,x1,x2,x3,x4,x5,x6,x7,x8,x9]:=by
  match xs,hxl with
  | [x0,x1,x2,x3,x4,x5,x6,x7,x8,x9],_=>exact⟨x0,x1,x2,x3,x4,x5,x6,x7,x8,x9,rfl⟩
 have jr:∀i t o,(#[(3,0),(9,1),(9,2),(9,3),(4,4),(27,5),(27,10),(27,15),(27,20),(3,25)]:Array (TypeId×Nat))[i]?=some (t,o) →
  DataW.trod enc prog W 0 sp held m t (([c0,c1,c2,c3,c4,c5,c6,c7,c8,c9,c10,c11,c12,c13,c14,c15,c16,c17,c18,c19,c20,c21,JU,JV,JW,JX].drop o).take (prog.cellsOf t))=[x0,x1,x2,x3,x4,x5,x6,x7,x8,x9][i]?:=fun i t o hi=>by
  obtain⟨f,hf,rfl,rfl⟩:=AJ ow hi;exact hall i f hf
 have Vj:fs.toList.map (·.type)=[3,9,9,9,4,27,27,27,27,3]:=by
  have:=dJ (fun a=>a.toList.map Prod.fst) ow;simp only[Array.toList_map,ma] at this;exact this
 have vZ:∀(j:Nat) (t:TypeId) (dd:DataW H),[3,9,9,9,4,27,27,27,27,3][j]?=some t→([x0,x1,x2,x3,x4,x5,x6,x7,x8,x9].map (·.1))[j]?=some dd→∀k∈dd.weights prog t,k≤reachBytes:=fun j t dd hj hdd k hk=>by
  refine hw k ?_;simp only[DataW.weights,hu,Vj];exact DataW.weights_mem_each hj hdd k hk
 have i1:IntKind.i64.min=-9223372036854775808:=rfl;have i2:IntKind.i64.max=9223372036854775807:=rfl;have C9:=reachBytes_lt;simp only[Nat.reducePow] at C9;have h0:=jr 0 _ _ rfl;rw[Vh] at h0;obtain⟨n0,e0,_,r0⟩:=F5 I9 h0;simp at e0;subst e0;replace r0:=NH r0;rw[i1,i2] at r0;have h1:=jr 1 _ _ rfl;rw[JP] at h1;obtain⟨n1,e1,y1,_⟩:=Dr pz h1;simp at e1;subst e1;have r1:n1.size≤140737488355328:=by
  have:=vZ 1 _ _ rfl rfl n1.data.toList.length (by rw[show x1=_ from y1];simp[DataW.weights]);simp at this;omega
 have h2:=jr 2 _ _ rfl;rw[JP] at h2;obtain⟨n2,e2,y2,_⟩:=Dr pz h2;simp at e2;subst e2;have r2:n2.size≤140737488355328:=by
  have:=vZ 2 _ _ rfl rfl n2.data.toList.length (by rw[show x2=_ from y2];simp[DataW.weights]);simp at this;omega
 have h3:=jr 3 _ _ rfl;rw[JP] at h3;obtain⟨n3,e3,y3,_⟩:=Dr pz h3;simp at e3;subst e3;have r3:n3.size≤140737488355328:=by
  have:=vZ 3 _ _ rfl rfl n3.data.toList.length (by rw[show x3=_ from y3];simp[DataW.weights]);simp at this;omega
 have h4:=jr 4 _ _ rfl;rw[amR] at h4;obtain⟨n4,e4,_⟩:=DataW.trod_bool amQ h4;simp at e4;subst e4;have h5:=jr 5 _ _ rfl;rw[sM] at h5;obtain⟨n5,g5,e5,r5⟩:=JR _ x5.1 (au _) m _ x5.2 h5 (vZ 5 _ _ rfl rfl);simp at e5;obtain⟨rfl,rfl,rfl,rfl,rfl⟩:=e5;have h6:=jr 6 _ _ rfl;rw[sM] at h6;obtain⟨n6,g6,e6,r6⟩:=JR _ x6.1 (au _) m _ x6.2 h6 (vZ 6 _ _ rfl rfl);simp at e6;obtain⟨rfl,rfl,rfl,rfl,rfl⟩:=e6;have h7:=jr 7 _ _ rfl;rw[sM] at h7;obtain⟨n7,g7,e7,r7⟩:=JR _ x7.1 (au _) m _ x7.2 h7 (vZ 7 _ _ rfl rfl);simp at e7;obtain⟨rfl,rfl,rfl,rfl,rfl⟩:=e7;have h8:=jr 8 _ _ rfl;rw[sM] at h8;obtain⟨n8,g8,e8,r8⟩:=JR _ x8.1 (au _) m _ x8.2 h8 (vZ 8 _ _ rfl rfl);simp at e8;obtain⟨rfl,rfl,rfl,rfl,rfl⟩:=e8
 have h9:=jr 9 _ _ rfl;rw[Vh] at h9;obtain⟨n9,e9,_,r9⟩:=F5 I9 h9;simp at e9;subst e9;replace r9:=NH r9;rw[i1,i2] at r9;exact⟨⟨n0,n1,n2,n3,n4,n5,n6,n7,n8,n9⟩,g5,g6,g7,g8,rfl,r5,r6,r7,r8,r0,r9,r1,r2,r3⟩
end
end
section
open Go.RowKit Go.ChangeShapes Go.Shelf Go.Deep Go.WideShapes
theorem ace(f:Nat→Nat):∀(n i:Nat),i<n→f i≤((List.range n).map f).sum
 | 0,i,h=>absurd h (by omega)
 | n+1,i,h=>by
  rw[List.range_succ,l7,J8];simp only[fN,nW,qm,Di];by_cases hi:i=n
  ·subst hi;omega
  have:=ace f n i (by omega);omega
theorem acf(f:Nat→Nat):∀(n:Nat),(∀i,1≤f i)→n≤((List.range n).map f).sum
 | 0,_=>aR _
 | n+1,h=>by
  rw[List.range_succ,l7,J8];simp only[fN,nW,qm,Di];have:=acf f n h;have:=h n;omega
def Jm{H:Type}:DataW H:=.agg [.lit (.int .i64 0),.lit (.int .u64 0),.nil,.nil,.nil]
theorem JY{H:Type}(d:DataW H):1≤Rows.uptoBulk d:=by
 cases d with
 | lit l=>cases l<;>simp[Rows.uptoBulk]
 | nil=>simp[Rows.uptoBulk]
 | ptr d=>simp[Rows.uptoBulk]
 | slice elems spare=>simp[Rows.uptoBulk]
 | agg parts=>simp[Rows.uptoBulk]
 | iface t d=>simp[Rows.uptoBulk]
 | map entries=>simp[Rows.uptoBulk]
 | held h=>simp[Rows.uptoBulk]
theorem amU{H:Type}{α:Type}(D:α→DataW H)(l:List α):Rows.uptoBulkAll (l.map D)=(l.map fun i=>Rows.uptoBulk (D i)).sum:=by
 induction l with
 | nil=>simp[Rows.uptoBulkAll]
 | cons x r ih=>simp[Rows.uptoBulkAll,ih]
theorem NK{α:Type}(p:α→Nat):∀(l:List α) (g:Nat→Nat),(∀i (h:i<l.length),p l[i]≤g i)→(l.map p).sum≤((List.range l.length).map g).sum
 | [],g,_=>by simp
 | x::r,g,h=>by
  have h0:=h 0 (by simp);have hr:=NK p r (fun i=>g (i+1)) (fun i hi=>by have:=h (i+1) (by simpa using hi);simpa using this);rw[aU,List.range_succ_eq_map,fN,fN,qm,qm,ma];simp only[FN] at h0;have:(List.range r.length).map (g ∘ Nat.succ)=(List.range r.length).map fun i=>g (i+1):=rfl
  rw[this];omega
section
variable {H:Type} {enc:TypeId×Value→H} {W:World} {sp:Nat→Bool} {held:Bool}
theorem NL{e:TypeId}(ht:prog.underlying t=some (.slice e))(hz:prog.cellsOf e=z)(hz0:0<z){len cap:Nat}{x:DataW H×List MemPlace}(h:DataW.trod enc prog W 0 sp held fuel t [.slice A len cap]=some x) :
 ∃D:Nat→DataW H,1+((List.range len).map fun i=>Rows.uptoBulk (D i)).sum≤Rows.uptoBulk x.1 ∧
  ∀i,i<len→SizeOf.sizeOf (D i)<SizeOf.sizeOf x.1∧∃(bk o fuel':Nat) (q:List MemPlace) (cs:List Value),A=some ⟨bk,o,none⟩∧cs.length=z∧(∀j u,cs[j]?=some u→W.cell? ⟨bk,o+i*z+j,none⟩=some u)∧DataW.trod enc prog W 0 sp held fuel' e cs=some (D i,q):=by
 rcases open_slice ht h with ⟨hc,hx⟩ | ⟨a,len',cap',m,n,D,Pl,hc,hb,hl,hm,hmm,hx,hall⟩
 ·injection hc with hc;injection hc with q1 q2 q3;subst q2;exact⟨fun _=>x.1,by have:=JY x.1;simpa using this,fun i hi=>absurd hi (by simp)⟩
 injection hc with hc;injection hc with q1 q2 q3;subst q1 q2 q3;have ab6:len≤m:=by rw[hmm];split<;>omega
 rw[hz] at hall;have Fy:x.1=.slice ((List.range len).map D) ((List.range (m-len)).map fun j=>D (len+j)):=by rw[hx]
 have hcell:∀i,i<len→∃cs,cs.length=z∧(∀j u,cs[j]?=some u→W.cell? ((a.add (i*z)).add j)=some u)∧DataW.trod enc prog W 0 sp held n e cs=some (D i,Pl i):=fun i hi=>by
  obtain⟨cs,h1,h2⟩:=hall i (by omega);obtain⟨_,hlen,hcs⟩:=World.cells?_some h1;refine⟨cs,hlen,fun j u hu=>?_,h2⟩;have hj:j<z:=by rw[← hlen];exact(jd.1 hu).1
  rw[hcs j hj,hu]
 have JQ:0<len→a=⟨a.block,a.off,none⟩:=fun hn=>by
  obtain⟨cs,hlen,hcs,_⟩:=hcell 0 hn;have h0:=hcs 0 (cs[0]'(by omega)) (bH (by omega));rw[JO,FK,JO] at h0;exact Vf h0
 refine⟨D,?_,fun i hi=>⟨?_,?_⟩⟩
 ·rw[Fy,Rows.uptoBulk,amU];omega
 ·rw[Fy];have hmem:D i∈(List.range len).map D:=mI.2 ⟨i,List.mem_range.2 hi,rfl⟩;have:=wh hmem;simp only[DataW.slice.sizeOf_spec];omega
 obtain⟨cs,hlen,hcs,htr⟩:=hcell i hi;have ha:=JQ (by omega);refine⟨a.block,a.off,n,Pl i,cs,by rw[← ha],hlen,fun j u hu=>?_,htr⟩;have:=hcs j u hu;rw[ha,add_lit,add_lit] at this;exact this
theorem v_{a:Addr}(h:W.cell? a=some u)(k:W.cell? a=some v):u=v:=nZ (h.symm.trans k)
theorem JZ(n:Nat):∀(d:DataW H),SizeOf.sizeOf d≤n→∀(fuel:Nat) (c:Cv) (v:V) (q:List MemPlace),DataW.trod enc prog W 0 sp held fuel 27 c.cells.toList=some (d,q)→In W v c →
 v.bytes.length≤16*Rows.uptoBulk d:=by
 induction n with
 | zero =>
  intro d hd;have:0<SizeOf.sizeOf d:=by cases d<;>simp;all_goals omega
  omega
 | succ n ih =>
  intro d hd fuel c v q h hv;obtain⟨fs,hu,ow⟩:=Vg;obtain⟨xs,m,Vi,hx,hlen,hxl,hall⟩:=Dp hu h;injection hx with hx1 hx2;subst hx1;have hfl:fs.size=5:=by have:=dJ Array.size ow;simpa using this
  rw[hfl] at hxl;obtain⟨x0,x1,x2,x3,x4,rfl⟩:∃a b c d e,xs=[a,b,c,d,e]:=by
   match xs,hxl with
   | [a,b,c,d,e],_=>exact⟨a,b,c,d,e,rfl⟩
  obtain⟨k,nn,b,l,f⟩:=v;have hV:=hv;unfold In at hv;rw[IsV] at hv;obtain⟨ck,cn,aB,nB,cB,aL,nL,cL,aF,nF,cF⟩:=c;obtain⟨e1,e2,e3,e4,e5,_,_,_,_,_,_,_,_,_,_,hL,hF⟩:=hv;dsimp only at e1 e2 e3 e4 e5 hL hF;subst e1 e2 e3 e4 e5;have jr:∀i t o,(#[(3,0),(22,1),(23,2),(24,3),(25,4)]:Array (TypeId×Nat))[i]?=some (t,o) →
   DataW.trod enc prog W 0 sp held m t (([Value.int .i64 ck,.int .u64 nn,.slice aB b.length cB,.slice aL l.length cL,.slice aF f.length cF].drop o).take (prog.cellsOf t))=[x0,x1,x2,x3,x4][i]?:=fun i t o hi=>by
   obtain⟨fd,hfd,rfl,rfl⟩:=AJ ow hi;exact hall i fd hfd
  have h2:=jr 2 _ _ rfl;have h3:=jr 3 _ _ rfl;have h4:=jr 4 _ _ rfl;rw[ab8] at h2;rw[ab9] at h3;rw[ab_] at h4;obtain⟨DB,hB,_⟩:=NL fk ab5 (by omega) h2;obtain⟨DL,hLb,Ni⟩:=NL km sM (by omega) h3;obtain⟨DF,hFb,Nj⟩:=NL Bu aca (by omega) h4;have fp:b.length≤((List.range b.length).map fun i=>Rows.uptoBulk (DB i)).sum:=by
   have:=NK (fun _:UInt8=>1) b (fun i=>Rows.uptoBulk (DB i)) (fun i _=>JY _);have h1:∀r:List UInt8,(r.map fun _=>1).sum=r.length:=fun r=>by
    induction r with
    | nil=>rfl
    | cons x r ih=>simp only[fN,qm,ih,aU];omega
   rw[h1] at this;exact this
  have amO:SizeOf.sizeOf x3.1<n+1:=by
   have:SizeOf.sizeOf x3.1<SizeOf.sizeOf (DataW.agg ([x0,x1,x2,x3,x4].map (·.1))):=by
    have:=wh (show x3.1∈[x0,x1,x2,x3,x4].map (·.1) by simp);simp only[Dq];omega
   omega
  have QD:SizeOf.sizeOf x4.1<n+1:=by
   have:SizeOf.sizeOf x4.1<SizeOf.sizeOf (DataW.agg ([x0,x1,x2,x3,x4].map (·.1))):=by
    have:=wh (show x4.1∈[x0,x1,x2,x3,x4].map (·.1) by simp);simp only[Dq];omega
   omega
  have tS:=NK (fun x:V=>x.bytes.length) l (fun i=>16*Rows.uptoBulk (DL i)) (fun i hi=>by
   obtain⟨s1,bk,o,fuel',q',cs',ha,hlen',hcs',htr⟩:=Ni i hi;obtain⟨tG,o2,x,ha2,h5,hin⟩:=hL i hi;rw[ha] at ha2;injection ha2 with ha2;injection ha2 with z1 z2;subst z1 z2;obtain⟨d0,d1,d2,d3,d4,rfl⟩:∃a b c d e,cs'=[a,b,c,d,e]:=by
    match cs',hlen' with
    | [a,b,c,d,e],_=>exact⟨a,b,c,d,e,rfl⟩
   obtain⟨k0,k1,k2,k3,k4⟩:=h5;obtain rfl:=v_ (hcs' 0 _ rfl) k0.1;obtain rfl:=v_ (hcs' 1 _ rfl) k1.1;obtain rfl:=v_ (hcs' 2 _ rfl) k2.1;obtain rfl:=v_ (hcs' 3 _ rfl) k3.1;obtain rfl:=v_ (hcs' 4 _ rfl) k4.1;exact ih (DL i) (by omega) fuel' x l[i] q' htr hin)
  have hF1:=NK (fun x:ByteArray×V=>(V.item x.1 x.2.bytes).length) f (fun i=>16*Rows.uptoBulk (DF i)) (fun i hi=>by
   obtain⟨s1,bk,o,fuel',q',cs',ha,hlen',hcs',htr⟩:=Nj i hi;obtain⟨tG,o2,x,ha2,ks,kz,h5,hin⟩:=hF i hi;rw[ha] at ha2;injection ha2 with ha2;injection ha2 with z1 z2;subst z1 z2;obtain⟨gs,gu,AK⟩:=ab7;obtain⟨ys,m',_,hy,Vl,C8,JS⟩:=Dp gu htr;injection hy with hy1 hy2;have hgl:gs.size=2:=by have:=dJ Array.size AK;simpa using this
   rw[hgl] at C8;obtain⟨y0,y1,rfl⟩:∃a b,ys=[a,b]:=by
    match ys,C8 with
    | [a,b],_=>exact⟨a,b,rfl⟩
   obtain⟨d0,d1,d2,d3,d4,d5,rfl⟩:∃a b c d e f,cs'=[a,b,c,d,e,f]:=by
    match cs',hlen' with
    | [a,b,c,d,e,f],_=>exact⟨a,b,c,d,e,f,rfl⟩
   obtain⟨f0,um,t0,o0⟩:=AJ AK (i:=0) rfl;obtain⟨f1,Vm,t1,o1⟩:=AJ AK (i:=1) rfl;have g0:=JS 0 f0 um;have g1:=JS 1 f1 Vm;rw[t0,o0,JP] at g0;rw[t1,o1,sM] at g1;obtain⟨s,es,hys,_⟩:=Dr pz g0;simp at es;obtain⟨k0,k1,k2,k3,k4⟩:=h5;have hs:=v_ (hcs' 0 _ rfl) ks.1;rw[es] at hs;injection hs with hs;obtain rfl:=v_ (hcs' 1 _ rfl) k0.1;obtain rfl:=v_ (hcs' 2 _ rfl) k1.1;obtain rfl:=v_ (hcs' 3 _ rfl) k2.1;obtain rfl:=v_ (hcs' 4 _ rfl) k3.1;obtain rfl:=v_ (hcs' 5 _ rfl) k4.1;have hsy:SizeOf.sizeOf y1.1<SizeOf.sizeOf (DF i):=by
    rw[hy1];have:=wh (show y1.1∈[y0,y1].map (·.1) by simp);simp only[Dq];omega
   have hi2:=ih y1.1 (by omega) m' x f[i].2 y1.2 g1 hin;have hbs:Rows.uptoBulk y0.1=s.size+1:=by
    rw[hys];simp only[Rows.uptoBulk,xI];rfl
   rw[Dy,hy1];simp only[fN,nW,Rows.uptoBulk,Rows.uptoBulkAll];rw[hbs,← hs];omega)
  have acg:∀(g:Nat→Nat) (k:Nat),((List.range k).map fun i=>16*g i).sum=16*((List.range k).map g).sum:=fun g k=>by
   induction List.range k with
   | nil=>rfl
   | cons x r ih=>simp only[fN,qm,ih];omega
  rw[acg (fun i=>Rows.uptoBulk (DL i))] at tS;rw[acg (fun i=>Rows.uptoBulk (DF i))] at hF1;have p0:=JY x0.1;have p1:=JY x1.1;have aoB:(V.mk ck nn b l f).bytes.length≤13+b.length+(l.map fun x=>x.bytes.length).sum+(f.map fun x=>(V.item x.1 x.2.bytes).length).sum:=by
   rw[iP,aU];have hlf:(l.map V.bytes).flatten.length=(l.map fun x=>x.bytes.length).sum:=by rw[FJ,ma];rfl
   have lF:(f.map fun x:ByteArray×V=>V.item x.1 x.2.bytes).flatten.length=(f.map fun x=>(V.item x.1 x.2.bytes).length).sum:=by rw[FJ,ma];rfl
   split
   ·simp only[aU,bT];omega
   split
   ·rw[jJ];omega
   split
   ·rw[bp,jJ];omega
   split
   ·rw[aU,hlf];omega
   split
   ·rw[aU,lF];omega
   simp only[bT];omega
  simp only[fN,nW,Rows.uptoBulk,Rows.uptoBulkAll];omega
end
theorem aj7{H:Type}{enc:TypeId×Value→H}{sp:Nat→Bool}{d:DataW H}{p:List MemPlace}(hok:Value.okWide prog W .any base 27 v)
 (h:DataW.Trod enc prog W 0 sp held 27 v d p) (hw:∀n∈d.weights prog 27,n≤reachBytes):∃(x:V) (c:Cv),v=c.agg∧In W x c∧x.bytes.length≤16*Rows.uptoBulk d:=by
 obtain⟨fs,hu,_⟩:=Vg;obtain⟨cs,rfl,_⟩:=okWide_struct hu hok;obtain⟨fuel,hf⟩:=h;obtain⟨x,c,hc,hin⟩:=JR _ d (au _) fuel _ _ hf hw;have hcs:cs=c.cells:=by
  apply yY;exact hc
 subst hcs;exact⟨x,c,rfl,hin,JZ _ d (au _) fuel c x _ hf hin⟩
end
section
open Go.RowKit Go.ChangeShapes Go.Shelf Go.Deep Go.WideShapes
section
variable {H:Type} {enc:TypeId×Value→H} {W:World} {sp:Nat→Bool} {held:Bool}
theorem amV{dd n:Int}{sc si sp_:ByteArray}{u:Bool}{k l hh dx:V}(d:DataW H)(fuel:Nat)(q:List MemPlace)(h:DataW.trod enc prog W 0 sp held fuel 33 (b9 dd sc si sp_ u ck cl ch cx n).toList=some (d,q))
 (r5:In W k ck) (r6:In W l cl) (r7:In W hh ch) (r8:In W dx cx):∀v∈[k,l,hh,dx],v.bytes.length≤16*Rows.uptoBulk d:=by
 obtain⟨fs,hu,ow⟩:=TZ;obtain⟨xs,m,Vi,hx,hlen,hxl,hall⟩:=Dp hu h;injection hx with hx1 hx2;subst hx1;have hfl:fs.size=10:=by have:=dJ Array.size ow;simpa using this
 rw[hfl] at hxl;obtain⟨x0,x1,x2,x3,x4,x5,x6,x7,x8,x9,rfl⟩:∃x0 x1 x2 x3 x4 x5 x6 x7 x8 x9,xs=[x0,x1,x2,x3,x4,x5,x6,x7,x8,x9]:=by
  match xs,hxl with
  | [x0,x1,x2,x3,x4,x5,x6,x7,x8,x9],_=>exact⟨x0,x1,x2,x3,x4,x5,x6,x7,x8,x9,rfl⟩
 have jr:∀i t o,(#[(3,0),(9,1),(9,2),(9,3),(4,4),(27,5),(27,10),(27,15),(27,20),(3,25)]:Array (TypeId×Nat))[i]?=some (t,o) →
  DataW.trod enc prog W 0 sp held m t (((b9 dd sc si sp_ u ck cl ch cx n).toList.drop o).take (prog.cellsOf t))=[x0,x1,x2,x3,x4,x5,x6,x7,x8,x9][i]?:=fun i t o hi=>by
  obtain⟨f,hf,rfl,rfl⟩:=AJ ow hi;exact hall i f hf
 have h5:=jr 5 _ _ rfl;rw[sM] at h5;have b5:=JZ _ x5.1 (au _) m ck k x5.2 h5 r5;have h6:=jr 6 _ _ rfl;rw[sM] at h6;have b6:=JZ _ x6.1 (au _) m cl l x6.2 h6 r6;have h7:=jr 7 _ _ rfl;rw[sM] at h7;have b7:=JZ _ x7.1 (au _) m ch hh x7.2 h7 r7;have h8:=jr 8 _ _ rfl;rw[sM] at h8;have b8:=JZ _ x8.1 (au _) m cx dx x8.2 h8 r8;intro v hv;have hvs:v=k∨v=l∨v=hh∨v=dx:=by simpa using hv
 simp only[Rows.uptoBulk,Rows.uptoBulkAll,fN,nW];rcases hvs with rfl | rfl | rfl | rfl<;>omega
theorem aj6{c:Value}{x:DataW H×List MemPlace}(h:DataW.trod enc prog W 0 sp held fuel 36 [c]=some x)(hw:∀n∈x.1.weights prog 36,n≤reachBytes):∃A cap l,c=.slice A l.length cap∧oX W A l∧l.length≤140737488355328∧l.length≤Rows.uptoBulk x.1∧∀q∈l,(∀v∈[q.key,q.low,q.high,q.doc],v.bytes.length≤16*Rows.uptoBulk x.1)∧q.aw.size≤140737488355328∧q.index.size≤140737488355328:=by
 obtain⟨A,len,cap,D,rfl,hlc,hll,_,hall⟩:=open_row T3 Vn (by omega) amS (by omega) h hw;obtain⟨D2,hb,h2⟩:=NL T3 Vn (by omega) h;have h1:=acf (fun i=>Rows.uptoBulk (D2 i)) len (fun i=>JY _);have hv:∀i,i<len→∃(r:Rq),(∃(bk o:Nat) (ck cl ch cx:Cv),A=some ⟨bk,o,none⟩∧bk<W.heap.size ∧
  (∀k v,(b9 r.aM r.aw r.index r.path r.unique ck cl ch cx r.n)[k]?=some v→W.cell? ⟨bk,o+i*26+k,none⟩=some v)∧In W r.key ck∧In W r.low cl∧In W r.high ch∧In W r.doc cx)∧(∀v∈[r.key,r.low,r.high,r.doc],v.bytes.length≤16*Rows.uptoBulk x.1)∧r.aw.size≤140737488355328∧r.index.size≤140737488355328:=fun i hi=>by
  obtain⟨s1,s2,bk,o,fuel',q',cs',ha,hlen',hcs',htr⟩:=hall i hi;obtain⟨s3,tG,o2,amW,q2,cs2,ha2,Vl,amX,amY⟩:=h2 i hi;have hcc:cs2=cs':=by
   rw[ha] at ha2;injection ha2 with ha2;injection ha2 with ha2 Fw;subst ha2 Fw;refine List.ext_getElem (by rw[hlen',Vl]) fun j k1 k2=>?_
   have e1:=amX j _ (bH k1);have e2:=(hcs' j _ (bH k2)).1;exact nZ (e1.symm.trans e2)
  subst hcc;obtain⟨r,ck,cl,ch,cx,rfl,g1,g2,g3,g4,-,-,z1,z2,-⟩:=abg (D i) fuel' cs2 q' htr s2;have hbb:=amV (D2 i) amW q2 amY g1 g2 g3 g4;have hm:=ace (fun i=>Rows.uptoBulk (D2 i)) len i hi;refine⟨r,⟨bk,o,ck,cl,ch,cx,ha,(hcs' 0 _ rfl).2.2,fun k v hk=>(hcs' k v (by rwa [nC])).1,g1,g2,g3,g4⟩,fun v hv=>?_,z1,z2⟩;have:=hbb v hv;omega
 obtain⟨l,hl,hp⟩:=amT hv;subst hl;exact⟨A,cap,l,rfl,fun i hi=>(hp i hi).1,hll,by omega,fun q hq=>by
  obtain⟨i,hi,rfl⟩:=ux.1 hq;exact(hp i hi).2⟩
end
end
end Go.Proofs.YtndjopkdbdcmdaaGreatDoor
