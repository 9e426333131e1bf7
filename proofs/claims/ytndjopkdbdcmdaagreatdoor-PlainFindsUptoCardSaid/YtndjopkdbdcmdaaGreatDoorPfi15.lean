/- Part 15 of the proof of pfinds_card. -/
import Derived.Test.YtndjopkdbdcmdaaGreatDoorPfi12
import Derived.Test.YtndjopkdbdcmdaaGreatDoorPfi13
import Derived.Deep.CutBlock
set_option linter.unusedVariables false
set_option linter.unusedSimpArgs false
set_option maxRecDepth 100000
set_option maxHeartbeats 12800000
open Go.Proofs.Tryz
namespace Go.Proofs.YtndjopkdbdcmdaaGreatDoor
section
open Go.RowKit Go.Shelf
def ie(v:V)(s:ByteArray):Option V:=if s.toList=[] then some v else lf v (n_ s)
theorem XY(v:V)(s:ByteArray)(c:Cv)(w:World)(w0:World)(hg0:Grow w0 w)(o_:s.toList=[])(hv:In w0 v c) :
 Calls prog 56 #[c.agg,.string s] w (kX w0 w (ie v s)):=by
 rw[ie,aw o_];have HG:=aa (fun x:Cv=>((ah w).alloc (.cells c.cells 27)).alloc (.cells x.cells 27));have HB:=aa (fun x:Cv=>cX (w:=w.alloc (.cells c.cells 27)) (g:=w.heap.size+1) (by simp) 27 x.cells);have HV:=aa hv;clear hv;go_enter func56,ntmps56;go_wp2_with fail;refine iE (pZ rfl rfl rfl c (HB.o c)) rfl (OG rfl (HG.o c) HV.o)
theorem afl(k:Int)(n:Nat)(b:List UInt8)(l:List V)(f:List (ByteArray×V))(s:ByteArray)(c:Cv)(w:World)(hf:(V.mk k n b l f).formed=true)(o_:¬ s.toList=[])(hs:s.size<4294967281)(w0:World)(hg0:Grow w0 w)(hv:In w0 (.mk k n b l f) c)
 (ih:∀(u:V) (t:ByteArray) (cu:Cv) (W:World),t.size<s.size→u.formed=true→Grow w0 W→In w0 u cu→Calls prog 56 #[cu.agg,.string t] W (kX w0 W (ie u t))) :
 Calls prog 56 #[c.agg,.string s] w (kX w0 w (ie (.mk k n b l f) s)):=by
 obtain⟨aB,aL,aF,cB,cL,cF,hce,-,-,-,-,-,h6,h7,h8,h9,-⟩:=hv.open;subst hce;have HG:=aa (((ah w).alloc (.cells (Cv.cells ⟨k,(n:Int),aB,b.length,cB,aL,l.length,cL,aF,f.length,cF⟩) 27)).alloc (.cells Cv.zero.cells 27));have aG:=aa ((aD w 27 (Cv.cells ⟨k,(n:Int),aB,b.length,cB,aL,l.length,cL,aF,f.length,cF⟩)).alloc (.cells Cv.zero.cells 27));have av:=aa (cX (w:=w.alloc (.cells (Cv.cells ⟨k,(n:Int),aB,b.length,cB,aL,l.length,cL,aF,f.length,cF⟩) 27)) (g:=w.heap.size+1) (by simp) 27 Cv.zero.cells);have afm:s.toList.isEmpty=false:=by simpa using o_
 have aY:=aa hg0;have HV:=aa hv;have HIH:=aa ih;have HF:=aa hf;have hlen:s.data.toList.length=s.size:=by simp
 clear hv ih hf hg0;go_enter func56,ntmps56;go_upto_block 0 with fail;go_cut [6] (fun i wx=>wx=((w.alloc (.cells (Cv.cells ⟨k,(n:Int),aB,b.length,cB,aL,l.length,cL,aF,f.length,cF⟩) 27)).alloc (.cells Cv.zero.cells 27))∧∃j:Nat,j≤s.size∧i=.int .i64 j∧(∀i (hi:i<s.data.toList.length),i<j→s.data.toList[i]≠46)∧(∀(h:j<s.data.toList.length),s.data.toList[j]=46))
 case first =>
  go_wp2_with fail;go_loopg [6] (s.size+1) (fun gk i wr=>wr=((w.alloc (.cells (Cv.cells ⟨k,(n:Int),aB,b.length,cB,aL,l.length,cL,aF,f.length,cF⟩) 27)).alloc (.cells Cv.zero.cells 27))∧∃j:Nat,j≤s.size∧gk+j=s.size+1∧i=.int .i64 j∧(∀i (hi:i<s.data.toList.length),i<j→s.data.toList[i]≠46));exact⟨rfl,0,by omega,by omega,rfl,fun i _ h=>absurd h (by omega)⟩;obtain⟨rfl,j,hj,kW,rfl,hne⟩:=hrel;have HN:=aa hne;clear hne;obtain⟨gk',rfl⟩:=bS gk (by omega);by_cases hlt:j<s.size
  ·obtain⟨y,hy⟩:∃y,s[j]'hlt=y:=⟨_,rfl⟩;have XZ:s.data.toList[j]'(by omega)=y:=by rw[← hy,Hz s j hlt]
   by_cases hd:y=46
   ·have HD:=aa (XZ.trans hd);have hd2:((y.toNat:Int)==46)=true:=by rw[hd];rfl
    go_wp2_with fail;go_meet;exact⟨rfl,j,hj,rfl,HN.o,fun _=>HD.o⟩
   have hd2:((y.toNat:Int)==46)=false:=by
    simp only[tJ,ne_eq];intro h;exact hd (tF.1 (by
     have:y.toNat=46:=by omega
     rw[this];rfl))
   have HD:=aa (fun h=>hd (XZ.symm.trans h));go_wp2_with fail;go_roundg gk';refine⟨rfl,j+1,by omega,by omega,by go_num,fun i hi hij=>?_⟩;by_cases ir:i=j
   ·subst ir;exact HD.o
   exact HN.o i hi (by omega);omega
  obtain rfl:j=s.size:=by omega
  go_wp2_with fail;go_meet;exact⟨rfl,s.size,hj,rfl,HN.o,fun h=>absurd h (by omega)⟩
 obtain⟨rfl,j,hj,rfl,hne,X0⟩:=hcut;have cM:=aa hne;have afn:=aa X0;clear hne X0;obtain⟨hd,hhd⟩:∃hd,s.extract 0 j=hd:=⟨_,rfl⟩;have X3:=aa hhd;go_upto_if 33 with fail;have xW:=aa (fun x:Cv=>HG.o.alloc (.cells x.cells 27));have H6:=aa (fun x:Cv=>aG.o.alloc (.cells x.cells 27));have H9:=aa (fun x:Cv=>av.o.alloc (.cells x.cells 27));have LQ:=aa (fun x:Cv=>cX (w:=((w.alloc (.cells (Cv.cells ⟨k,(n:Int),aB,b.length,cB,aL,l.length,cL,aF,f.length,cF⟩) 27)).alloc (.cells Cv.zero.cells 27))) (g:=w.heap.size+1+1) (by simp) 27 x.cells)
 go_cut [9,10] (fun t z wx=>∃(tb:Bool) (xc:Cv) (u:V),t=.bool tb∧Grow w wx∧Blk wx w.heap.size 27 (Cv.cells ⟨k,(n:Int),aB,b.length,cB,aL,l.length,cL,aF,f.length,cF⟩)∧Blk wx (w.heap.size+1) 27 Cv.zero.cells∧Blk wx (w.heap.size+1+1) 27 xc.cells ∧
  In w0 u xc∧((tb=true∧jl (.mk k n b l f) hd=some u∧k=7)∨(tb=false∧(k=7→jl (.mk k n b l f) hd=none)∧xc=Cv.zero)))
 case first =>
  have HI:=aa (fun w=>afo hd w);by_cases hk:k=7
  ·subst hk;obtain⟨z,hz⟩:∃z,om hd.data.toList=z:=⟨_,rfl⟩;have HST:=aa (zl (n:=n) (b:=b) (l:=l) (f:=f) (s:=hd));rw[hz] at HI HST;clear hz;by_cases hz0:0≤z
   ·rw[aw hz0] at HST;by_cases hz1:z<l.length
    ·obtain⟨i,rfl⟩:∃i:Nat,z=i:=⟨z.toNat,by omega⟩;have hi:i<l.length:=by omega
     rw[yL,cJ hi] at HST;obtain⟨bk,o,x,ha,hbk,e0,e1,e2,e3,e4,hx⟩:=HV.o.fO i hi;dsimp only at ha;subst ha;have HX:=aa hx;have e0z:(((w.alloc (.cells (Cv.cells ⟨7,(n:Int),aB,b.length,cB,some ⟨bk,o,none⟩,l.length,cL,aF,f.length,cF⟩) 27)).alloc (.cells Cv.zero.cells 27)).alloc (.cells #[.int .i64 0,.int .u64 0,.slice none 0 0,.slice none 0 0,.slice none 0 0] 27)).cell? ⟨bk,o+i*5,none⟩=some (.int .i64 x.k):=((aY.o.trans (xW.o Cv.zero)).below.cell hbk).trans e0
     have e1z:(((w.alloc (.cells (Cv.cells ⟨7,(n:Int),aB,b.length,cB,some ⟨bk,o,none⟩,l.length,cL,aF,f.length,cF⟩) 27)).alloc (.cells Cv.zero.cells 27)).alloc (.cells #[.int .i64 0,.int .u64 0,.slice none 0 0,.slice none 0 0,.slice none 0 0] 27)).cell? ⟨bk,o+i*5+1,none⟩=some (.int .u64 x.n):=((aY.o.trans (xW.o Cv.zero)).below.cell hbk).trans e1;have e2z:(((w.alloc (.cells (Cv.cells ⟨7,(n:Int),aB,b.length,cB,some ⟨bk,o,none⟩,l.length,cL,aF,f.length,cF⟩) 27)).alloc (.cells Cv.zero.cells 27)).alloc (.cells #[.int .i64 0,.int .u64 0,.slice none 0 0,.slice none 0 0,.slice none 0 0] 27)).cell? ⟨bk,o+i*5+2,none⟩=some (.slice x.aB x.nB x.cB):=((aY.o.trans (xW.o Cv.zero)).below.cell hbk).trans e2
     have e3z:(((w.alloc (.cells (Cv.cells ⟨7,(n:Int),aB,b.length,cB,some ⟨bk,o,none⟩,l.length,cL,aF,f.length,cF⟩) 27)).alloc (.cells Cv.zero.cells 27)).alloc (.cells #[.int .i64 0,.int .u64 0,.slice none 0 0,.slice none 0 0,.slice none 0 0] 27)).cell? ⟨bk,o+i*5+3,none⟩=some (.slice x.aL x.nL x.cL):=((aY.o.trans (xW.o Cv.zero)).below.cell hbk).trans e3;have e4z:(((w.alloc (.cells (Cv.cells ⟨7,(n:Int),aB,b.length,cB,some ⟨bk,o,none⟩,l.length,cL,aF,f.length,cF⟩) 27)).alloc (.cells Cv.zero.cells 27)).alloc (.cells #[.int .i64 0,.int .u64 0,.slice none 0 0,.slice none 0 0,.slice none 0 0] 27)).cell? ⟨bk,o+i*5+4,none⟩=some (.slice x.aF x.nF x.cF):=((aY.o.trans (xW.o Cv.zero)).below.cell hbk).trans e4;clear hx hz0 hz1;go_wp2_with (go_at_call 104;refine(HI.o _).mono ?_;rintro e w' ⟨rfl,rfl⟩);go_meet
     exact⟨true,x,l[i],rfl,xW.o x,H6.o x,H9.o x,LQ.o x,HX.o,.inl ⟨rfl,HST.o,by simp⟩⟩
    have hn:l[z.toNat]?=none:=Kh (by omega);rw[hn] at HST;clear hn;go_wp2_with (go_at_call 104;refine(HI.o _).mono ?_;rintro e w' ⟨rfl,rfl⟩);go_meet;exact⟨false,Cv.zero,V.zero,rfl,xW.o Cv.zero,H6.o Cv.zero,H9.o Cv.zero,LQ.o Cv.zero,In.KE w0,.inr ⟨rfl,fun _=>HST.o,rfl⟩⟩
   rw[ai hz0] at HST;go_wp2_with (go_at_call 104;refine(HI.o _).mono ?_;rintro e w' ⟨rfl,rfl⟩);go_meet;exact⟨false,Cv.zero,V.zero,rfl,xW.o Cv.zero,H6.o Cv.zero,H9.o Cv.zero,LQ.o Cv.zero,In.KE w0,.inr ⟨rfl,fun _=>HST.o,rfl⟩⟩
  have hkq:(k==7)=false:=by simpa using hk
  have HK:=aa hk;clear hk;go_wp2_with fail;go_meet;exact⟨false,Cv.zero,V.zero,rfl,xW.o Cv.zero,H6.o Cv.zero,H9.o Cv.zero,LQ.o Cv.zero,In.KE w0,.inr ⟨rfl,fun h=>absurd h HK.o,rfl⟩⟩
 obtain⟨tb,xc,u,rfl,hw,hb2,hb4,iK,hu,hh⟩:=hcut;have hform:=HF.o;rw[rT] at hform;simp only[il,nS,iC] at hform;have QS:=aa hform.2;have H7:=aa (show k=7→f.length=0 by
  intro h;have:=hform.1.1.1;unfold V.own at this;simp only[il,iC] at this;omega)
 have HH:=aa hh;have HW:=aa hw;have afp:=aa hb2;have afq:=aa hb4;have afr:=aa iK;have HU:=aa hu;have hc2:=hb2.cell;have eO:=hb2.lt;clear hform hh hw hb2 hb4 iK hu;rename World=>wy;go_wp2_with fail;go_loopg [9,11] (f.length+1) (fun gk t i wr=>∃(p:Nat) (tb:Bool) (xc:Cv) (u:V),p≤f.length∧gk+p=f.length+1∧i=.int .i64 p∧t=.bool tb∧Grow w wr∧Blk wr w.heap.size 27 (Cv.cells ⟨k,(n:Int),aB,b.length,cB,aL,l.length,cL,aF,f.length,cF⟩)∧Blk wr (w.heap.size+1) 27 Cv.zero.cells∧Blk wr (w.heap.size+1+1) 27 xc.cells ∧
  In w0 u xc∧((tb=true∧jl (.mk k n b l f) hd=some u)∨(tb=false∧(k=7→jl (.mk k n b l f) hd=none)∧xc=Cv.zero∧∀i (hi:i<f.length),i<p→f[i].1≠hd)))
 refine⟨0,tb,xc,u,by omega,by omega,rfl,rfl,HW.o,afp.o,afq.o,afr.o,HU.o,?_⟩;rcases HH.o with ⟨h1,h2,-⟩ | ⟨h1,h2,h3⟩
 ·exact .inl ⟨h1,h2⟩
 exact .inr ⟨h1,h2,h3,fun i _ h=>absurd h (by omega)⟩;obtain⟨p,tb2,H_,u2,hp,kW,rfl,rfl,hwr,hr2,hr4,xK,hu2,F_⟩:=hrel;have zF:=aa F_;have fp:=aa hwr;have cE:=aa hr2;have dP:=aa hr4;have qO:=aa xK;have QT:=aa hu2;have ama:=hr2.cell;have amb:=hr2.lt;clear F_ hwr hr2 hr4 xK hu2;obtain⟨gk',rfl⟩:=bS gk (by omega);by_cases hlt:p<f.length
 ·have HK7:=aa (show k≠7 from fun h=>by have:=H7.o h;omega);obtain⟨bk,o,x,ha,hbk,es,im,e0,e1,e2,e3,e4,hx⟩:=HV.o.iF p hlt;dsimp only at ha;subst ha;replace es:=((aY.o.trans fp.o).below.cell hbk).trans es;replace e0:=((aY.o.trans fp.o).below.cell hbk).trans e0;replace e1:=((aY.o.trans fp.o).below.cell hbk).trans e1;replace e2:=((aY.o.trans fp.o).below.cell hbk).trans e2;replace e3:=((aY.o.trans fp.o).below.cell hbk).trans e3;replace e4:=((aY.o.trans fp.o).below.cell hbk).trans e4;replace hbk:=df hbk (aY.o.trans fp.o).size;have HX:=aa hx;obtain⟨q,hq⟩:∃q,f[p].1=q:=⟨_,rfl⟩;rw[hq] at es;have HQ:=aa hq;have hc8:=qO.o.cell;have afs:=qO.o.lt;have Xl:=qO.o.frozen;clear hx hq;by_cases he:q=hd
  ·have HST:=aa (show jl (.mk k n b l f) hd=some f[p].2 by rw[vY HK7.o,adu QS.o hlt (HQ.o.trans he)];rfl);have nU:(q.toList==hd.toList)=true:=by rw[he];simp
   clear he;go_wp2_with fail;go_roundg gk';exact⟨p+1,true,x,f[p].2,by omega,by omega,by go_num,rfl,fp.o.mD (Nat.le_add_right _ 2) x,cE.o.Ia (by omega) x,dP.o.Ia (by omega) x,vU (c:=x) qO.o,HX.o,.inl ⟨rfl,HST.o⟩⟩;omega
  have HE:=aa he;have nU:(q.toList==hd.toList)=false:=by
   simp only[tJ,ne_eq];intro h;rw[toList_data,toList_data] at h;exact he (CQ (Az h))
  clear he;go_wp2_with fail;go_roundg gk';refine⟨p+1,tb2,H_,u2,by omega,by omega,by go_num,rfl,fp.o,cE.o,dP.o,qO.o,QT.o,?_⟩;rcases zF.o with h1 | ⟨h1,h2,h3,h4⟩
  ·exact .inl h1
  refine .inr ⟨h1,h2,h3,fun i hi hij=>?_⟩;by_cases ir:i=p
  ·subst ir;rw[HQ.o];exact HE.o
  exact h4 i hi (by omega);omega
 obtain rfl:p=f.length:=by omega
 have wI:=aa (show ie (.mk k n b l f) s=(jl (.mk k n b l f) hd).bind fun u=>lf u (if j=s.size then [] else n_ (s.extract (j+1) s.size)) by
  rw[ie,ai o_];by_cases hjs:j=s.size
  ·rw[aw hjs,Ps (fun i hi=>cM.o i hi (by omega)),← X3.o,hjs,ByteArray.extract_zero_size];rfl
  rw[ai hjs,adt (k:=j) (by omega) cM.o (afn.o (by omega)),X3.o];rfl)
 have gz:=dP.o.cell;have Ib:=dP.o.lt;have xC:=dP.o.frozen;have hc8:=qO.o.cell;have afs:=qO.o.lt;rcases zF.o with ⟨rfl,hst⟩ | ⟨rfl,hno,rfl,hall⟩
 ·have HST:=aa hst;clear hst;by_cases hjs:j=s.size
  ·have HP:=aa (show ie (.mk k n b l f) s=some u2 by rw[wI.o,HST.o,aw hjs];rfl);subst hjs;go_wp2_with fail;refine iE (pZ rfl rfl rfl H_ (vU (c:=H_) dP.o)) rfl (OG HP.o (fp.o.mD (fD _) H_) QT.o)
  by_cases Ic:j+1=s.size
  ·have QU:=aa (K9 HST.o HF.o);have HP:=aa (show ie (.mk k n b l f) s=none by
    have hz:(s.extract (j+1) s.size).size=0:=by rw[ByteArray.size_extract];omega
    have hz2:(s.extract (j+1) s.size).data.toList.length=0:=by simpa using hz
    rw[wI.o,HST.o,ai hjs,Ps (fun i hi=>absurd hi (by omega))];show (jl u2 _).bind _=none;rw[adv QU.o hz];rfl)
   have hb1:((j:Int)==(s.size:Int))=false:=by simp only[tJ,ne_eq];omega
   have hb2:((j:Int)+1==(s.size:Int))=true:=by simp only[Fj];omega
   clear hjs Ic;go_wp2_with fail;refine iE (pZ rfl rfl rfl Cv.zero (Dl (c:=Cv.zero) dP.o)) rfl (OH HP.o (fp.o.mD (fD _) Cv.zero))
  have QU:=aa (K9 HST.o HF.o);have amc:j<s.size:=by omega
  have hsz:(s.extract (j+1) s.size).size=s.size-(j+1):=by rw[ByteArray.size_extract];omega
  have HP:=aa (show ie (.mk k n b l f) s=ie u2 (s.extract (j+1) s.size) by
   rw[wI.o,HST.o,ai hjs,ie,ai]
   ·rfl
   intro h;rw[toList_data] at h;have h0:(s.extract (j+1) s.size).data.toList.length=0:=by rw[h];rfl
   have h1:(s.extract (j+1) s.size).data.toList.length=(s.extract (j+1) s.size).size:=by simp
   omega)
  have HC:=aa (HIH.o u2 (s.extract (j+1) s.size) H_ wr.drew (by omega) QU.o (aY.o.trans fp.o.drew) QT.o);have hb1:((j:Int)==(s.size:Int))=false:=by simp only[tJ,ne_eq];omega
  clear hjs hsz;obtain⟨y,hy⟩:∃y,j+1=y:=⟨_,rfl⟩;have hyj:(j:Int)+1=(y:Int):=by omega
  have hys:y≤s.size:=by omega
  have hyw:IntKind.i64.wrap (y:Int)=(y:Int):=by rw[lJ];omega
  have hy0:(0:Int)≤(y:Int):=by omega
  have hy1:(y:Int)≤(s.size:Int):=by omega
  rw[hy] at HP HC;have hb2:((y:Int)==(s.size:Int))=false:=by simp only[tJ,ne_eq];omega
  go_upto_region 22 with fail;go_region_law ((go_simp;go_at_call 56;refine HC.o.mono ?_;rintro e w2 ⟨hg2,x,t,u3,rfl,hx,hh⟩;have hb4:=(dP.o.grow ((ah wr).drew.trans hg2));have amd:=hb4.cell;have ame:=hb4.lt;have amf:=hb4.frozen));go_wp2_with fail;refine iE (pZ rfl rfl rfl x (vU (c:=x) hb4)) rfl ?_;exact⟨(fp.o.trans ((ah wr).drew.trans hg2)).mD (fD _) x,x,t,u3,rfl,hx,by rw[HP.o];exact hh⟩
 have ng:=aa (show jl (.mk k n b l f) hd=none by
  by_cases hk:k=7
  ·exact hno hk
  rw[vY hk,KI (fun i hi=>hall i hi hi)];rfl)
 have HP:=aa (show ie (.mk k n b l f) s=none by rw[wI.o,ng.o];rfl);clear hno hall;go_wp2_with fail;refine iE (pZ rfl rfl rfl Cv.zero (Dl (c:=Cv.zero) dP.o)) rfl (OH HP.o (fp.o.mD (fD _) Cv.zero))
theorem BL(w0:World):∀(n:Nat) (v:V) (s:ByteArray) (c:Cv) (w:World),s.size≤n→s.size<4294967281→v.formed=true→Grow w0 w→In w0 v c →
 Calls prog 56 #[c.agg,.string s] w (kX w0 w (ie v s))
 | 0,v,s,c,w,hn,hs,hf,hg,hv=>XY v s c w w0 hg (by rw[toList_data];exact Ay.1 (by have h:s.data.toList.length=s.size:=(by simp);omega)) hv
 | n+1,v,s,c,w,hn,hs,hf,hg,hv=>by
  by_cases o_:s.toList=[]
  ·exact XY v s c w w0 hg o_ hv
  obtain⟨k,m,b,l,f⟩:=v;exact afl k m b l f s c w hf o_ hs w0 hg hv (fun u t cu W ht hu xX xY=>BL w0 n u t cu W (by omega) (by omega) hu xX xY)
end
section
open Go.RowKit
theorem Ie(v:V)(c:Cv)(w:World)(hd:v.depth≤1099511627776)(hsz:v.formed=true→v.bytes.length≤140737488355328)(hv:In w v c):Calls prog 57 #[c.agg] w (nj w (cI v)):=
 adD v c w hd hsz (fun hg=>aeR v c hg) hv
theorem LR{d:V}(h8:d.k=8):ie d lM=gI d:=by
 obtain⟨k,n,b,l,f⟩:=d;have xk:k=8:=h8;subst xk;unfold ie;rw[ai (by rw[OD];simp),Ps (by decide),lf,vY (by decide)];unfold gI;show Option.bind ((f.find? fun x=>decide (x.1=lM)).map Prod.snd) _=(f.find? fun x=>decide (x.1=lM)).map Prod.snd
 cases (f.find? fun x=>decide (x.1=lM)).map Prod.snd<;>rfl
theorem Ep{v:V}(h:v.good=0)(s:ByteArray):g_ v s=ie v s:=by rw[g_,aw h,ie]
theorem X4{d i:V}(hd:d.good=0)(h8:d.k=8)(h:gI d=some i):i.good=0:=by
 rw[← LR h8,← Ep hd] at h;exact Lt h
theorem QV(v:V)(c:Cv)(w:World)(gB:v.count≤20000)(hsz:v.formed=true→v.bytes.length≤140737488355328)(hv:In w v c):Calls prog 27 #[c.agg] w (nj w (bM v)):=by
 have aM:=aa ((ah w).alloc (.cells c.cells 27));have bg:=aa (aD w 27 c.cells);have hcell:=(aD w 27 c.cells).cell;have uh:=aa (Ig v _ c gB hsz (hv.grow aM.o));have HV:=aa hv;obtain⟨g,hg⟩:∃g,v.good=g:=⟨_,rfl⟩;rw[hg] at uh;have aC:=aa hg;have HK:Hid (c.k=v.k):=aa (by obtain⟨k,n,b,l,f⟩:=v;obtain⟨aB,aL,aF,cB,cL,cF,rfl,_⟩:=In.open hv;rfl);clear hv hg hsz;go_enter func27,ntmps27;go_wp2_with fail;refine uh.o.mono ?_;rintro e w1 ⟨rfl,hg1⟩;have fB:=bg.o.grow hg1;have aO:=aa (aM.o.trans hg1);have aQ:=aa fB;have hc1:=fB.cell;have iO:=fB.lt;clear hg1 fB hcell;by_cases h0:g=0
 ·subst h0;by_cases h8:c.k=8
  ·have QW:v.k=8:=by rw[← HK.o];exact h8
   have X5:=LR QW;have uk:=aa (fun w2 (h:Grow w w2)=>BL w 3 v lM c w2 (by decide) (by decide) (lR aC.o).1 h HV.o);rw[X5] at uk;have H8:=aa h8;have QX:=aa QW;have Dx:(c.k==8)=true:=by rw[h8];rfl
   clear h8 QW X5;go_wp2_with fail;refine(uk.o w1 aO.o).mono ?_;rintro e w2 ⟨hg2,ci,t,u,rfl,zk,hres⟩;have HG2:=aa (aO.o.trans hg2);have aP:=aa ((aO.o.trans hg2).alloc (.cells ci.cells 27));have Pm:=aa (aD w2 27 ci.cells);have GL:=Pm.o.cell;have Dy:=aa zk;clear zk hg2;rcases hres with ⟨hid,rfl⟩ | ⟨hid,rfl,rfl,rfl⟩
   ·have HP:=aa (show bM v=cI u by unfold bM;rw[ai (by have:=aC.o;omega),ai (by rw[QX.o];simp),hid]);have Bl:=X4 aC.o QX.o hid;have pR:=aa (Ie u ci _ (Er (bn (GK hid) gB)) (fun hf=>by have:=(lR Bl).2;omega) (Dy.o.grow aP.o));clear hid Bl;go_wp2_with fail;refine pR.o.mono ?_;rintro e w3 ⟨base,A3,c3,rfl,hb3,hr3,hg3⟩;have fT:=aa hr3;have cj:=aa (aP.o.trans hg3);have aV:=aa (bn aP.o.size hb3);clear hr3 hg3 hb3;go_wp2_with fail;go_ret2;rw[HP.o];exact⟨base,A3,c3,rfl,aV.o,fT.o,cj.o⟩
   go_wp2_with fail;go_ret2;rw[show bM v=([],14) by unfold bM;rw[ai (by have:=aC.o;omega),ai (by rw[QX.o];simp),hid]];exact ui aP.o
  go_wp2_with fail;go_ret2;rw[show bM v=([],4) by unfold bM;rw[ai (by have:=aC.o;omega),aw (by rw[← HK.o];exact h8)]];exact ui aO.o
 go_wp2_with fail;go_ret2;rw[show bM v=([],g) by unfold bM;rw[aw (by have:=aC.o;omega),aC.o]];exact ui aO.o
abbrev uQ(v:V):ByteArray:=⟨(bM v).1.toArray⟩
theorem Es(v:V)(c:Cv)(w:World)(gB:v.count≤20000)(hsz:v.formed=true→v.bytes.length≤140737488355328)(hv:In w v c):Calls prog 71 #[c.agg] w fun e w'=>e=.returned (.string (uQ v))∧Grow w w':=by
 have aM:=aa ((ah w).alloc (.cells c.cells 27));have bg:=aa (aD w 27 c.cells);have hcell:=(aD w 27 c.cells).cell;have HK:=aa (QV v c _ gB hsz (hv.grow aM.o));obtain⟨⟨kb,ke⟩,hk⟩:∃p,bM v=p:=⟨_,rfl⟩;unfold uQ;rw[hk] at HK ⊢;clear hv hk hsz;go_enter func71,ntmps71;go_wp2_with fail;refine HK.o.mono ?_;rintro e w1 ⟨base,A3,c3,rfl,hb3,hr3,hg3⟩;dsimp only at hr3 ⊢;have hcs:=qB c3 hr3.reads.1;have aO:=aa (aM.o.trans hg3);clear hcell hb3 hr3 hg3;go_wp2_with fail;go_ret;exact⟨rfl,aO.o⟩
theorem QY(x:Ix)(v:V)(c:Cv)(w:World)(hx:x.path.size<4294967281)(gB:v.count≤20000)(hfit:v.fit)(hsz:v.formed=true→v.bytes.length≤140737488355328)(hv:In w v c):Calls prog 29 #[x.agg,c.agg] w (Dz w (eu x.path v)):=by
 have aM:=aa (((ah w).alloc (.cells x.cells 64)).alloc (.cells c.cells 27));have HX0:=aa ((aD w 64 x.cells).alloc (.cells c.cells 27));have bg:=aa (cX (w:=w.alloc (.cells x.cells 64)) (g:=w.heap.size+1) (by simp) 27 c.cells);have hcell:=bg.o.cell;have HV:=aa hv;have Pj:=aa hfit;have HKEY:=aa (QV v c _ gB hsz (hv.grow aM.o));obtain⟨⟨kb,ke⟩,iu⟩:∃r,bM v=r:=⟨_,rfl⟩;rw[iu] at HKEY;have kZ:=aa iu;clear hv iu hfit hsz;go_enter func29,ntmps29;go_wp2_with fail;refine HKEY.o.mono ?_;rintro e w1 ⟨base,Ak,ck,rfl,hbk,X6,hg1⟩;dsimp only at X6 ⊢;have aQ:=aa (bg.o.grow hg1);have QZ:=aa (HX0.o.grow hg1);have hc1:=aQ.o.cell;have eU:=aQ.o.lt;have aO:=aa (aM.o.trans hg1);clear hg1 X6 hbk hcell HKEY;by_cases h0:ke=0
 ·subst h0;have hok:fC v:=⟨by rw[kZ.o],Pj.o,gB⟩;obtain⟨i,hi,hK,hkey,hgd,h8⟩:=hok.id;have fF:=(lR hgd).1;have uk:=aa (fun w2 (h:Grow w w2)=>BL w 3 v lM c w2 (by decide) (by decide) fF h HV.o);rw[LR h8,hi] at uk;have Q0:=aa (fun w2 (h:Grow w w2)=>BL w x.path.size v x.path c w2 (ay _) hx fF h HV.o);rw[← Ep hgd] at Q0;have HI:=aa hi;have aC:=aa hgd;have H8:=aa h8;have cP:=aa hok;clear hi hK hkey hgd h8 fF hok;go_wp2_with fail;refine(uk.o w1 aO.o).mono ?_;rintro e w3 ⟨hg3,ci,t3,u3,rfl,zh,X7⟩;obtain⟨hu3,rfl⟩:some i=some u3∧t3=true:=by
   rcases X7 with h | ⟨h,-⟩
   ·exact h
   cases h
  injection hu3 with hu3;subst hu3;have GC:=aa zh;have aP:=aa ((aO.o.trans hg3).alloc (.cells ci.cells 27));have Q3:=hg3.alloc (.cells ci.cells 27);have aV:=aa (aQ.o.grow Q3);have X8:=aa (QZ.o.grow Q3);have GD:=aa (aD w3 27 ci.cells);have hc3:=aV.o.cell;have ot:=aV.o.lt;have hx3:=X8.o.cell;have aft:=X8.o.lt;clear X7 uk zh hg3 Q3 hc1 eU;go_wp2_with fail;refine(Q0.o _ aP.o).mono ?_;rintro e w2 ⟨hg2,cu,t,u,rfl,zk,hres⟩;have Dy:=aa zk;have cj:=aa ((aP.o.trans hg2).alloc (.cells cu.cells 27));have Dv:=aa ((GD.o.grow hg2).alloc (.cells cu.cells 27));have LS:=aa (aD w2 27 cu.cells);have GL:=Dv.o.cell;have hli:=Dv.o.lt;have xY:=LS.o.cell;clear zk hc3 ot hx3 aft Q0 hg2;rcases hres with ⟨hp,rfl⟩ | ⟨hp,rfl,rfl,rfl⟩
  ·have HP:=aa hp;have Bl:=Lt hp;have X9:=X4 aC.o H8.o HI.o;have HR:=aa (InL.row2 (Dy.o.grow cj.o) (GC.o.grow cj.o));have X_:=adi ((w2.alloc (.cells cu.cells 27)).alloc (.cells (cells2 cu ci) 27)) false false;have DZ:=((ah (w2.alloc (.cells cu.cells 27))).alloc (.cells (cells2 cu ci) 27));have Ya:=(DZ.trans (ah _)).alloc (.cells #[.bool false,.bool false] 4);have xZ:=HR.o.grow ((ah _).alloc (.cells #[.bool false,.bool false] 4));have hal:=adE [u,i] [false,false] _ _ 2 2 _ (fun y hy W cy ov=>by
    have Yb:y.count≤20000∧y.good=0:=by
     rcases je.1 hy with rfl | hy
     ·exact⟨bn (adh HP.o) gB,Bl⟩
     rw[yK] at hy;subst hy;exact⟨bn (GK HI.o) gB,X9⟩
    exact Ie y cy W (Er Yb.1) (fun hf=>by have:=(lR Yb.2).2;omega) ov) xZ X_ (by simp) (by simp)
   simp only[dJ] at hal;have Yc:(j_ [u,i] [false,false]).2≠0→eu x.path v=([],false,14):=fun h=>by
    have he:(eu x.path v).2.2=(j_ [u,i] [false,false]).2∧eu x.path v=([],false,(eu x.path v).2.2):=by
     unfold eu;rw[kZ.o,ai (by simp),HP.o];simp only[HI.o,rP];rw[aw h];exact⟨rfl,rfl⟩
    have h14:=adV cP.o (by rw[he.1];exact h);rw[he.2,h14]
   have Yd:=aa Yc;obtain⟨⟨ab,ae⟩,Q4⟩:∃r,j_ [u,i] [false,false]=r:=⟨_,rfl⟩;rw[Q4] at hal Yd;have uD:=aa hal;have HAE:=aa Q4;have bp:=aa (cj.o.trans Ya);clear hal Q4 xZ X_ DZ Ya Bl X9 HR hp Yc;go_wp2_with fail;refine uD.o.mono ?_;rintro e w4 ⟨base,A4,c4,rfl,hb4,hr4,hg4⟩;dsimp only at hr4 ⊢;have bN:=aa (bp.o.trans hg4);have av:=aa (bn bp.o.size hb4);have dP:=aa hr4;clear hg4 hb4 hr4 GL hli xY;by_cases he:ae=0
   ·subst he;go_wp2_with fail;go_ret3;rw[show eu x.path v=(ab,true,0) by unfold eu;rw[kZ.o,ai (by simp),HP.o];simp only[HI.o,rP,HAE.o];rfl];exact⟨base,A4,c4,rfl,av.o,dP.o,bN.o⟩
   go_wp2_with fail;go_ret3;rw[Yd.o he];exact Dz.bad bN.o
  go_wp2_with fail;go_ret3;rw[show eu x.path v=([],false,0) by unfold eu;rw[kZ.o,ai (by simp),hp]];exact Dz.bad cj.o
 go_wp2_with fail;go_ret3;rw[show eu x.path v=([],false,ke) by unfold eu;rw[kZ.o,aw h0]];exact Dz.bad aO.o
end
section
open Go.RowKit
theorem x_:∀(a b:List UInt8),Op.bytesLess a b=cQ a b
 | [],[]=>by simp[cQ,Lib.compareBytes,Op.bytesLess]
 | [],_::_=>by simp[cQ,Lib.compareBytes,Op.bytesLess]
 | _::_,[]=>by simp[cQ,Lib.compareBytes,Op.bytesLess]
 | x::a,y::b=>by
  have ih:=x_ a b;unfold cQ at ih ⊢;rw[Lib.compareBytes];unfold Op.bytesLess;by_cases h1:x<y
  ·simp[h1]
  by_cases h2:y<x
  ·have h3:¬ x=y:=fun e=>by subst e;exact h1 h2
   simp[h1,h2,h3]
  have h3:x=y:=by
   have:=UInt8.not_lt.1 h1;have:=UInt8.not_lt.1 h2;exact UInt8.le_antisymm ‹x≤y› ‹y≤x›
  subst h3;simpa [h1] using ih
theorem Ye(l:List UInt8):(⟨l.toArray⟩:ByteArray).toList=l:=by rw[toList_data]
theorem Q5{keys:List (List UInt8)}(h:fI keys)(k:List UInt8){j:Nat}(hj:j<keys.length):eV (keys.take (j+1)) k=if cQ keys[j] k=true then j+1 else eV (keys.take j) k:=by
 have e:keys.take (j+1)=keys.take j++[keys[j]]:=by rw[FC,cJ hj];rfl
 split
 ·rename_i hl;unfold eV;have hall:∀x∈keys.take (j+1),cQ x k=true:=fun x hx=>by
   obtain⟨i,hi,rfl⟩:=lH hx;rw[dS] at hi;rw[AA];rcases fh i j with hij | hij
   ·exact xE _ _ _ (h.lt hij hj) hl
   have:i=j:=by omega
   subst this;exact hl
  rw[List.countP_eq_length.2 hall,dS];omega
 rename_i hl;unfold eV;rw[e,List.countP_append];simp[hl]
theorem Et{ag:List V}(h:fI (ko ag)){j:Nat}(hj:j<ag.length){k:List UInt8}(e:(bM ag[j]).1=k):iP ag k=j∧jm ag k=true:=by
 have hF:jm ag k=true:=by rw[G5,Lf h];exact j3.2 ⟨ag[j],aW hj,e⟩
 refine⟨?_,hF⟩;have h1:=PF (by rw[G5] at hF;exact hF);rw[Lg];have hl:kN (ko ag) k<(ko ag).length:=(kC.1 h1).1;rw[cJ hl] at h1;injection h1 with h1;exact h.inj hl (by rw[dZ];exact hj) (by rw[h1,iZ,e])
theorem afu{ag:List V}(h:fI (ko ag)){k:List UInt8}(e:∀i (hi:i<ag.length),(bM ag[i]).1≠k):jm ag k=false:=by
 rcases vL (jm ag k) with hF | hF
 ·rw[G5,Lf h] at hF;obtain⟨d,hd,hk⟩:=j3.1 hF;obtain⟨i,hi,rfl⟩:=lH hd;exact absurd hk (e i hi)
 exact hF
theorem fC.bytes{d:V}(h:fC d):d.formed=true→d.bytes.length≤140737488355328:=fun _=>by
 obtain⟨i,-,-,-,hg,-⟩:=h.id;have:=(lR hg).2;omega
theorem Ih(nm:ByteArray)(ag:List V)(dA xA:Option Addr)(dc xn xc:Nat)(k:List UInt8)(w:World)(hd:InL w dA dc ag)(hok:∀d∈ag,fC d)(hr:fI (ko ag))(hl:ag.length≤1000000) :
 Calls prog 70 #[.agg #[.string nm,.slice dA ag.length dc,.slice xA xn xc],.string ⟨k.toArray⟩] w fun e w'=>e=.returned (.tuple #[.int .i64 (iP ag k),.bool (jm ag k)])∧Grow w w':=by
 have HD:=aa hd;have cP:=aa hok;have HR:=aa hr;have HL:=aa hl;have HB:=aa (aD w 48 #[.string nm,.slice dA ag.length dc,.slice xA xn xc]);have HG:=aa ((ah w).alloc (.cells #[.string nm,.slice dA ag.length dc,.slice xA xn xc] 48));obtain⟨kS,rh⟩:∃s,(⟨k.toArray⟩:ByteArray)=s:=⟨_,rfl⟩;have ue:=aa (show kS.toList=k by rw[← rh];exact Ye k);rw[rh];have fP:=HB.o.cell;clear hd hok hr hl rh;go_enter func70,ntmps70;go_wp2_with fail;clear fP;go_loopg [6,7] (ag.length+1) (fun gk n i wr=>∃j:Nat,j≤ag.length∧gk+j=ag.length+1∧i=.int .i64 j∧n=.int .i64 (eV ((ko ag).take j) k:Nat)∧(∀i (hi:i<ag.length),i<j→(bM ag[i]).1≠k)∧Grow w wr∧Blk wr w.heap.size 48 #[.string nm,.slice dA ag.length dc,.slice xA xn xc])
 exact⟨0,ba _,rfl,rfl,by simp[eV],fun _ _ h=>absurd h (by omega),HG.o,HB.o⟩;obtain⟨j,hj,hg,rfl,rfl,hne,hgr,hb⟩:=hrel;obtain⟨gk',rfl⟩:=bS gk (by omega);have hl0:=HL.o;have HN:=aa hne;have aH:=aa hgr;have pV:=aa hb;have fP:=hb.cell;obtain⟨N,hN⟩:∃N,eV ((ko ag).take j) k=N:=⟨_,rfl⟩;rw[hN];have p_:=aa hN;clear hne hb hN;by_cases hlt:j<ag.length
 ·obtain⟨bk,o,x,ha,hbk,e0,e1,e2,e3,e4,hx⟩:=(HD.o.grow hgr).fO j hlt;dsimp only[kH] at ha;subst ha;have kq:=cP.o ag[j] (aW hlt);have uR:=aa (Q5 HR.o k (j:=j) (by rw[dZ];exact hlt));have HK:=aa (Es ag[j] x wr kq.count kq.bytes hx);unfold uQ at HK;obtain⟨q,hq⟩:∃q,(bM ag[j]).1=q:=⟨_,rfl⟩;obtain⟨qS,Q6⟩:∃s,(⟨(bM ag[j]).1.toArray⟩:ByteArray)=s:=⟨_,rfl⟩;rw[Q6] at HK;have LU:=aa (show qS.toList=q by rw[← Q6,Ye,hq]);have HQ:=aa hq;clear kq hx hgr hq Q6;go_wp2_with fail;refine HK.o.mono ?_;rintro e w2 ⟨rfl,hg2⟩;have HG2:=aa (aH.o.trans hg2);have aG:=aa (pV.o.grow hg2);clear hg2 e0 e1 e2 e3 e4 fP;by_cases he:q=k
  ·have nU:(qS.toList==kS.toList)=true:=by rw[LU.o,ue.o,he];simp
   have HE:=aa he;clear he;go_wp2_with fail;go_ret2;obtain⟨r1,r2⟩:=Et HR.o hlt (HQ.o.trans HE.o);rw[r1,r2];exact⟨rfl,HG2.o⟩
  have nU:(qS.toList==kS.toList)=false:=by rw[LU.o,ue.o];simpa using he
  have HE:=aa he;clear he;have nT:∀i (hi:i<ag.length),i<j+1→(bM ag[i]).1≠k:=fun i hi hij=>by
   by_cases ir:i=j
   ·subst ir;rw[HQ.o];exact HE.o
   exact HN.o i hi (by omega)
  have Yf:=aa nT;clear nT;by_cases hls:cQ q k=true
  ·have hl2:Op.bytesLess qS.toList kS.toList=true:=by rw[x_,LU.o,ue.o];exact hls
   have fV:=aa hls;clear hls;go_wp2_with fail;go_roundg gk';refine⟨j+1,by omega,by omega,by go_num,?_,Yf.o,HG2.o,aG.o⟩;rw[uR.o];simp only[iZ,HQ.o];rw[aw fV.o];go_num;omega
  have hl2:Op.bytesLess qS.toList kS.toList=false:=by rw[x_,LU.o,ue.o];simpa using hls
  have fV:=aa hls;clear hls;go_wp2_with fail;go_roundg gk';refine⟨j+1,by omega,by omega,by go_num,?_,Yf.o,HG2.o,aG.o⟩;rw[uR.o];simp only[iZ,HQ.o];rw[ai fV.o,p_.o];omega
 have hjl:j=ag.length:=by omega
 subst hjl;have hF:=afu HR.o fun i hi=>HN.o i hi hi
 have hN:iP ag k=N:=by
  rw[Lg,G0 HR.o,← p_.o,jD (by rw[dZ];exact ay _)]
 have HF:=aa hF;have ya:=aa hN;clear hF hN hgr;go_wp2_with fail;go_ret2;rw[HF.o,ya.o];exact⟨rfl,aH.o⟩
end
section
open Go.RowKit
theorem Reads.Ii{C:Addr→Value→Prop}{z:Nat}{A:Option Addr}{n:Nat}{xs:List Value}(h:Reads C z A n xs)(k:Nat)(hk:k≤n):Reads C z A k (xs.take (k*z)):=by
 refine⟨by rw[dS,h.1];exact qu (iB z hk),fun hn=>?_⟩;obtain⟨bk,o,e,hc⟩:=h.2 (by omega);refine⟨bk,o,e,fun j u hu=>hc j u ?_⟩;rw[FI] at hu;split at hu
 ·exact hu
 cases hu
theorem Reads.Ij{C:Addr→Value→Prop}{z:Nat}{A:Option Addr}{n:Nat}{xs:List Value}(h:Reads C z A n xs)(k cap:Nat)(hk:k≤n)(hc:n≤cap):Reads C z (if cap=k then A else A.map (·.add (k*z))) (n-k) (xs.drop (k*z)):=by
 refine⟨by rw[iM,h.1,Nat.sub_mul],fun hn=>?_⟩;obtain⟨bk,o,rfl,hcell⟩:=h.2 (by omega);rw[ai (by omega)];refine⟨bk,o+k*z,by simp[add_lit],fun j u hu=>?_⟩;rw[wY] at hu;rw[kU];exact hcell _ u hu
section
variable {ops:Array Oper} {rest:List Oper} {Q:Exit→Act→World→Prop} {a:Act} {w0 w:World}
theorem sS(s x:Operand)(t e:TypeId)(z iG:Nat)(zv:Value)(ht:prog.underlying t=some (.slice e))(hi:(prog.info? e).map (fun i=>(i.zero,i.size,i.bytes))=some (some zv,z,iG))(hzs:zv.cells.size=z){d:Option Tmp}{tt:TypeId}{p:String}{af:Array Edge}
 {v:Value} {n:Nat} {xs:List Value} (hv:a.eval s=v) (hown:w.ownsRow w0.heap.size e z v n xs) {u:Value} {m:Nat} {news:List Value} (hx:a.eval x=u) (hs:Src prog z t u m news w) (hb:(n+m)*iG≤140737488355328) (h63:n+m≤maxLen) (hg0:Grow w0 w)
 (h:∀A c w',w'.ownsRow w0.heap.size e z (.slice A (n+m) c) (n+m) (xs++news)→Grow w0 w'→wpList prog ops Q rest (a.put d (.slice A (n+m) c)) w') :
 wpList prog ops Q (⟨d,.call { callee:=.builtin .append,args:=#[s,x],argTypes:=#[t,t] },tt,p,af,none⟩::rest) a w:=by
 obtain⟨i0,h0,h1,h2,h3⟩:=info_parts hi;exact xg rfl s x t t rfl w0.heap.size e i0 zv z iG ht h0 h1 h2 h3 hzs v n xs hv hown u m news hx hs hb h63 hg0.size (fun A c w' k1 k2 k3=>h A c w' k1 (hg0.grown k2 (fun k hk=>(bO hown k hk).1)))
theorem BM(s x:Operand)(t e:TypeId)(z iG:Nat)(zv:Value)(ht:prog.underlying t=some (.slice e))(hi:(prog.info? e).map (fun i=>(i.zero,i.size,i.bytes))=some (some zv,z,iG))(hzs:zv.cells.size=z){d:Option Tmp}{tt:TypeId}{p:String}{af:Array Edge}
 (hv:a.eval s=.slice none 0 0) {u:Value} {m:Nat} {news:List Value} (hx:a.eval x=u) (hs:Src prog z t u m news w) (hb:m*iG≤140737488355328) (h63:m≤maxLen) (hg0:Grow w0 w)
 (h:∀A c w',w'.ownsRow w0.heap.size e z (.slice A m c) m news→Grow w0 w'→wpList prog ops Q rest (a.put d (.slice A m c)) w') :
 wpList prog ops Q (⟨d,.call { callee:=.builtin .append,args:=#[s,x],argTypes:=#[t,t] },tt,p,af,none⟩::rest) a w:=
 sS s x t e z iG zv ht hi hzs hv (iY _ _ _ _) hx hs (by rw[dY];exact hb) (by omega) hg0 (fun A c w' k1 k2=>by
  rw[dY,pE] at k1;rw[dY];exact h A c w' k1 k2)
end
theorem Yg{w:World}{A:Option Addr}{n:Nat}{cs:List Cv}(h:Reads (bK w 0 w.heap.size) 5 A n (dG cs))(i c:Nat)(hi:i≤n):Src prog 5 24 (.slice A i c) i (dG (cs.take i)) w:=by
 have hh:=fe (c:=c) jv (h.Ii i hi) (fun u hu=>DG cs u (yP hu));rwa [show (dG cs).take (i*5)=dG (cs.take i) from zq (fun e:Cv=>e.cells.toList) 5 (fun _=>rfl) cs i] at hh
theorem afv{w:World}{A:Option Addr}{n:Nat}{cs:List Cv}(h:Reads (bK w 0 w.heap.size) 5 A n (dG cs))(i c cap:Nat)(hi:i≤n)(hc:n≤cap):Src prog 5 24 (.slice (if cap=i then A else A.map (·.add (i*5))) (n-i) c) (n-i) (dG (cs.drop i)) w:=by
 have hh:=fe (c:=c) jv (h.Ij i cap hi hc) (fun u hu=>DG cs u (rQ hu));rwa [show (dG cs).drop (i*5)=dG (cs.drop i) from ur (fun e:Cv=>e.cells.toList) 5 (fun _=>rfl) cs i] at hh
theorem Yh{A:Option Addr}{n cap i:Nat}(h1:i≤n)(h2:n≤cap)(w:World):(Instr.sliceAt 24 (.slice A n cap) none (some (.int .i64 (i:Int))) none).run prog w=.ok (.slice A i cap) w:=by
 have k1:(0:Int)≤(i:Int):=by omega
 have k2:(i:Int)≤(n:Int):=by omega
 have k3:(i:Int)≤(cap:Int):=by omega
 rcases A with _ | a<;>go_simp
theorem Q7{A:Option Addr}{n cap i:Nat}(h1:i≤n)(h2:n≤cap):∃B,(∀w,(Instr.sliceAt 24 (.slice A n cap) (some (.int .i64 (i:Int))) none none).run prog w=.ok (.slice B (n-i) (cap-i)) w) ∧
 ∀(w:World) (c:Nat) (cs:List Cv),Reads (bK w 0 w.heap.size) 5 A n (dG cs)→Src prog 5 24 (.slice B (n-i) c) (n-i) (dG (cs.drop i)) w:=by
 have k1:(0:Int)≤(i:Int):=by omega
 have k2:(i:Int)≤(n:Int):=by omega
 have k3:(i:Int)≤(cap:Int):=by omega
 exact⟨if cap=i then A else A.map (·.add (i*5)),fun w=>by rcases A with _ | a<;>go_simp,fun w c cs h=>afv h i c cap h1 h2⟩
theorem LV{w:World}{g:Nat}(c:Cv)(hb:Blk w g 27 c.cells):Src prog 5 24 (.slice (some ⟨g,0,none⟩) 1 1) 1 c.cells.toList w:=
 Src.ofSlice _ jv ⟨g,0,none⟩ 1 1 _ rfl (fun j u hu=>by
  rw[add_lit,dY,hb.cell j,← hu,pH]) (fun u hu=>by
  simp only[je,wZ,w_] at hu;rcases hu with rfl | rfl | rfl | rfl | rfl<;>rfl)
theorem LX(a b:List Cv):dG (a++b)=dG a++dG b:=by unfold dG;rw[nR,Av]
theorem Q8{w:World}{base n c:Nat}{A:Option Addr}{cs:List Cv}{ag:List V}(h:w.ownsRow base 27 5 (.slice A n c) n (dG cs))(ht:Two (fun v x=>In w v x) ag cs)(hn:n=ag.length)(hl:ag.length≤140737488355328):InL w A c ag:=by
 subst hn;exact Pq (eX km (lg (S:=fun _=>False) h (fun _ _ h=>h))) ht (nr h).1 hl
theorem Yi{w0 w:World}{base n c P q:Nat}{A:Option Addr}{cs:List Cv}{cx:Cv}{ag:List V}{d:V}(h:w.ownsRow base 27 5 (.slice A n c) n (dG (cs.take P)++cx.cells.toList++dG (cs.drop q)))(ht:Two (fun v x=>In w0 v x) ag cs)(hx:In w0 d cx)(hg:Grow w0 w)
 (hn:n=(ag.take P++d::ag.drop q).length) (hl:ag.length≤1000000):InL w A c (ag.take P++d::ag.drop q):=by
 refine Q8 (base:=base) (cs:=cs.take P++cx::cs.drop q) ?_ ((ht.mono fun a b k=>oK k hg).take P |>.append (Two.cons (hx.grow hg) ((ht.mono fun a b k=>oK k hg).drop q))) hn ?_
 ·rw[LX,show cx::cs.drop q=[cx]++cs.drop q from rfl,LX,← nQ];simpa [dG] using h
 rw[bG,aT,dS,iM];omega
theorem afw{w0 w:World}{base n c P q:Nat}{A:Option Addr}{cs:List Cv}{ag:List V}(h:w.ownsRow base 27 5 (.slice A n c) n (dG (cs.take P)++dG (cs.drop q)))(ht:Two (fun v x=>In w0 v x) ag cs)(hg:Grow w0 w)
 (hn:n=(ag.take P++ag.drop q).length) (hl:ag.length≤1000000):InL w A c (ag.take P++ag.drop q):=by
 refine Q8 (base:=base) (cs:=cs.take P++cs.drop q) ?_ ((ht.mono fun a b k=>oK k hg).take P |>.append ((ht.mono fun a b k=>oK k hg).drop q)) hn ?_
 ·rw[LX];exact h
 rw[bG,dS,iM];omega
theorem afx:(prog.info? 48).map (·.size)=some 3:=by kernel_rfl
theorem Yj:(prog.info? 44).map (·.size)=some 1:=by kernel_rfl
theorem LY{F:Func}{W:World}{i vb:Nat}{tmps cs:Array Value}(hF:F.results=#[ResultVar.cell i 48])(h2:tmps.getD i undef=.pointer (some ⟨vb,0,none⟩))(hs:cs.size=3)(hv:Blk W vb 48 cs) :
 (results F tmps).run prog W=.ok (.agg cs) W:=by
 have hl:=Fp (P:=prog) W vb 48 48 cs (0,0) _ hv underlying48 rfl (by rw[hs];exact afx);have h2':tmps[i]?.getD undef=.pointer (some ⟨vb,0,none⟩):=by simpa using h2
 simp[results,hF,h2',asAddr,hl]
theorem Yk{F:Func}{W:World}{i vb:Nat}{tmps cs:Array Value}(hF:F.results=#[ResultVar.cell i 44])(h2:tmps.getD i undef=.pointer (some ⟨vb,0,none⟩))(hs:cs.size=1)(hv:Blk W vb 44 cs) :
 (results F tmps).run prog W=.ok (.agg cs) W:=by
 have hl:=Fp (P:=prog) W vb 44 44 cs (0,0) _ hv underlying44 rfl (by rw[hs];exact Yj);have h2':tmps[i]?.getD undef=.pointer (some ⟨vb,0,none⟩):=by simpa using h2
 simp[results,hF,h2',asAddr,hl]
end
section
open Go.RowKit Go.Shelf Go.ChangeMaps
section
variable {P:Program} {w:World}
theorem afy(t kt et:TypeId)(ht:P.underlying t=some (.map kt et))(hk:P.underlying kt=some (.int .i64))(g:Nat)(es:Array MapEntry)(clock:Nat)(h:w.heap[g]?=some (.map es clock))(k:Int)(i:Nat)(v:Value)
 (hf:Instr.findNow (.int .i64) (.int .i64 k) es.toList 0=some (some (i,v))) :
 (Instr.lookup t (.map (some g)) (.int .i64 k) true).run P w=.ok (.tuple #[v,.bool true]) w:=by
 unfold Instr.lookup;simp only[Ar,wX ht,CN,Km h,KY kt hk,KZ kt hk k _ _ hf,CM];rfl
theorem afz(t kt et:TypeId)(z:Value)(ht:P.underlying t=some (.map kt et))(hk:P.underlying kt=some (.int .i64))(hz:Sem.run P (zeroValue et) w=.ok z w)(g:Nat)(es:Array MapEntry)(clock:Nat)(h:w.heap[g]?=some (.map es clock))(k:Int)
 (hf:Instr.findNow (.int .i64) (.int .i64 k) es.toList 0=some none) :
 (Instr.lookup t (.map (some g)) (.int .i64 k) true).run P w=.ok (.tuple #[z,.bool false]) w:=by
 unfold Instr.lookup;simp only[Ar,wX ht,CN,Km h,KY kt hk,KZ kt hk k _ _ hf,CM];rw[hz];rfl
end
theorem sU:prog.underlying 90=some (.map 3 88):=by kernel_rfl
theorem wJ:prog.underlying 3=some (.int .i64):=by kernel_rfl
theorem afA(w:World):(Instr.makeMap 90 none).run prog w=.ok (.map (some w.heap.size)) (w.alloc (.map #[] 0)):=by kernel_rfl
def reqs:Array MapEntry:=#[{ key:=.int .i64 1,val:=.agg #[.func (.func 79) #[] #[]],born:=0 },{ key:=.int .i64 2,val:=.agg #[.func (.func 80) #[] #[]],born:=1 },{ key:=.int .i64 3,val:=.agg #[.func (.func 81) #[] #[]],born:=2 },{ key:=.int .i64 4,val:=.agg #[.func (.func 81) #[] #[]],born:=3 },{ key:=.int .i64 5,val:=.agg #[.func (.func 82) #[] #[]],born:=4 },{ key:=.int .i64 6,val:=.agg #[.func (.func 83) #[] #[]],born:=5 },{ key:=.int .i64 7,val:=.agg #[.func (.func 84) #[] #[]],born:=6 },{ key:=.int .i64 8,val:=.agg #[.func (.func 85) #[] #[]],born:=7 },{ key:=.int .i64 9,val:=.agg #[.func (.func 86) #[] #[]],born:=8 },{ key:=.int .i64 10,val:=.agg #[.func (.func 87) #[] #[]],born:=9 }]
theorem Yl(w:World):Calls prog 36 #[] w fun e w'=>∃g,e=.returned (.map (some g))∧w.heap.size≤g∧w'.heap[g]?=some (.map reqs 10)∧Grow w w':=by
 have hmm:=afA
 have Du:=aa (show (w.alloc (.map #[] 0)).heap[w.heap.size]?=some (.map #[] 0) from J0 _ _);have aM:=aa ((ah w).alloc (.map #[] 0));go_enter func36,ntmps36;go_wp2_with (first
  | (refine mH rfl (.tmp 1) (.const (.int .i64 1)) (.tmp 2) 90 3 88 rfl sU wJ w.heap.size _ 0 rfl 1 rfl Du.o (by rfl) ?_;intro w1 hi1 hg1;have Gz:=aa hi1;have aO:=aa (aM.o.grown hg1 (fun q hq=>by injection hq with hq;omega));clear hi1 hg1)
  | (refine mH rfl (.tmp 1) (.const (.int .i64 2)) (.tmp 3) 90 3 88 rfl sU wJ w.heap.size _ 1 rfl 2 rfl Gz.o (by rfl) ?_;intro w2 hi2 hg2;have GA:=aa hi2;have HG2:=aa (aO.o.grown hg2 (fun q hq=>by injection hq with hq;omega));clear hi2 hg2)
  | (refine mH rfl (.tmp 1) (.const (.int .i64 3)) (.tmp 4) 90 3 88 rfl sU wJ w.heap.size _ 2 rfl 3 rfl GA.o (by rfl) ?_;intro w3 zh hg3;have GC:=aa zh;have aP:=aa (HG2.o.grown hg3 (fun q hq=>by injection hq with hq;omega));clear zh hg3)
  | (refine mH rfl (.tmp 1) (.const (.int .i64 4)) (.tmp 5) 90 3 88 rfl sU wJ w.heap.size _ 3 rfl 4 rfl GC.o (by rfl) ?_;intro w4 hi4 hg4;have GD:=aa hi4;have cj:=aa (aP.o.grown hg4 (fun q hq=>by injection hq with hq;omega));clear hi4 hg4)
  | (refine mH rfl (.tmp 1) (.const (.int .i64 5)) (.tmp 6) 90 3 88 rfl sU wJ w.heap.size _ 4 rfl 5 rfl GD.o (by rfl) ?_;intro w5 hi5 bP;have Dv:=aa hi5;have bN:=aa (cj.o.grown bP (fun q hq=>by injection hq with hq;omega));clear hi5 bP)
  | (refine mH rfl (.tmp 1) (.const (.int .i64 6)) (.tmp 7) 90 3 88 rfl sU wJ w.heap.size _ 5 rfl 6 rfl Dv.o (by rfl) ?_;intro w6 GF cH;have Pf:=aa GF;have bp:=aa (bN.o.grown cH (fun q hq=>by injection hq with hq;omega));clear GF cH)
  | (refine mH rfl (.tmp 1) (.const (.int .i64 7)) (.tmp 8) 90 3 88 rfl sU wJ w.heap.size _ 6 rfl 7 rfl Pf.o (by rfl) ?_;intro w7 GG b_;have Pg:=aa GG;have aX:=aa (bp.o.grown b_ (fun q hq=>by injection hq with hq;omega));clear GG b_)
  | (refine mH rfl (.tmp 1) (.const (.int .i64 8)) (.tmp 9) 90 3 88 rfl sU wJ w.heap.size _ 7 rfl 8 rfl Pg.o (by rfl) ?_;intro w8 GH cY;have Ph:=aa GH;have cD:=aa (aX.o.grown cY (fun q hq=>by injection hq with hq;omega));clear GH cY)
  | (refine mH rfl (.tmp 1) (.const (.int .i64 9)) (.tmp 10) 90 3 88 rfl sU wJ w.heap.size _ 8 rfl 9 rfl Ph.o (by rfl) ?_;intro w9 Ym l7;have HI9:=aa Ym;have dH:=aa (cD.o.grown l7 (fun q hq=>by injection hq with hq;omega));clear Ym l7)
  | (refine mH rfl (.tmp 1) (.const (.int .i64 10)) (.tmp 11) 90 3 88 rfl sU wJ w.heap.size _ 9 rfl 10 rfl HI9.o (by rfl) ?_;intro nI Yn Eu;have afB:=aa Yn;have Ev:=aa (dH.o.grown Eu (fun q hq=>by injection hq with hq;omega));clear Yn Eu))
 go_ret;exact⟨w.heap.size,rfl,ay _,afB.o,Ev.o⟩
theorem afC(k:Int)(h:¬ (1≤k∧k≤10)):Instr.findNow (.int .i64) (.int .i64 k) reqs.toList 0=some none:=by
 have h1:(k==1)=false:=by simp;omega
 have h2:(k==2)=false:=by simp;omega
 have h3:(k==3)=false:=by simp;omega
 have h4:(k==4)=false:=by simp;omega
 have h5:(k==5)=false:=by simp;omega
 have h6:(k==6)=false:=by simp;omega
 have h7:(k==7)=false:=by simp;omega
 have h8:(k==8)=false:=by simp;omega
 have h9:(k==9)=false:=by simp;omega
 have h10:(k==10)=false:=by simp;omega
 unfold reqs;simp[Instr.findNow,Instr.sameNow,h1,h2,h3,h4,h5,h6,h7,h8,h9,h10]
end
section
open Go.RowKit
theorem Yo{N B mb cap P c5:Nat}{A A5:Option Addr}{es:List Cc}{st:List Co}{q:Rq}{ck cl ch cx:Cv}{w W w5:World}(h0:fg w B mb A cap es st q ck cl ch cx)(h:fg W B mb A cap es st q ck cl ch cx)(hP:bV (bh st) q.aA=P)(hg:Grow w W)(hok:dX N st)(hN:N≤1000000)
 (hE:nZ st q=.ok (cZ st (bV (bh st) q.aA) ⟨q.aA,[],[]⟩,0,[])) (hle:P≤st.length)
 (cr:Blk w5 mb 96 (Bn A st.length cap q.bj q.aA q.index q.path q.unique ck cl ch cx q.n))
 (hown:w5.ownsRow B 48 3 (.slice A5 (st.length+1) c5) (st.length+1) ((dK es).take (P*3)++(Cc.cells ⟨q.aA,none,0,0,none,0,0⟩).toList++(dK es).drop (P*3)))
 (hgr:(W.alloc (.cells (Cc.cells ⟨q.aA,none,0,0,none,0,0⟩) 48)).grownBy w5 (Value.ownBlock (.slice A st.length cap)))
 (hat:Value.ownBlock (.slice A5 (st.length+1) c5)=Value.ownBlock (.slice A st.length cap)∨Value.ownBlock (.slice A5 (st.length+1) c5)=some (W.alloc (.cells (Cc.cells ⟨q.aA,none,0,0,none,0,0⟩) 48)).heap.size) :
 qN w B mb (nZ st q) (.returned (.tuple #[])) (w5.setCell ⟨mb,0,none⟩ (.slice A5 (st.length+1) c5)):=by
 have kr:=(ah W).alloc (.cells (Cc.cells ⟨q.aA,none,0,0,none,0,0⟩) 48);have hA:=h.grow kr;have hlen:(cZ st P (⟨q.aA,[],[]⟩:Co)).length=st.length+1:=uw;have HB:=cr.bf 0 (.slice A5 (st.length+1) c5);rw[bH] at hgr;rw[bH,bH] at hat
 have rh:Kept (fun k=>k=mb∨bw A=some k) (W.alloc (.cells (Cc.cells ⟨q.aA,none,0,0,none,0,0⟩) 48)) (w5.setCell ⟨mb,0,none⟩ (.slice A5 (st.length+1) c5)):=
  ((Bf hgr).mono (fun k hk=>.inr hk)).set (p:=⟨mb,0,none⟩) (.inl rfl) _
 have Yp:∀k,(k=mb∨bw A=some k)→B≤k:=fun k hk=>by
  rcases hk with rfl | hk
  ·exact h.lo
  exact(bO h.own.row k (by rw[bH];exact hk)).1
 have afD:bw A5≠some mb:=fun e=>by
  rcases hat with hat | hat
  ·rw[hat] at e;exact h.DX e
  rw[hat] at e;injection e with e;have:=hA.lt;omega
 refine qN.ok (ag:=[]) (st':=cZ st P ⟨q.aA,[],[]⟩) (((hg.trans kr).below.mono h0.le).trans (rh.below hA.le Yp)) (by rw[hE,hP]) HB.lt (A:=A5) (cap:=c5) (dA:=none) (dc:=0) ((HB.cell 0).trans (by rw[hlen];rfl)) ?_ (HB.cell 28) (HB.cell 29) (InL.nil _);refine WR (S:=fun k=>k=mb∨bw A=some k) ((hA.own.two).ins P (a:=⟨q.aA,none,0,0,none,0,0⟩) ⟨rfl,rfl,rfl,⟨[],iY _ _ _ _,Two.nil⟩,iY _ _ _ _⟩) rh hA.le Yp ?_ (fun c hc=>?_) ?_
 ·rintro k (rfl | hk)
  ·exact⟨_,_,hA.blk,by decide,by decide⟩
  rcases hA.own.row.2 with ⟨e,-⟩ | ⟨g,cp,cur,e,-,hgg,-⟩
  ·injection e with e;rw[e] at hk;cases hk
  injection e with e;rw[e] at hk;cases hk;exact⟨_,_,hgg,by decide,by decide⟩
 ·rcases zy.1 hc with rfl | hc
  ·exact ba _
  exact hok.dl hN c hc
 have hrow:=gF hown (qW (S:=fun q=>q=mb) (dU _ w5) (p:=⟨mb,0,none⟩) rfl (.slice A5 (st.length+1) c5)) (fun g hg e=>afD (e ▸ hg));rw[hlen];rw[show dK (cZ es P ⟨q.aA,none,0,0,none,0,0⟩)=(dK es).take (P*3)++(Cc.cells ⟨q.aA,none,0,0,none,0,0⟩).toList++(dK es).drop (P*3) from (V8 _ 3 (fun _=>rfl) es P _).symm];exact hrow
theorem afE(N B mb cap:Nat)(A:Option Addr)(es:List Cc)(st:List Co)(q:Rq)(ck cl ch cx:Cv)(w:World)(h:fg w B mb A cap es st q ck cl ch cx)(hok:dX N st)(hN:N≤1000000)(hT:eP w) :
 Calls prog 79 #[.pointer (some ⟨mb,0,none⟩)] w (qN w B mb (nZ st q)):=by
 have hs:st.length≤140737488355328:=fg.short hok;have HM:=aa h;have cP:=aa hok;have Yq:=aa hok.n;have Yr:=aa (Yt q.aA w hT);have ny:=aa (fun w1 (hg:Grow w w1)=>adW (h.grow hg) hs);have hm:=h.blk.cell;have Yu:=aa (show bV (bh st) q.aA≤st.length from by have:=PJ (bh st) q.aA;rwa [dZ] at this);obtain⟨NM,Q9⟩:∃b,V.name q.aA=b:=⟨_,rfl⟩;obtain⟨FF,gL⟩:∃b,cK (bh st) q.aA=b:=⟨_,rfl⟩;rw[Q9] at Yr;rw[gL] at ny;have wK:=aa Q9;have jt:=aa gL;obtain⟨P,hP⟩:∃P,bV (bh st) q.aA=P:=⟨_,rfl⟩;rw[hP] at ny Yu;have HP:=aa hP;clear h hok hT Q9 gL hP;go_enter func79,ntmps79;go_wp2_with fail;refine Yr.o.mono ?_;rintro e w1 ⟨rfl,hg⟩;have HG:=aa hg;clear hg hm
 cases NM with
 | false =>
  go_wp2_with fail;refine(AV 4 w1).mono ?_;rintro e w2 ⟨rfl,rfl⟩;go_wp2_with fail;exact⟨rfl,zB (HG.o.below.mono HM.o.le) (by unfold nZ;rw[aw wK.o])⟩
 | true =>
  go_wp2_with fail;refine(tY 4 w1).mono ?_;rintro e w2 ⟨rfl,rfl⟩;go_wp2_with fail;refine(ny.o w1 HG.o).mono ?_;rintro e w3 ⟨rfl,hg3⟩;have aP:=aa (HG.o.trans hg3);have pY:=aa (HM.o.grow aP.o);clear hg3
  cases FF with
  | true =>
   go_wp2_with fail;refine(AV 6 w3).mono ?_;rintro e w4 ⟨rfl,rfl⟩;go_wp2_with fail;exact⟨rfl,zB (aP.o.below.mono HM.o.le) (by unfold nZ;rw[ai (by rw[wK.o];decide),aw jt.o])⟩
  | false =>
   have hm:=pY.o.blk.cell;by_cases LZ:st.length<16
   ·have afF:(st.length:Int)<16:=by omega
    go_wp2_with fail;refine(tY 6 w3).mono ?_;rintro e w4 ⟨rfl,rfl⟩;go_wp2_with fail;refine(tY 19 w3).mono ?_;rintro e w4 ⟨rfl,rfl⟩;have HE:=aa (show nZ st q=.ok (cZ st (bV (bh st) q.aA) ⟨q.aA,[],[]⟩,0,[]) by unfold nZ;rw[ai (by rw[wK.o];decide),ai (by rw[jt.o];decide),ai (by omega)]);have h0:=HM.o;have wL:=Yu;have kO:=aa (show Value.ownBlock (.slice A st.length cap)≠some w3.heap.size from fun e=>by have:=(bO pY.o.own.row _ e).2;omega);clear hm;go_wp2_with fail;refine dN ?_;refine dO (S:=fun w'=>w'.cell? ⟨mb,2,none⟩=some (.string q.aA)) (by kernel_rfl) (pY.o.blk.cell 2) (fun hHeld=>?_);replace pY:=aa (pY.o.grow ((ah w3).drew));replace aP:=aa (aP.o.drew)
    replace kO:=aa (show Value.ownBlock (.slice A st.length cap)≠some w3.drew.heap.size from kO.o);generalize w3.drew=W at pY aP kO hHeld ⊢;refine aj 0 ?_;refine aj 1 ?_;refine aj 2 ?_;refine aj 3 ?_;refine aj 4 ?_;refine aj 6 ?_;refine aj 7 ?_;refine aj 8 ?_;refine aj 9 ?_;refine aj 10 ?_;refine aj 11 ?_;refine aj 12 ?_;refine bZ [5,13] ?_;refine eK (fun K hK=>?_) (eK (fun K hK=>?_) bY)
    ·have hm:=pY.o.blk.cell;go_simp;refine hK.out _ _ (pY.o.blk.cell 2) (fun hHeld=>?_);clear hK K hm
     try simp only[ak]
     refine aK 13 (fun K hK=>?_);go_simp;have rp:=aa (pY.o.grow ((ah W).alloc (.cells (Cc.cells ⟨q.aA,none,0,0,none,0,0⟩) 48)));have aZ:=aa (aP.o.alloc (.cells (Cc.cells ⟨q.aA,none,0,0,none,0,0⟩) 48));refine aU hK (rp.o.blk.cell 2) (fun hHeld=>?_);clear hK K;refine aK 14 (fun K hK=>?_);go_simp;go_at_call 116;refine(Yv B st.length P cap W.heap.size A (dK es) (Cc.cells ⟨q.aA,none,0,0,none,0,0⟩).toList _ 48 (DC es) (by simp[Value.oneCell']) rp.o.own.row wL.o (by have:=Yq.o;omega) rfl (aD W 48 (Cc.cells ⟨q.aA,none,0,0,none,0,0⟩)) kO.o rp.o.le).mono ?_;rintro ee w5 ⟨A5,c5,rfl,Ik,BN,Il⟩;have cr:=rp.o.blk.own BN (fun k hk e=>by rw[bH,e] at hk;exact rp.o.DX hk);have ar:=aa cr;have Q_:=aa Ik;have Ra:=aa BN
     have Rb:=aa Il;have LI:=cr.cell;have iU:=cr.frozen;clear Ik BN Il cr;refine aU hK (ar.o.cell 2) (fun hHeld=>?_);clear hK K;refine aj 15 ?_;refine aj 16 ?_;refine aj 17 ?_;refine aK 18 (fun K hK=>?_);go_simp;refine aU hK ((ar.o.bf 0 (.slice A5 (st.length+1) c5)).cell 2) (fun hHeld=>?_);clear hK K;refine cz ?_;go_wp2_with fail;go_end0;exact Yo h0 pY.o (by rw[HP.o]) aP.o cP.o hN HE.o wL.o ar.o Q_.o Ra.o Rb.o
    go_simp;have rp:=aa (pY.o.grow ((ah W).alloc (.cells (Cc.cells ⟨q.aA,none,0,0,none,0,0⟩) 48)));have aZ:=aa (aP.o.alloc (.cells (Cc.cells ⟨q.aA,none,0,0,none,0,0⟩) 48));refine aU hK (rp.o.blk.cell 2) (fun hHeld=>?_);clear hK K;refine aK 5 (fun K hK=>?_);have hm:=rp.o.blk.cell;go_simp;refine hK.out _ _ (rp.o.blk.cell 2) (fun hHeld=>?_);clear hK K hm
    try simp only[ak]
    refine aK 14 (fun K hK=>?_);go_simp;go_at_call 116;refine(Yv B st.length P cap W.heap.size A (dK es) (Cc.cells ⟨q.aA,none,0,0,none,0,0⟩).toList _ 48 (DC es) (by simp[Value.oneCell']) rp.o.own.row wL.o (by have:=Yq.o;omega) rfl (aD W 48 (Cc.cells ⟨q.aA,none,0,0,none,0,0⟩)) kO.o rp.o.le).mono ?_;rintro ee w5 ⟨A5,c5,rfl,Ik,BN,Il⟩;have cr:=rp.o.blk.own BN (fun k hk e=>by rw[bH,e] at hk;exact rp.o.DX hk);have ar:=aa cr;have Q_:=aa Ik;have Ra:=aa BN;have Rb:=aa Il;have LI:=cr.cell;have iU:=cr.frozen;clear Ik BN Il cr;refine aU hK (ar.o.cell 2) (fun hHeld=>?_);clear hK K;refine aj 15 ?_;refine aj 16 ?_;refine aj 17 ?_;refine aK 18 (fun K hK=>?_);go_simp
    refine aU hK ((ar.o.bf 0 (.slice A5 (st.length+1) c5)).cell 2) (fun hHeld=>?_);clear hK K;refine cz ?_;go_wp2_with fail;go_end0;exact Yo h0 pY.o (by rw[HP.o]) aP.o cP.o hN HE.o wL.o ar.o Q_.o Ra.o Rb.o
   have afF:decide ((st.length:Int)<16)=false:=by simp;omega
   go_wp2_with fail;refine(tY 6 w3).mono ?_;rintro e w4 ⟨rfl,rfl⟩;go_wp2_with fail;refine(AV 19 w3).mono ?_;rintro e w4 ⟨rfl,rfl⟩;go_wp2_with fail;exact⟨rfl,zB (aP.o.below.mono HM.o.le) (by unfold nZ;rw[ai (by rw[wK.o];decide),ai (by rw[jt.o];decide),aw (by omega)])⟩
end


section
open Go.RowKit
theorem afG{d:V}{aq:List Ix}(h:∀i (hi:i<aq.length),(eu aq[i].path d).2.2=0):uq d aq=0:=
 DV.2 fun x hx=>by obtain⟨i,hi,rfl⟩:=lH hx;exact h i hi
theorem afH{w:World}{B:Nat}{e:Cc}{c:Co}(aR:iQ w B e c)(hB:B≤w.heap.size)(hl:c.ag.length≤1000000000) :
 Calls prog 39 #[.slice e.dA c.ag.length e.dc] w fun r w'=>∃A' c' cs,r=.returned (.slice A' c.ag.length c')∧w'.ownsRow w.heap.size 27 5 (.slice A' c.ag.length c') c.ag.length (dG cs)∧Two (fun v c=>eN w' B v c) c.ag cs∧Grow w w':=by
 obtain⟨cs,h1,h2⟩:=aR.ag;refine(Yw c.ag.length e.dA e.dc (dG cs) w ((lg (S:=fun _=>False) h1 (fun _ _ h=>h)).mono km) (DG cs) (by omega)).mono ?_;rintro r w' ⟨A',c',rfl,hown,hg⟩;exact⟨A',c',cs,rfl,hown,h2.mono fun v c hv=>hv.below hg.below hB (ay _),hg⟩
abbrev Sp(mb gb k:Nat):Prop:=k=mb∨k=gb
theorem afI{w7 w8 w9:World}{B:Nat}{ag:List V}{cs:List Cv}{d:V}{cv:Cv}{mb gb:Nat}{A7 A9:Option Addr}(hold:Two (fun v c=>eN w7 B v c) ag cs)(hin:pc w8 w7.heap.size w8.heap.size d cv)(hB:B≤w7.heap.size)(hg:Grow w7 w8)(hk:Kept (fun k=>bw A7=some k) w8 w9)
 (h7:∀g,bw A7=some g→B≤g∧g<w7.heap.size) (h9:∀g,bw A9=some g→(bw A7=some g∨w8.heap.size≤g)) (hmb:B≤mb) (hgb:B≤gb) (jn:mb<w7.heap.size) (hgl:gb<w7.heap.size) :
 Two (fun v c=>IsV (eD w9 (fun q=>bw A9=some q∨Sp mb gb q)) v c) ag cs∧IsV (eD w9 (fun q=>bw A9=some q∨Sp mb gb q)) d cv:=by
 have hz:B≤w8.heap.size:=bn hB hg.size;have hS:∀q,(bw A9=some q∨Sp mb gb q)→B≤q:=fun q hq=>by
  rcases hq with hq | rfl | rfl
  ·rcases h9 q hq with h | h
   ·exact(h7 q h).1
   omega
  ·exact hmb
  exact hgb
 refine⟨hold.mono fun v c hv=>?_,?_⟩
 ·exact(((hv.below hg.below hB (ay _)).keep hk hz (fun q hq=>(h7 q hq).1))).Wa (bn hz hk.size) hS
 have h1:IsV (eD w8 (fun q=>bw A7=some q∨(bw A9=some q∨Sp mb gb q))) d cv:=fw (eD.K6 (ay _) fun q hq=>by
  rcases hq with hq | hq | rfl | rfl
  ·exact .inl (h7 q hq).2
  ·rcases h9 q hq with h | h
   ·exact .inl (h7 q h).2
   exact .inr h
  ·exact .inl jn
  exact .inl hgl) _ _ hin.Be
 exact fw (eD.sub fun q hq=>.inr hq) _ _ (fw (lh hk fun q hq=>.inl hq) _ _ h1)
theorem afJ{B mb cap P gb nd c9 lo:Nat}{A A9:Option Addr}{es:List Cc}{st:List Co}{q:Rq}{ck cl ch cx:Cv}{W w6:World}{e:Cc}{c:Co}{cs':List Cv}{D6:List V}(h:fg W B mb A cap es st q ck cl ch cx)(hA:A=some ⟨gb,0,none⟩)(he:es[P]?=some e)(aR:iQ W B e c)(hP:P<st.length)(hne:gb≠mb)
 (hl:∀c∈st,c.ag.length≤140737488355328) (ej:D6.length≤140737488355328) (hV:VR (Sp mb gb) W lo A9 c9 cs' D6) (hlen:D6.length=nd) (wG:Kept (fun k=>k=mb) (W.setCell ⟨gb,P*3+1,none⟩ (.slice A9 nd c9)) w6) :
 Kept (Sx mb gb none) W w6∧dW w6 A cap (st.set P ⟨c.name,D6,c.aq⟩):=by
 obtain⟨cur,BO,DZ⟩:=h.G8 hA (by omega);have Rc:=ad5 (w:=W) (mb:=mb) (R:=none) (gb:=gb) (k:=P*3+1) (v:=.slice A9 nd c9) (dU _ W) rfl;have hk:Kept (Sx mb gb none) W w6:=Rc.trans (wG.mono fun q hq=>.inl hq);refine⟨hk,?_⟩;have hrow:=ad4 (e':=⟨e.nm,A9,nd,c9,e.xA,e.xn,e.xc⟩) (k:=1) (v:=.slice A9 nd c9) h hA he aR hP (R:=none) (.inl rfl) (dU _ W) (by omega) rfl;refine ad3 (e':=⟨e.nm,A9,nd,c9,e.xA,e.xn,e.xc⟩) h hA he aR hP (R:=none) (.inl rfl) hk hl ?_ (gF hrow wG (fun g hg hs=>?_))
 ·have hS:∀q,Sx mb gb none q→Sp mb gb q:=fun q hq=>by
   rcases hq with hq | hq | hq
   ·exact .inl hq
   ·exact .inr hq
   cases hq
  have hA9:∀g,bw A9=some g→¬ Sp mb gb g:=fun g hg hs=>by
   rcases hs with rfl | rfl
   ·exact ez hV.row h.blk (by decide) hg
   exact ez hV.row BO (by decide) hg
  refine⟨aR.nm,hlen.symm,aR.xn,by rw[← aR.xn];exact(aR.xn ▸ (nr aR.aq).1),?_,?_⟩
  ·rw[← hlen] at *;exact((hV.list hA9 ej).mono (lh hk hS)).mono km
  refine(lg (S:=fun _=>False) (gF aR.aq hk (fun g hg hs=>?_)) (fun _ _ h=>h)).mono km;rcases hs with rfl | rfl | hs
  ·exact ez aR.aq h.blk (by decide) hg
  ·exact ez aR.aq BO (by decide) hg
  cases hs
 subst hs;exact h.DX hg
end
section
open Go.RowKit
noncomputable def jP(path:ByteArray)(d e:V):Bool:=
 match ie d path,ie e path with
 | some a,some b=>(!((bM e).1==(bM d).1))&&mA a b
 | _,_=>false
theorem afK{path:ByteArray}{d e:V}(h:ie e path=none):jP path d e=false:=by unfold jP;rw[h];cases ie d path<;>rfl
theorem afL{path:ByteArray}{d e:V}(h:ie d path=none):jP path d e=false:=by unfold jP;rw[h]
theorem Yx{path:ByteArray}{d e a b:V}(h:ie d path=some a)(h2:ie e path=some b):jP path d e=((!((bM e).1==(bM d).1))&&mA a b):=by unfold jP;rw[h,h2]
def afM(w:World)(g:Option V)(p t:Value)(w':World):Prop:=
 Grow w w'∧∃gb c tt u,p=.pointer (some ⟨gb,0,none⟩)∧t=.bool tt∧Blk w' gb 27 (Cv.cells c)∧In w' u c∧((g=some u∧tt=true)∨(g=none∧tt=false))
theorem Im{g:Option V}{t:Bool}{u:V}{c:Cv}(h:(g=some u∧t=true)∨(g=none∧t=false∧u=V.zero∧c=Cv.zero)):(g=some u∧t=true)∨(g=none∧t=false):=h.imp id fun h=>⟨h.1,h.2.1⟩
theorem afN{wn W3:World}{g:Nat}{c:Cv}(hg:Grow wn W3)(hn:wn.heap.size≤g)(hB:Blk W3 g 27 Cv.zero.cells) :
 Grow wn (((((W3.setCell ⟨g,0,none⟩ (.int .i64 c.k)).setCell ⟨g,1,none⟩ (.int .u64 c.n)).setCell ⟨g,2,none⟩ (.slice c.aB c.nB c.cB)).setCell ⟨g,3,none⟩ (.slice c.aL c.nL c.cL)).setCell ⟨g,4,none⟩ (.slice c.aF c.nF c.cF)) ∧
 Blk (((((W3.setCell ⟨g,0,none⟩ (.int .i64 c.k)).setCell ⟨g,1,none⟩ (.int .u64 c.n)).setCell ⟨g,2,none⟩ (.slice c.aB c.nB c.cB)).setCell ⟨g,3,none⟩ (.slice c.aL c.nL c.cL)).setCell ⟨g,4,none⟩ (.slice c.aF c.nF c.cF)) g 27 c.cells:=by
 have hk:Kept (fun q=>q=g) W3 (((((W3.setCell ⟨g,0,none⟩ (.int .i64 c.k)).setCell ⟨g,1,none⟩ (.int .u64 c.n)).setCell ⟨g,2,none⟩ (.slice c.aB c.nB c.cB)).setCell ⟨g,3,none⟩ (.slice c.aL c.nL c.cL)).setCell ⟨g,4,none⟩ (.slice c.aF c.nF c.cF)):=
  (((((dU (S:=fun q=>q=g) W3).set (p:=⟨g,0,none⟩) rfl _).set (p:=⟨g,1,none⟩) rfl _).set (p:=⟨g,2,none⟩) rfl _).set (p:=⟨g,3,none⟩) rfl _).set (p:=⟨g,4,none⟩) rfl _
 exact⟨hg.below.trans (hk.below hg.size (fun q hq=>hq ▸ hn)),((((hB.bf 0 _).bf 1 _).bf 2 _).bf 3 _).bf 4 _⟩
theorem Yy(nm:ByteArray)(ag:List V)(dA xA:Option Addr)(dc xn xc:Nat)(x:Ix)(d:V)(cd:Cv)(w:World)(hd:InL w dA dc ag)(hok:∀d∈ag,fC d)(hl:ag.length≤1000000)(hx:x.path.size<4294967281)(hf:d.formed=true)(hcn:d.count≤20000)(Yz:d.formed=true→d.bytes.length≤140737488355328)(hi:In w d cd) :
 Calls prog 72 #[.agg #[.string nm,.slice dA ag.length dc,.slice xA xn xc],.agg x.cells,cd.agg] w fun e w'=>e=.returned (.bool (ag.any (jP x.path d)))∧Grow w w':=by
 have HD:=aa hd;have cP:=aa hok;have HL:=aa hl;have HG:=aa (((ah w).alloc (.cells #[.string nm,.slice dA ag.length dc,.slice xA xn xc] 48)).alloc (.cells x.cells 64) |>.alloc (.cells cd.cells 27));have aV:=aa (((aD w 48 #[.string nm,.slice dA ag.length dc,.slice xA xn xc]).alloc (.cells x.cells 64)).alloc (.cells cd.cells 27));have av:=aa ((cX (w:=w.alloc (.cells #[.string nm,.slice dA ag.length dc,.slice xA xn xc] 48)) (g:=w.heap.size+1) (by simp) 64 x.cells).alloc (.cells cd.cells 27));have ar:=aa (cX (w:=(w.alloc (.cells #[.string nm,.slice dA ag.length dc,.slice xA xn xc] 48)).alloc (.cells x.cells 64)) (g:=w.heap.size+1+1) (by simp) 27 cd.cells);have BP:=aa (fun(W:World) (hg:Grow w W)=>BL w _ d x.path cd W (ay _) hx hf hg hi)
 have YA:=aa (fun(v:V) (c:Cv) (w0 W:World) (hf:v.formed=true) (hg:Grow w0 W) (hi:In w0 v c)=>BL w0 _ v x.path c W (ay _) hx hf hg hi);have uS:=aa (fun(W:World) (hg:Grow w W)=>Es d cd W hcn Yz (hi.grow hg));obtain⟨ixn,xp,xu⟩:=x;dsimp only[Ix.cells] at HG aV av ar BP YA ⊢;obtain⟨R,hR⟩:∃r,ag.any (jP xp d)=r:=⟨_,rfl⟩;rw[hR];have HR:=aa hR;clear hd hok hl hx hf hcn Yz hi hR;go_enter func72,ntmps72;go_upto_region 1 with fail;generalize ((w.alloc (.cells #[.string nm,.slice dA ag.length dc,.slice xA xn xc] 48)).alloc (.cells #[.string ixn,.string xp,.bool xu] 64)).alloc (.cells cd.cells 27)=w3 at HG aV av ar ⊢;have hb4:=av.o.cell;have cr:=ar.o.cell;go_wp2_with fail;refine(BP.o _ HG.o).mono ?_;rintro e w4 ⟨hg4,c7,t7,u7,rfl,YB,kp⟩;have HU7:=aa YB
 have iy:=aa (Im kp);have cj:=aa (HG.o.trans (hg4.alloc (.cells c7.cells 27)));replace aV:=aa ((aV.o.grow hg4).alloc (.cells c7.cells 27));replace av:=aa ((av.o.grow hg4).alloc (.cells c7.cells 27));replace ar:=aa ((ar.o.grow hg4).alloc (.cells c7.cells 27));have ji:=aa (aD w4 27 c7.cells);clear hb4 cr YB kp hg4;go_wp2_with fail;generalize w4.alloc (.cells c7.cells 27)=w5 at cj aV av ar ji ⊢;obtain⟨g7,b_⟩:∃g,w4.heap.size=g:=⟨_,rfl⟩;rw[b_] at ji ⊢;clear b_;go_loopg [9] (ag.length+1) (fun gk i wr=>∃j:Nat,j≤ag.length∧gk+j=ag.length+1∧i=.int .i64 j∧(∀i (hi:i<ag.length),i<j→jP xp d ag[i]=false)∧Grow w5 wr);exact⟨0,ba _,rfl,rfl,fun _ _ h=>absurd h (by omega),ah _⟩;obtain⟨j,hj,hg,rfl,hne,hgr⟩:=hrel;obtain⟨gk',rfl⟩:=bS gk (by omega)
 have hl0:=HL.o;have HN:=aa hne;have aH:=aa hgr;have aY:=aa (cj.o.trans hgr);replace aV:=aa (aV.o.grow hgr);replace av:=aa (av.o.grow hgr);replace ar:=aa (ar.o.grow hgr);replace ji:=aa (ji.o.grow hgr);have hb3:=aV.o.cell;clear hne;by_cases hlt:j<ag.length
 ·obtain⟨bk,o,y,ha,hbk,e0,e1,e2,e3,e4,hy⟩:=(HD.o.grow aY.o).fO j hlt;dsimp only[kH] at ha;subst ha;have kq:=cP.o ag[j] (aW hlt);obtain⟨-,-,-,-,hgd,-⟩:=kq.id;have YC:=aa (fun(W:World) (hg:Grow wr W)=>YA.o ag[j] y wr W (lR hgd).1 hg hy);have Gk:=aa (fun(W:World) (hg:Grow wr W)=>Es ag[j] y W kq.count kq.bytes (hy.grow hg));have mN:=ji.o.cell;have hb4:=av.o.cell;have cr:=ar.o.cell;clear kq hgd hy hgr
  cases t7 with
  | false =>
   have hno:ie d xp=none:=by rcases iy.o with h | h;exact absurd h.2 (by decide);exact h.1
   have hres:R=false:=by rw[← HR.o,N6];intro v hv;rw[afL hno];decide
   have nJ:=aa hres;clear hno hres mN hb4 cr;go_wp2_with fail;go_ret;rw[nJ.o];exact⟨rfl,aY.o⟩
  | true =>
   have YD:ie d xp=some u7:=by rcases iy.o with h | h;exact h.1;exact absurd h.2 (by decide)
   have HP7:=aa YD;clear YD;go_upto_region 5 with fail;go_cut [10,11] from 29 to 39 (fun p t wx=>afM wr (ie ag[j] xp) p t wx)
   case first =>
    have gq:=aa (fun(W:World) (hg:Grow wr W)=>show W.cell? ⟨w.heap.size,1,none⟩=some (.slice (some ⟨bk,o,none⟩) ag.length dc)∧W.cell? ⟨w.heap.size+1,1,none⟩=some (.string xp)∧W.cell? ⟨bk,o+j*5,none⟩=some (.int .i64 y.k)∧W.cell? ⟨bk,o+j*5+1,none⟩=some (.int .u64 y.n)∧W.cell? ⟨bk,o+j*5+2,none⟩=some (.slice y.aB y.nB y.cB)∧W.cell? ⟨bk,o+j*5+3,none⟩=some (.slice y.aL y.nL y.cL)∧W.cell? ⟨bk,o+j*5+4,none⟩=some (.slice y.aF y.nF y.cF) from
     ⟨(aV.o.grow hg).cell 1,(av.o.grow hg).cell 1,(hg.below.cell (p:=⟨bk,o+j*5,none⟩) hbk).trans e0,(hg.below.cell (p:=⟨bk,o+j*5+1,none⟩) hbk).trans e1,(hg.below.cell (p:=⟨bk,o+j*5+2,none⟩) hbk).trans e2,(hg.below.cell (p:=⟨bk,o+j*5+3,none⟩) hbk).trans e3,(hg.below.cell (p:=⟨bk,o+j*5+4,none⟩) hbk).trans e4⟩)
    clear e0 e1 e2 e3 e4 hb3 hb4 cr mN;refine dN ?_;refine dO (S:=fun w'=>w'.cell? ⟨w.heap.size,1,none⟩=some (.slice (some ⟨bk,o,none⟩) ag.length dc)∧w'.cell? ⟨w.heap.size+1,1,none⟩=some (.string xp)∧w'.cell? ⟨bk,o+j*5,none⟩=some (.int .i64 y.k)∧w'.cell? ⟨bk,o+j*5+1,none⟩=some (.int .u64 y.n)∧w'.cell? ⟨bk,o+j*5+2,none⟩=some (.slice y.aB y.nB y.cB)∧w'.cell? ⟨bk,o+j*5+3,none⟩=some (.slice y.aL y.nL y.cL)∧w'.cell? ⟨bk,o+j*5+4,none⟩=some (.slice y.aF y.nF y.cF)) (by kernel_rfl) (gq.o _ (ah _).drew) (fun hHeld=>?_);have aC:=aa (show Grow wr wr.drew from (ah _).drew);generalize wr.drew=W0 at aC hHeld ⊢;refine aj 0 ?_;refine eB 1 ?_;refine aj 2 ?_;refine aj 3 ?_;refine eB 4 ?_;refine aj 5 ?_;refine eB 6 ?_;refine bZ [7,11] ?_
    refine eK (fun K hK=>?_) (eK (fun K hK=>?_) bY)
    ·go_simp;go_at_call 56;refine(YC.o _ aC.o).mono ?_;rintro ee W3 ⟨hg3,cc,tt,uu,rfl,hu,hres⟩;refine aU hK (gq.o _ (aC.o.trans hg3)) (fun hHeld=>?_);clear hK K;refine aj 8 ?_;refine aj 9 ?_;refine aj 10 ?_;refine aK 11 (fun K hK=>?_);go_simp;refine aU hK (gq.o _ ((aC.o.trans hg3).alloc _)) (fun hHeld=>?_);clear hK K;refine aK 12 (fun K hK=>?_);go_simp;refine aU hK (gq.o _ ((aC.o.trans hg3).alloc _)) (fun hHeld=>?_);clear hK K;refine aj 13 ?_;refine cz ?_;go_wp2_with fail;go_meet;exact⟨(aC.o.trans hg3).alloc _,_,cc,tt,uu,rfl,rfl,aD W3 _ _,hu.grow ((aC.o.trans hg3).alloc _),Im hres⟩
    go_simp;refine aU hK (gq.o _ (aC.o.alloc _)) (fun hHeld=>?_);clear hK K;refine aK 7 (fun K hK=>?_);go_simp;go_at_call 56;refine(YC.o _ (aC.o.alloc _)).mono ?_;rintro ee W3 ⟨hg3,cc,tt,uu,rfl,hu,hres⟩;refine aU hK (gq.o _ ((aC.o.alloc _).trans hg3)) (fun hHeld=>?_);clear hK K;refine aj 8 ?_;refine aj 9 ?_;refine aj 10 ?_;refine aK 12 (fun K hK=>?_);have rq:=(aD W0 27 Cv.zero.cells).grow hg3;obtain⟨Io,Ip⟩:=afN (c:=cc) ((aC.o.alloc _).trans hg3) aC.o.size rq;have hbc:=rq.cell;have uI:=rq.frozen;have Ew:=aa Io;have Re:=aa Ip;clear rq Io Ip;go_simp;clear hbc uI;refine aU hK (gq.o _ Ew.o) (fun hHeld=>?_);clear hK K;refine aj 13 ?_;refine cz ?_;go_wp2_with fail;go_meet;exact⟨Ew.o,_,cc,tt,uu,rfl,rfl,Re.o,hu.grow Ew.o,Im hres⟩
   obtain⟨dQ,g10,c10,tt,uj,rfl,rfl,fP,hij,L1⟩:=hcut;have dh:=aa dQ;have bI:=aa fP;have L4:=aa hij;have HU:=aa (HU7.o.grow (aY.o.trans dQ));have gY:=aa (fun(W:World) (hg:Grow wc W)=>UY u7 uj W c7 c10 (HU.o.grow hg) (L4.o.grow hg));have fJ:=aa (aH.o.trans dQ);clear hij fP dQ
   cases tt with
   | false =>
    have hno:ie ag[j] xp=none:=by rcases L1 with h | h;exact absurd h.2 (by decide);exact h.1
    have ya:=aa (show ∀i (hi:i<ag.length),i<j+1→jP xp d ag[i]=false from fun i hi hij=>by
     by_cases ir:i=j
     ·subst ir;exact afK hno
     exact HN.o i hi (by omega))
    clear hno L1 hb3 hb4 cr mN e0 e1 e2 e3 e4;go_wp2_with fail;go_quiet (fail);go_wp2_with fail;go_roundg gk';exact⟨j+1,by omega,by omega,by go_num,ya.o,fJ.o.trans ((ah _).drewN _)⟩;omega
   | true =>
    have YE:ie ag[j] xp=some uj:=by rcases L1 with h | h;exact h.1;exact absurd h.2 (by decide)
    have hval:=Yx HP7.o YE;have hks:uQ ag[j]=uQ d↔(bM ag[j]).1=(bM d).1:=by unfold uQ;exact⟨fun h=>by injection h with h;simpa using h,fun h=>by rw[h]⟩
    obtain⟨kj,hkj⟩:∃s,uQ ag[j]=s:=⟨_,rfl⟩;obtain⟨kd,YF⟩:∃s,uQ d=s:=⟨_,rfl⟩;rw[hkj] at Gk hks;rw[YF] at uS hks;have YG:=aa hval;have BQ:=aa hks;clear L1 YE hval hks hkj YF;go_upto_region 6 with fail
    have uT:=aa (fun(W:World) (hg:Grow wc W)=>show (∀i,W.cell? ⟨w.heap.size,i,none⟩=(#[.string nm,.slice (some ⟨bk,o,none⟩) ag.length dc,.slice xA xn xc]:Array Value)[i]?)∧(∀i,W.cell? ⟨w.heap.size+1+1,i,none⟩=cd.cells[i]?)∧(∀i,W.cell? ⟨g7,i,none⟩=c7.cells[i]?)∧(∀i,W.cell? ⟨g10,i,none⟩=c10.cells[i]?)∧W.cell? ⟨bk,o+j*5,none⟩=some (.int .i64 y.k)∧W.cell? ⟨bk,o+j*5+1,none⟩=some (.int .u64 y.n)∧W.cell? ⟨bk,o+j*5+2,none⟩=some (.slice y.aB y.nB y.cB)∧W.cell? ⟨bk,o+j*5+3,none⟩=some (.slice y.aL y.nL y.cL)∧W.cell? ⟨bk,o+j*5+4,none⟩=some (.slice y.aF y.nF y.cF) from
     ⟨(aV.o.grow (dh.o.trans hg)).cell,(ar.o.grow (dh.o.trans hg)).cell,(ji.o.grow (dh.o.trans hg)).cell,(bI.o.grow hg).cell,((dh.o.trans hg).below.cell (p:=⟨bk,o+j*5,none⟩) hbk).trans e0,((dh.o.trans hg).below.cell (p:=⟨bk,o+j*5+1,none⟩) hbk).trans e1,((dh.o.trans hg).below.cell (p:=⟨bk,o+j*5+2,none⟩) hbk).trans e2,((dh.o.trans hg).below.cell (p:=⟨bk,o+j*5+3,none⟩) hbk).trans e3,((dh.o.trans hg).below.cell (p:=⟨bk,o+j*5+4,none⟩) hbk).trans e4⟩)
    clear e0 e1 e2 e3 e4 hb3 hb4 cr mN;refine dN ?_;refine dO (S:=fun w'=>(∀i,w'.cell? ⟨w.heap.size,i,none⟩=(#[.string nm,.slice (some ⟨bk,o,none⟩) ag.length dc,.slice xA xn xc]:Array Value)[i]?)∧(∀i,w'.cell? ⟨w.heap.size+1+1,i,none⟩=cd.cells[i]?)∧(∀i,w'.cell? ⟨g7,i,none⟩=c7.cells[i]?)∧(∀i,w'.cell? ⟨g10,i,none⟩=c10.cells[i]?)∧w'.cell? ⟨bk,o+j*5,none⟩=some (.int .i64 y.k)∧w'.cell? ⟨bk,o+j*5+1,none⟩=some (.int .u64 y.n)∧w'.cell? ⟨bk,o+j*5+2,none⟩=some (.slice y.aB y.nB y.cB)∧w'.cell? ⟨bk,o+j*5+3,none⟩=some (.slice y.aL y.nL y.cL)∧w'.cell? ⟨bk,o+j*5+4,none⟩=some (.slice y.aF y.nF y.cF)) (by kernel_rfl) (uT.o _ (ah _).drew) (fun hHeld=>?_);have jc:=aa (show Grow wc wc.drew from (ah _).drew);generalize wc.drew=W0 at jc hHeld ⊢
    refine aJ 0 ?_
    try simp only[ak]
    refine aJ 1 ?_
    try simp only[ak]
    refine aJ 2 ?_
    try simp only[ak]
    refine aj 3 (hy:=bt fun w ax=>by obtain⟨b3,-,-,-,-,-,-,-,-⟩:=ax;go_simp;try rfl) ?_;refine aJ 4 ?_
    try simp only[ak]
    refine aJ 5 ?_
    try simp only[ak]
    refine aj 6 (hy:=bt fun w ax=>by obtain⟨-,-,-,-,k0,k1,k2,k3,k4⟩:=ax;go_simp;try rfl) ?_;refine aj 8 (hy:=bt fun w ax=>by obtain⟨-,b5,-,-,-,-,-,-,-⟩:=ax;go_simp;try rfl) ?_;refine aK 7 (fun K hK=>?_);have hC:=Gk.o W0 (dh.o.trans jc.o);go_simp;go_at_call 71;refine hC.mono ?_;rintro ee W1 ⟨rfl,hg1⟩;refine aU hK (uT.o _ (jc.o.trans hg1)) (fun hHeld=>?_);clear hK K;refine aK 9 (fun K hK=>?_);have Iq:=uS.o W1 (aY.o.trans (dh.o.trans (jc.o.trans hg1)));go_simp;go_at_call 71;refine Iq.mono ?_;rintro ee W2 ⟨rfl,hg2⟩;refine aU hK (uT.o _ ((jc.o.trans hg1).trans hg2)) (fun hHeld=>?_);clear hK K;have HG2:=aa ((jc.o.trans hg1).trans hg2);clear hC Iq hg1 hg2;by_cases hk:kj=kd
    ·have hk2:(kj.toList==kd.toList)=true:=(yU _ _).2 hk;have ya:=aa (show ∀i (hi:i<ag.length),i<j+1→jP xp d ag[i]=false from fun i hi hij=>by
      by_cases ir:i=j
      ·subst ir;rw[YG.o,BQ.o.1 hk];simp
      exact HN.o i hi (by omega))
     have qY:=aa (fJ.o.trans HG2.o);clear hk;refine aJ 10 ?_
     try simp only[ak]
     refine aJ 11 ?_
     try simp only[ak]
     refine aJ 12 ?_
     try simp only[ak]
     refine aj 13 (v:=undef) (hy:=Or.inr ⟨by rfl,rfl⟩) ?_;refine aj 14 (v:=undef) (hy:=Or.inr ⟨by rfl,rfl⟩) ?_;refine aj 15 (v:=undef) (hy:=Or.inr ⟨by rfl,rfl⟩) ?_;refine aJ 16 ?_
     try simp only[ak]
     refine cz ?_;clear hHeld;go_wp2_with fail;go_roundg gk';exact⟨j+1,by omega,by omega,by go_num,ya.o,qY.o⟩;omega
    have hk2:(kj.toList==kd.toList)=false:=Lp hk;have hv2:jP xp d ag[j]=mA u7 uj:=by
     rw[YG.o,beq_false_of_ne (fun h=>hk (BQ.o.2 h))];rfl
    have Rf:=aa hv2;clear hk hv2;refine aJ 10 ?_
    try simp only[ak]
    refine aJ 11 ?_
    try simp only[ak]
    refine aJ 12 ?_
    try simp only[ak]
    refine aj 13 (hy:=bt fun w ax=>by obtain⟨-,-,b7,-,-,-,-,-,-⟩:=ax;go_simp;try rfl) ?_;refine aj 14 (hy:=bt fun w ax=>by obtain⟨-,-,-,ku,-,-,-,-,-⟩:=ax;go_simp;try rfl) ?_;refine aK 15 (fun K hK=>?_);have YH:=gY.o W2 HG2.o;go_simp;go_at_call 26;refine YH.mono ?_;rintro ee W3 ⟨rfl,hg3⟩;refine aU hK (uT.o _ (HG2.o.trans hg3)) (fun hHeld=>?_);clear hK K;refine aJ 16 ?_
    try simp only[ak]
    refine cz ?_;clear hHeld;have qY:=aa (fJ.o.trans (HG2.o.trans hg3));clear YH hg3;obtain⟨sb,YI⟩:∃b,mA u7 uj=b:=⟨_,rfl⟩;rw[YI] at Rf ⊢;clear YI
    cases sb with
    | true =>
     go_wp2_with fail;go_ret;have hres:R=true:=by rw[← HR.o,List.any_eq_true];exact⟨ag[j],aW hlt,Rf.o⟩
     rw[hres];exact⟨rfl,cj.o.trans qY.o⟩
    | false =>
     have ya:=aa (show ∀i (hi:i<ag.length),i<j+1→jP xp d ag[i]=false from fun i hi hij=>by
      by_cases ir:i=j
      ·subst ir;exact Rf.o
      exact HN.o i hi (by omega))
     go_wp2_with fail;go_roundg gk';exact⟨j+1,by omega,by omega,by go_num,ya.o,qY.o⟩;omega
 have hjl:j=ag.length:=by omega
 subst hjl;have hres:R=false:=by
  rw[← HR.o,N6];intro v hv;obtain⟨i,hi,rfl⟩:=lH hv;rw[HN.o i hi hi];decide
 have nJ:=aa hres;clear hres hgr
 cases t7 with
 | false =>
  go_wp2_with fail;go_ret;rw[nJ.o];exact⟨rfl,aY.o⟩
 | true =>
  go_wp2_with fail;go_ret;rw[nJ.o];exact⟨rfl,aY.o⟩
end
section
open Go.RowKit Go.Shelf
abbrev Ir(k n:Int):Cv:=⟨k,n,none,0,0,none,0,0,none,0,0⟩
theorem YJ{F:Func}{W:World}{vb:Nat}{tmps:Array Value}(i:Nat)(hF:F.results=#[ResultVar.cell i 27])(h2:tmps.getD i undef=.pointer (some ⟨vb,0,none⟩))(c:Cv)(hv:Blk W vb 27 c.cells) :
 (results F tmps).run prog W=.ok c.agg W:=by
 have xL:=hv.cell;have h2':tmps[i]?.getD undef=.pointer (some ⟨vb,0,none⟩):=by simpa using h2
 simp[results,hF,go_sem,h2',xL]
theorem YK{C:Addr→Value→Prop}{n:Nat}(h:n<18446744073709551616):IsV C (iV n) (Ir 3 n):=by
 unfold iV;rw[IsV];exact⟨rfl,rfl,rfl,rfl,rfl,by decide,by decide,h,by simp,by simp,by simp,by simp,by simp,by simp,⟨rfl,fun h=>by simp at h⟩,fun i hi=>by simp at hi,fun i hi=>by simp at hi⟩
theorem YL(n:Nat)(k:Int)(hn:n≤9223372036854775807)(hk:k=n)(w:World):Calls prog 10 #[.int .i64 k] w fun e w'=>e=.returned (Ir 3 n).agg∧Grow w w':=by
 subst hk;have hwr:IntKind.u64.wrap (n:Int)=(n:Int):=IntWalk.u64_in _ (by omega);have HW:=aa hwr;clear hwr;go_enter func10,ntmps10;go_wp2_with fail;exact iE (YJ 2 rfl rfl (Ir 3 n) (aD w _ _)) rfl ⟨rfl,(ah w).alloc _⟩
abbrev YM(s:ByteArray)(c:Cv):List Value:=.string s::c.cells.toList
abbrev BR(w w':World)(v:V)(c:Cv):Prop:=IsV (bK w' w.heap.size w'.heap.size) v c
theorem BR.lL{w w':World}{v:V}{c:Cv}(h:BR w w' v c):In w' v c:=fw (fun _ _ q=>⟨q.1,ba _,q.2.2⟩) _ _ h
theorem BR.mO{w0 w:World}{g n:Nat}{cs:Array Value}{f:List (ByteArray×V)}{xs:List Cv}(hl:f.length=xs.length)(hn:n=f.length)(hsm:f.length≤64)(hs:∀x∈f,x.1.size≤140737488355328)(hB:Blk w g 82 cs)
 (hc:∀i (hi:i<f.length) j v,(YM f[i].1 (xs[i]'(by omega)))[j]?=some v→cs[i*6+j]?=some v) (h:∀i (hi:i<f.length),IsV (bK w w0.heap.size w.heap.size) f[i].2 (xs[i]'(by omega))) (h0:w0.heap.size≤g):BR w0 w (.mk 8 0 [] [] f) ⟨8,0,none,0,0,none,0,0,some ⟨g,0,none⟩,n,n⟩:=by
 have hlt:=hB.lt;subst hn;unfold BR;rw[IsV];refine⟨rfl,rfl,rfl,rfl,rfl,by decide,by decide,by decide,by simp,by simp,by simp,by simp,ay _,by omega,⟨rfl,fun h=>by simp at h⟩,fun i hi=>by simp at hi,fun i hi=>?_⟩;have hcell:∀j v,(YM f[i].1 (xs[i]'(by omega)))[j]?=some v→w.cell? ⟨g,0+i*6+j,none⟩=some v:=fun j v hv=>by
  rw[dY,hB.cell];exact hc i hi j v hv
 exact⟨g,0,xs[i]'(by omega),rfl,⟨hcell 0 _ rfl,h0,hlt⟩,hs _ (aW hi),⟨⟨hcell 1 _ rfl,h0,hlt⟩,⟨hcell 2 _ rfl,h0,hlt⟩,⟨hcell 3 _ rfl,h0,hlt⟩,⟨hcell 4 _ rfl,h0,hlt⟩,⟨hcell 5 _ rfl,h0,hlt⟩⟩,h i hi⟩
abbrev yb(A:Option Addr)(n:Nat):Cv:=⟨8,0,none,0,0,none,0,0,A,n,n⟩
theorem YN(i x:Nat)(a b:Int)(ha:a=i)(hb:b=x)(hi:i≤9223372036854775807)(hx:x≤9223372036854775807)(w:World) :
 Calls prog 9 #[.int .i64 a,.int .i64 b] w fun e w'=>∃A,e=.returned (yb A 2).agg∧BR w w' (dV i x) (yb A 2)∧Grow w w':=by
 have Gz:=aa (fun W=>YL i a hi ha W);have GA:=aa (fun W=>YL x b hx hb W);have aM:=aa ((ah w).alloc (.cells Cv.zero.cells 27));have bg:=aa (aD w 27 Cv.zero.cells);clear ha hb;go_enter func9,ntmps9;go_wp2_with fail;refine(Gz.o _).mono ?_;rintro e w1 ⟨rfl,hg1⟩;have aO:=aa (aM.o.trans hg1);have aQ:=aa (bg.o.grow hg1);clear hg1;go_wp2_with fail;refine(GA.o _).mono ?_;rintro e w2 ⟨rfl,hg2⟩;have HG2:=aa (aO.o.trans hg2);have aG:=aa (aQ.o.grow hg2);have aV:=aa ((aG.o).alloc (.cells #[.string ⟨#[95,105,100]⟩,.int .i64 3,.int .u64 i,.slice none 0 0,.slice none 0 0,.slice none 0 0,.string ⟨#[120]⟩,.int .i64 3,.int .u64 x,.slice none 0 0,.slice none 0 0,.slice none 0 0] 82))
 have YO:=aa (aD w2 82 #[.string ⟨#[95,105,100]⟩,.int .i64 3,.int .u64 i,.slice none 0 0,.slice none 0 0,.slice none 0 0,.string ⟨#[120]⟩,.int .i64 3,.int .u64 x,.slice none 0 0,.slice none 0 0,.slice none 0 0]);have aP:=aa (HG2.o.alloc (.cells #[.string ⟨#[95,105,100]⟩,.int .i64 3,.int .u64 i,.slice none 0 0,.slice none 0 0,.slice none 0 0,.string ⟨#[120]⟩,.int .i64 3,.int .u64 x,.slice none 0 0,.slice none 0 0,.slice none 0 0] 82));have hbc:=aV.o.cell;have uI:=aV.o.frozen;clear hg2;go_wp2_with fail;clear hbc uI;generalize w2.alloc (.cells #[.string ⟨#[95,105,100]⟩,.int .i64 3,.int .u64 i,.slice none 0 0,.slice none 0 0,.slice none 0 0,.string ⟨#[120]⟩,.int .i64 3,.int .u64 x,.slice none 0 0,.slice none 0 0,.slice none 0 0] 82)=W3 at aV YO aP ⊢;have hne:w2.heap.size≠w.heap.size:=by have:=aG.o.lt;omega
 refine iE (YJ 4 rfl rfl (yb (some ⟨w2.heap.size,0,none⟩) 2) (((((aV.o.bf 0 _).bf 1 _).bf 2 _).bf 3 _).bf 4 _)) rfl ⟨_,rfl,?_,((((aP.o.setCell (by simp) _).setCell (by simp) _).setCell (by simp) _).setCell (by simp) _).setCell (by simp) _⟩;refine BR.mO (f:=[(lM,iV i),(nX,iV x)]) (xs:=[Ir 3 i,Ir 3 x]) rfl rfl (by simp) (fun y hy=>?_) (((((YO.o.far (p:=⟨w.heap.size,0,none⟩) hne _).far (p:=⟨w.heap.size,1,none⟩) hne _).far (p:=⟨w.heap.size,2,none⟩) hne _).far (p:=⟨w.heap.size,3,none⟩) hne _).far (p:=⟨w.heap.size,4,none⟩) hne _) (fun k hk j v hv=>?_) (fun k hk=>?_) HG2.o.size
 ·simp at hy;rcases hy with rfl | rfl
  ·show lM.size≤_;decide
  show nX.size≤_;decide
 ·have hk2:k=0∨k=1:=by simp at hk;omega
  rcases hk2 with rfl | rfl
  ·rcases j with _ | _ | _ | _ | _ | _ | j<;>first | exact hv | simp at hv
  rcases j with _ | _ | _ | _ | _ | _ | j<;>first | exact hv | simp at hv
 have hk2:k=0∨k=1:=by simp at hk;omega
 rcases hk2 with rfl | rfl
 ·exact YK (by omega)
 exact YK (by omega)
end
section
open Go.RowKit
theorem afO(W:World)(v:Value):(Instr.typeAssert (.iface 29 v) 20 29 true).run prog W=.ok (.tuple #[v,.bool true]) W:=by kernel_rfl
theorem afP(W:World):(Instr.typeAssert .nilIface 20 29 true).run prog W=.ok (.tuple #[.int .i64 0,.bool false]) W:=by kernel_rfl
def L5(w:World)(ob rb:Nat)(s:Value)(e:Int):World:=
 ((((w.setCell ⟨ob,0,none⟩ s).setCell ⟨rb,0,none⟩ (.int .i64 e)).setCell ⟨rb,1,none⟩ (.int .i64 0)).setCell ⟨rb,2,none⟩ (.slice none 0 0)).setCell ⟨rb,3,none⟩ (.int .i64 0)
theorem afQ(sb ob rb cap:Nat)(A:Option Addr)(e:Int)(st:List Co)(x r0 r1 r2 r3:Value)(YP:List PanicEntry)(w:World)(hs:Blk w sb 44 #[.slice A st.length cap])(ho:Blk w ob 44 #[x])(hr:Blk w rb 31 #[r0,r1,r2,r3])(hne:ob≠rb)
 (hC:Calls prog 37 #[.agg #[.slice A st.length cap]] w (Xo w st)) :
 CallsD prog 41 #[.pointer (some ⟨sb,0,none⟩),.pointer (some ⟨ob,0,none⟩),.pointer (some ⟨rb,0,none⟩)] (.panicking ({ v:=.iface 29 (.int .i64 e),recovered:=false }::YP)) w fun r u' w' =>
  r=.returned (.tuple #[])∧u'=.panicking ({ v:=.iface 29 (.int .i64 e),recovered:=true }::YP)∧∃A' c' es w1,Grow w w1∧CR (fun q=>q<w.heap.size) w1 w.heap.size A' c' es st∧w'=L5 w1 ob rb (.slice A' st.length c') e:=by
 have hsc:=hs.cell;have HO:=aa ho;have HR:=aa hr;have HC:=aa hC;have hta:=afO;clear hs ho hr hC;refine callsD_of_wpS func41 rfl fun c₀ cs hu=>?_
 apply wpS_seq;apply wpS_region;simp[wpOpsS,go_sem,recoverD,hu,ntmps41,Exit.thenS];simp only[Array.replicate,List.replicate,Array.setIfInBounds];refine wpS_of_wp ?_;clear hu;go_wp2_with fail;refine HC.o.mono ?_;rintro ee w1 ⟨hg,A1,c1,es1,rfl,hst⟩;have ru:=(HO.o.grow hg).cell;have hof:=(HO.o.grow hg).frozen;have hrc:=(HR.o.grow hg).cell;have hrf:=(HR.o.grow hg).frozen;have HG:=aa hg;have HST:=aa hst;clear hg hst hsc;go_wp2_with fail;simp[bodyPostS,results,results41,go_sem];exact⟨A1,c1,es1,w1,HG.o,HST.o,rfl⟩
theorem afR(sb ob rb:Nat)(w:World) :
 CallsD prog 41 #[.pointer (some ⟨sb,0,none⟩),.pointer (some ⟨ob,0,none⟩),.pointer (some ⟨rb,0,none⟩)] .returning w fun r u' w' =>
  r=.returned (.tuple #[])∧u'=.returning∧w'=w:=by
 have hta:=afP;refine callsD_of_wpS func41 rfl fun c₀ cs hu=>?_
 apply wpS_seq;apply wpS_region;simp[wpOpsS,go_sem,recoverD,hu,ntmps41,Exit.thenS];simp only[Array.replicate,List.replicate,Array.setIfInBounds];refine wpS_of_wp ?_;go_wp2_with fail
 cases c₀
 simp_all [bodyPostS,results,results41,go_sem]
end
end Go.Proofs.YtndjopkdbdcmdaaGreatDoor
