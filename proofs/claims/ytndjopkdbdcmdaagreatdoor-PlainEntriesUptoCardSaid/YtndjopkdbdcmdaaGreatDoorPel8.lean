/- Part 8 of the proof of pentries_card. -/
import Derived.Test.YtndjopkdbdcmdaaGreatDoorPel4
import Derived.Test.YtndjopkdbdcmdaaGreatDoorPel5
import Derived.Test.YtndjopkdbdcmdaaGreatDoorPel6
import Derived.Test.YtndjopkdbdcmdaaGreatDoorPel7
import Derived.Lib.ConvBytes
import Derived.Lib.SmallJoins
import Derived.StringKeys
import Derived.Laws.OwnMore
import Derived.RegionDies
import Derived.Deep.RegionLaw
import Derived.IntWalk
import Derived.Laws.BytesString
import Derived.Laws.BytesArg
import Derived.Recover
set_option linter.unusedVariables false
set_option linter.unusedSimpArgs false
set_option maxRecDepth 100000
set_option maxHeartbeats 12800000
open Go.Proofs.Tryz
namespace Go.Proofs.YtndjopkdbdcmdaaGreatDoor
section
open Go.RowKit Go.Shelf
theorem akg(w:World)(s:ByteArray):∃c W,(convert 9 23 (.string s)).run prog w=.ok (.slice (some ⟨w.heap.size,0,none⟩) s.size c) W∧Grow w W∧ba W (some ⟨w.heap.size,0,none⟩) s.data.toList:=by
 have hg:Grow w (Lib.bytesWorld w 5 s):=Go.Joins.below_bytesWorld _ w _ s (av _);refine⟨_,_,Lib.run_convert_string_bytes w _ _ 5 s nZ dP CA,hg,?_,?_⟩
 ·simp[bw]
 intro h0;refine⟨_,_,rfl,fun j u hu=>?_⟩;have hj:j<s.data.toList.length:=by
  have:=(kE.1 hu).1;simpa [bw] using this
 have hj':j<s.size:=by simpa using hj
 rw[uY _ j hj] at hu;injection hu with hu;subst hu;refine⟨?_,by simp,by rw[Lib.bytesWorld_size];simp⟩;rw[show (0:Nat)+j=j by omega,Lib.bytesWorld_cell w _ s j hj',jN,bN hj];rfl
theorem QA(s:ByteArray)(w:World)(hs:s.size≤140737488355328) :
 Calls prog 112 #[.string s] w fun e w'=>e=.returned (.bool (V.name s))∧Grow w w':=by
 obtain⟨iD,eH⟩:∃A,V.name s=A:=⟨_,rfl⟩;rw[eH];have HA:=aa eH;clear eH;go_enter func112,ntmps112;go_wp2_with fail;go_loopg [3] (s.size+1) (fun gk i wr=>w=wr∧∃j:Nat,j≤s.size∧gk+j=s.size+1∧i=.int .i64 j∧(s.data.toList.take j).all mz=true);exact⟨rfl,0,by omega,by omega,rfl,rfl⟩;obtain⟨rfl,j,hj,hg,rfl,hv⟩:=hrel;have HV:=aa hv;clear hv;by_cases hlt:j<s.size
 ·have hlt':j<s.data.toList.length:=by simpa using hlt
  obtain⟨x,hx⟩:∃x,s[j]=x:=⟨_,rfl⟩;have hx':s.data.toList[j]=x:=by rw[← hx];rfl
  have hnb:mz x=false→iD=false:=fun h=>by
   rw[← HA.o,V.name];have:s.data.toList.all (fun c=>decide (32≤c.toNat∧c.toNat≠46))=false:=Cg.2 ⟨x,hx' ▸ aY hlt',by rw[show decide (32≤x.toNat∧x.toNat≠46)=mz x from rfl,h];exact Ce⟩;rw[this];simp
  have HX:=aa hx';have HN:=aa hnb;clear hx' hnb;by_cases h1:x.toNat<32
  ·go_wp2_with fail;go_ret;exact⟨dm (HN.o (by simp[mz];omega)).symm,ah _⟩
  by_cases h2:x.toNat=46
  ·have H9:((x.toNat:Int)==46)=true:=by simp;omega
   go_wp2_with fail;go_ret;exact⟨dm (HN.o (by simp[mz];omega)).symm,ah _⟩
  have H9:((x.toNat:Int)==46)=false:=by simp;omega
  go_wp2_with fail;obtain⟨g',rfl⟩:∃g,gk=g+1:=⟨gk-1,by omega⟩;go_roundg g';exact⟨rfl,j+1,by omega,by omega,by go_num,by rw[Jh hlt',EE,HV.o,HX.o];simp[mz];omega⟩;omega
 obtain rfl:j=s.size:=by omega
 have hall:s.data.toList.all mz=true:=by
  have:=HV.o;rwa [pV (by simp)] at this
 have hA:iD=(decide (1≤s.size∧s.size≤32)&&Lib.validD s.data.toList):=by
  rw[← HA.o,V.name];rw[show s.data.toList.all (fun c=>decide (32≤c.toNat∧c.toNat≠46))=true from hall];simp
 have H2:=aa hA;clear hall hA hlt;by_cases n1:1≤s.size
 ·by_cases n2:s.size≤32
  ·obtain⟨c,W,hrun,hgr,hin⟩:=akg w s;have aO:=aa hgr;have AQ:=aa hin;clear hgr hin;go_wp2_with fail;refine(Ta s.data.toList (some ⟨w.heap.size,0,none⟩) c W AQ.o (by simpa using hs)).mono ?_;rintro e w' ⟨rfl,rfl⟩;go_wp2_with fail;go_ret;exact⟨dm (by rw[H2.o,bT ⟨n1,n2⟩];rfl),aO.o⟩
  go_wp2_with fail;go_ret;exact⟨dm (by rw[H2.o,bY (by omega)];rfl),ah _⟩
 go_wp2_with fail;go_ret;exact⟨dm (by rw[H2.o,bY (by omega)];rfl),ah _⟩
theorem akh(x:Nat)(w:World)(hx:x≤1114111) :
 Calls prog 132 #[.int .i32 x] w fun e w'=>e=.returned (.bool (sy x))∧w=w':=by
 by_cases h1:x<32
 ·go_enter func132,ntmps132;go_wp2_with fail;go_ret;exact⟨dm (by unfold sy;apply EB.2;simp only[iy,true_iff];omega),rfl⟩
 by_cases h2:x=46
 ·have H9:((x:Int)==46)=true:=by simp;omega
  go_enter func132,ntmps132;go_wp2_with fail;go_ret;exact⟨dm (by unfold sy;apply EB.2;simp only[iy,true_iff];omega),rfl⟩
 have H9:((x:Int)==46)=false:=by simp;omega
 go_enter func132,ntmps132;go_wp2_with fail;go_ret;exact⟨dm (by unfold sy;apply EB.2;simp only[iy];omega),rfl⟩
def eo(w:World):Prop:=Lib.Utf8Tabs 0 1 w
theorem eo.grow{w w':World}(h:eo w)(hg:Grow w w'):eo w':=Utf8Tabs_below h hg
theorem Xw(s:ByteArray)(w:World)(hT:eo w) :
 Calls prog 89 #[.string s] w fun e w'=>e=.returned (.bool (V.name s))∧Grow w w':=by
 have hE:s.toList=s.data.toList:=ByteArray.toList_eq s;have hsz:s.data.toList.length=s.size:=rfl;obtain⟨iD,eH⟩:∃A,V.name s=A:=⟨_,rfl⟩;rw[eH];have HA:=aa (eH.symm.trans (show V.name s=(decide (1≤s.size∧s.size≤32)&&s.data.toList.all mz&&Lib.validD s.data.toList) from rfl));have HT:=aa hT;clear eH hT;by_cases h0:s.size=0
 ·have hem:s.toList.isEmpty=true:=by rw[hE];exact List.isEmpty_iff.2 (j4 (by omega))
  clear hE hsz;go_enter func89,ntmps89;go_wp2_with fail;go_ret;exact⟨dm (by rw[HA.o,bY (by omega)];rfl),ah _⟩
 have hem:s.toList.isEmpty=false:=by
  rw[hE]
  cases h:s.data.toList with
  | nil=>rw[h] at hsz;simp at hsz;omega
  | cons x xs=>rfl
 clear hE hsz;by_cases h1:s.size≤32
 ·have cV:Calls prog 130 #[.string s] w _:=Any.utf8_ValidString U3 s w (by omega) HT.o;obtain⟨VD,Tp⟩:∃v,Lib.validD s.data.toList=v:=⟨_,rfl⟩;rw[Tp] at cV;have H1:=aa cV;have H2:=aa Tp;clear cV Tp
  cases VD
  ·go_enter func89,ntmps89;go_wp2_with fail;refine H1.o.mono ?_;rintro e w' ⟨rfl,hg⟩;have HG:=aa hg;clear hg;go_wp2_with fail;go_ret;exact⟨dm (by rw[HA.o,H2.o,Bool.and_false]),HG.o⟩
  go_enter func89,ntmps89;go_wp2_with fail;refine H1.o.mono ?_;rintro e w' ⟨rfl,hg⟩;have HG:=aa hg;clear hg;go_wp2_with fail;have cF:=Any.strings_ContainsFunc_grows ai5 132 #[] (enters_of func132 (by kernel_rfl) rfl) sy s w' (fun W x hx hb=>(akh x W hx).mono fun _ _ h=>⟨h.1,h.2 ▸ j3 _ _⟩);refine(show Calls prog 131 #[.string s,.func (.func 132) #[] #[]] w' _ from cF).mono ?_;rintro e w2 ⟨rfl,hg2⟩;have HG2:=aa hg2;clear hg2 cF;go_wp2_with fail;go_ret;exact⟨dm (by rw[HA.o,H2.o,Bool.and_true,bT (p:=1≤s.size∧s.size≤32) (by omega),sK];exact ahj s H2.o),sP HG.o HG2.o⟩
 go_enter func89,ntmps89;go_wp2_with fail;go_ret;exact⟨dm (by rw[HA.o,bY (by omega)];rfl),ah _⟩
end
section
open Go.RowKit Go.Shelf Go.Maps
theorem aki(k:Int)(n:Nat)(b:List UInt8)(l:List V)(f:List (ByteArray×V))(w:World)(c:Cv)(hk:k<1∨8<k)(hT:eo w)(hv:In w (.mk k n b l f) c) :
 Calls prog 43 #[c.agg] w fun e w'=>e=.returned (.bool false)∧Grow w w':=by
 have HV:=aa hv;have HT:=aa hT;obtain⟨aB,aL,aF,cB,cL,cF,rfl,h1,h2,h3,h4,h5,h6,h7,h8,h9,hb⟩:=hv.open;have HB:=aa hb;clear hb hv hT;rcases hk with hk | hk
 all_goals
  go_enter func43,ntmps43
  go_wp2_with fail
  go_ret
  exact⟨rfl,(ah w).alloc _⟩
theorem akj(n:Nat)(b:List UInt8)(l:List V)(f:List (ByteArray×V))(w:World)(c:Cv)(ho:V.own 1 n b l.length f.length=false)(hT:eo w)(hv:In w (.mk 1 n b l f) c) :
 Calls prog 43 #[c.agg] w fun e w'=>e=.returned (.bool false)∧Grow w w':=by
 have HV:=aa hv;have HT:=aa hT;obtain⟨aB,aL,aF,cB,cL,cF,rfl,h1,h2,h3,h4,h5,h6,h7,h8,h9,hb⟩:=hv.open;have HB:=aa hb;clear hb hv hT;have HO:=aa ho;clear ho;by_cases p0:((n:Int) != 0)=true
 ·go_enter func43,ntmps43;go_wp2_with fail;go_ret;exact⟨rfl,(ah w).alloc _⟩
 have q0:((n:Int) != 0)=false:=by simpa using p0
 by_cases p1:b=[]
 rotate_left
 ·have pS:0<b.length:=eF.2 p1;have pT:(0:Int)<(b.length:Int):=by omega
  go_enter func43,ntmps43;go_wp2_with fail;go_ret;exact⟨rfl,(ah w).alloc _⟩
 subst p1;by_cases p2:l=[]
 rotate_left
 ·have oY:0<l.length:=eF.2 p2;have oZ:(0:Int)<(l.length:Int):=by omega
  go_enter func43,ntmps43;go_wp2_with fail;go_ret;exact⟨rfl,(ah w).alloc _⟩
 subst p2;by_cases p3:f=[]
 rotate_left
 ·have ME:0<f.length:=eF.2 p3;have MF:(0:Int)<(f.length:Int):=by omega
  go_enter func43,ntmps43;go_wp2_with fail;go_ret;exact⟨rfl,(ah w).alloc _⟩
 subst p3;exfalso;have ho:=HO.o;simp only[V.own,lj,ll,jO] at ho
 try simp at ho
 all_goals (first | omega | simp_all)
theorem akk(n:Nat)(b:List UInt8)(l:List V)(f:List (ByteArray×V))(w:World)(c:Cv)(ho:V.own 2 n b l.length f.length=false)(hT:eo w)(hv:In w (.mk 2 n b l f) c) :
 Calls prog 43 #[c.agg] w fun e w'=>e=.returned (.bool false)∧Grow w w':=by
 have HV:=aa hv;have HT:=aa hT;obtain⟨aB,aL,aF,cB,cL,cF,rfl,h1,h2,h3,h4,h5,h6,h7,h8,h9,hb⟩:=hv.open;have HB:=aa hb;clear hb hv hT;have HO:=aa ho;clear ho;by_cases p0:(1:Int)<(n:Int)
 ·go_enter func43,ntmps43;go_wp2_with fail;go_ret;exact⟨rfl,(ah w).alloc _⟩
 have q0:¬ ((1:Int)<(n:Int)):=p0;by_cases p1:b=[]
 rotate_left
 ·have pS:0<b.length:=eF.2 p1;have pT:(0:Int)<(b.length:Int):=by omega
  go_enter func43,ntmps43;go_wp2_with fail;go_ret;exact⟨rfl,(ah w).alloc _⟩
 subst p1;by_cases p2:l=[]
 rotate_left
 ·have oY:0<l.length:=eF.2 p2;have oZ:(0:Int)<(l.length:Int):=by omega
  go_enter func43,ntmps43;go_wp2_with fail;go_ret;exact⟨rfl,(ah w).alloc _⟩
 subst p2;by_cases p3:f=[]
 rotate_left
 ·have ME:0<f.length:=eF.2 p3;have MF:(0:Int)<(f.length:Int):=by omega
  go_enter func43,ntmps43;go_wp2_with fail;go_ret;exact⟨rfl,(ah w).alloc _⟩
 subst p3;exfalso;have ho:=HO.o;simp only[V.own,lj,ll,jO] at ho
 try simp at ho
 all_goals (first | omega | simp_all)
theorem akl(n:Nat)(b:List UInt8)(l:List V)(f:List (ByteArray×V))(w:World)(c:Cv)(ho:V.own 3 n b l.length f.length=false)(hT:eo w)(hv:In w (.mk 3 n b l f) c) :
 Calls prog 43 #[c.agg] w fun e w'=>e=.returned (.bool false)∧Grow w w':=by
 have HV:=aa hv;have HT:=aa hT;obtain⟨aB,aL,aF,cB,cL,cF,rfl,h1,h2,h3,h4,h5,h6,h7,h8,h9,hb⟩:=hv.open;have HB:=aa hb;clear hb hv hT;have HO:=aa ho;clear ho;by_cases p0:b=[]
 rotate_left
 ·have Tq:0<b.length:=eF.2 p0;have Tt:(0:Int)<(b.length:Int):=by omega
  go_enter func43,ntmps43;go_wp2_with fail;go_ret;exact⟨rfl,(ah w).alloc _⟩
 subst p0;by_cases p1:l=[]
 rotate_left
 ·have pS:0<l.length:=eF.2 p1;have pT:(0:Int)<(l.length:Int):=by omega
  go_enter func43,ntmps43;go_wp2_with fail;go_ret;exact⟨rfl,(ah w).alloc _⟩
 subst p1;by_cases p2:f=[]
 rotate_left
 ·have oY:0<f.length:=eF.2 p2;have oZ:(0:Int)<(f.length:Int):=by omega
  go_enter func43,ntmps43;go_wp2_with fail;go_ret;exact⟨rfl,(ah w).alloc _⟩
 subst p2;exfalso;have ho:=HO.o;simp only[V.own,lj,ll,jO] at ho
 try simp at ho
 all_goals (first | omega | simp_all)
theorem akm(n:Nat)(b:List UInt8)(l:List V)(f:List (ByteArray×V))(w:World)(c:Cv)(ho:V.own 4 n b l.length f.length=false)(hT:eo w)(hv:In w (.mk 4 n b l f) c) :
 Calls prog 43 #[c.agg] w fun e w'=>e=.returned (.bool false)∧Grow w w':=by
 have HV:=aa hv;have HT:=aa hT;obtain⟨aB,aL,aF,cB,cL,cF,rfl,h1,h2,h3,h4,h5,h6,h7,h8,h9,hb⟩:=hv.open;have HB:=aa hb;clear hb hv hT;have HO:=aa ho;clear ho;by_cases p0:b=[]
 rotate_left
 ·have Tq:0<b.length:=eF.2 p0;have Tt:(0:Int)<(b.length:Int):=by omega
  go_enter func43,ntmps43;go_wp2_with fail;go_ret;exact⟨rfl,(ah w).alloc _⟩
 subst p0;by_cases p1:l=[]
 rotate_left
 ·have pS:0<l.length:=eF.2 p1;have pT:(0:Int)<(l.length:Int):=by omega
  go_enter func43,ntmps43;go_wp2_with fail;go_ret;exact⟨rfl,(ah w).alloc _⟩
 subst p1;by_cases p2:f=[]
 rotate_left
 ·have oY:0<f.length:=eF.2 p2;have oZ:(0:Int)<(f.length:Int):=by omega
  go_enter func43,ntmps43;go_wp2_with fail;go_ret;exact⟨rfl,(ah w).alloc _⟩
 subst p2;exfalso;have ho:=HO.o;simp only[V.own,lj,ll,jO] at ho
 try simp at ho
 all_goals (first | omega | simp_all)
theorem akn(n:Nat)(b:List UInt8)(l:List V)(f:List (ByteArray×V))(w:World)(c:Cv)(ho:V.own 5 n b l.length f.length=false)(hT:eo w)(hv:In w (.mk 5 n b l f) c) :
 Calls prog 43 #[c.agg] w fun e w'=>e=.returned (.bool false)∧Grow w w':=by
 have HV:=aa hv;have HT:=aa hT;obtain⟨aB,aL,aF,cB,cL,cF,rfl,h1,h2,h3,h4,h5,h6,h7,h8,h9,hb⟩:=hv.open;have HB:=aa hb;clear hb hv hT;have HO:=aa ho;clear ho;by_cases p0:((n:Int) != 0)=true
 ·go_enter func43,ntmps43;go_wp2_with fail;go_ret;exact⟨rfl,(ah w).alloc _⟩
 have q0:((n:Int) != 0)=false:=by simpa using p0
 by_cases p1:Lib.validD b=false
 ·have P:=aa p1;clear p1;go_enter func43,ntmps43;go_wp2_with fail;refine(Mo b aB cB _ (HB.o.grow ((ah w).alloc _)) (by omega) (by omega) (HT.o.grow ((ah w).alloc _))).mono ?_;rintro e w' ⟨rfl,hg⟩;rw[P.o];have HG:=aa hg;clear hg;go_wp2_with fail;go_ret;exact⟨rfl,((ah w).alloc _).trans HG.o⟩
 have P:=aa p1;clear p1;by_cases p2:l=[]
 rotate_left
 ·have oY:0<l.length:=eF.2 p2;have oZ:(0:Int)<(l.length:Int):=by omega
  go_enter func43,ntmps43;go_wp2_with fail;refine(Mo b aB cB _ (HB.o.grow ((ah w).alloc _)) (by omega) (by omega) (HT.o.grow ((ah w).alloc _))).mono ?_;rintro e w' ⟨rfl,hg⟩;rw[eq_true_of_ne_false P.o];have hB:Blk w' w.heap.size 27 _:=(aH _ _ _).grow hg;have hc:=hB.cell;have HG:=aa hg;clear hg hB;go_wp2_with fail;go_ret;exact⟨rfl,((ah w).alloc _).trans HG.o⟩
 subst p2;by_cases p3:f=[]
 rotate_left
 ·have ME:0<f.length:=eF.2 p3;have MF:(0:Int)<(f.length:Int):=by omega
  go_enter func43,ntmps43;go_wp2_with fail;refine(Mo b aB cB _ (HB.o.grow ((ah w).alloc _)) (by omega) (by omega) (HT.o.grow ((ah w).alloc _))).mono ?_;rintro e w' ⟨rfl,hg⟩;rw[eq_true_of_ne_false P.o];have hB:Blk w' w.heap.size 27 _:=(aH _ _ _).grow hg;have hc:=hB.cell;have HG:=aa hg;clear hg hB;go_wp2_with fail;go_ret;exact⟨rfl,((ah w).alloc _).trans HG.o⟩
 subst p3;exfalso;have ho:=HO.o;simp only[V.own,lj,ll,jO] at ho;have P2:=P.o
 try simp at ho
 all_goals (first | omega | simp_all)
theorem ako(n:Nat)(b:List UInt8)(l:List V)(f:List (ByteArray×V))(w:World)(c:Cv)(ho:V.own 6 n b l.length f.length=false)(hT:eo w)(hv:In w (.mk 6 n b l f) c) :
 Calls prog 43 #[c.agg] w fun e w'=>e=.returned (.bool false)∧Grow w w':=by
 have HV:=aa hv;have HT:=aa hT;obtain⟨aB,aL,aF,cB,cL,cF,rfl,h1,h2,h3,h4,h5,h6,h7,h8,h9,hb⟩:=hv.open;have HB:=aa hb;clear hb hv hT;have HO:=aa ho;clear ho;by_cases p0:((n:Int) != 0)=true
 ·go_enter func43,ntmps43;go_wp2_with fail;go_ret;exact⟨rfl,(ah w).alloc _⟩
 have q0:((n:Int) != 0)=false:=by simpa using p0
 by_cases p1:l=[]
 rotate_left
 ·have pS:0<l.length:=eF.2 p1;have pT:(0:Int)<(l.length:Int):=by omega
  go_enter func43,ntmps43;go_wp2_with fail;go_ret;exact⟨rfl,(ah w).alloc _⟩
 subst p1;by_cases p2:f=[]
 rotate_left
 ·have oY:0<f.length:=eF.2 p2;have oZ:(0:Int)<(f.length:Int):=by omega
  go_enter func43,ntmps43;go_wp2_with fail;go_ret;exact⟨rfl,(ah w).alloc _⟩
 subst p2;exfalso;have ho:=HO.o;simp only[V.own,lj,ll,jO] at ho
 try simp at ho
 all_goals (first | omega | simp_all)
theorem akp(n:Nat)(b:List UInt8)(l:List V)(f:List (ByteArray×V))(w:World)(c:Cv)(ho:V.own 7 n b l.length f.length=false)(hT:eo w)(hv:In w (.mk 7 n b l f) c) :
 Calls prog 43 #[c.agg] w fun e w'=>e=.returned (.bool false)∧Grow w w':=by
 have HV:=aa hv;have HT:=aa hT;obtain⟨aB,aL,aF,cB,cL,cF,rfl,h1,h2,h3,h4,h5,h6,h7,h8,h9,hb⟩:=hv.open;have HB:=aa hb;clear hb hv hT;have HO:=aa ho;clear ho;by_cases p0:((n:Int) != 0)=true
 ·go_enter func43,ntmps43;go_wp2_with fail;go_ret;exact⟨rfl,(ah w).alloc _⟩
 have q0:((n:Int) != 0)=false:=by simpa using p0
 by_cases p1:b=[]
 rotate_left
 ·have pS:0<b.length:=eF.2 p1;have pT:(0:Int)<(b.length:Int):=by omega
  go_enter func43,ntmps43;go_wp2_with fail;go_ret;exact⟨rfl,(ah w).alloc _⟩
 subst p1;by_cases p2:f=[]
 rotate_left
 ·have oY:0<f.length:=eF.2 p2;have oZ:(0:Int)<(f.length:Int):=by omega
  go_enter func43,ntmps43;go_wp2_with fail;go_ret;exact⟨rfl,(ah w).alloc _⟩
 subst p2;exfalso;have ho:=HO.o;simp only[V.own,lj,ll,jO] at ho
 try simp at ho
 all_goals (first | omega | simp_all)
theorem akq(n:Nat)(b:List UInt8)(l:List V)(f:List (ByteArray×V))(w:World)(c:Cv)(ho:V.own 8 n b l.length f.length=false)(hT:eo w)(hv:In w (.mk 8 n b l f) c) :
 Calls prog 43 #[c.agg] w fun e w'=>e=.returned (.bool false)∧Grow w w':=by
 have HV:=aa hv;have HT:=aa hT;obtain⟨aB,aL,aF,cB,cL,cF,rfl,h1,h2,h3,h4,h5,h6,h7,h8,h9,hb⟩:=hv.open;have HB:=aa hb;clear hb hv hT;have HO:=aa ho;clear ho;by_cases p0:((n:Int) != 0)=true
 ·go_enter func43,ntmps43;go_wp2_with fail;go_ret;exact⟨rfl,(ah w).alloc _⟩
 have q0:((n:Int) != 0)=false:=by simpa using p0
 by_cases p1:b=[]
 rotate_left
 ·have pS:0<b.length:=eF.2 p1;have pT:(0:Int)<(b.length:Int):=by omega
  go_enter func43,ntmps43;go_wp2_with fail;go_ret;exact⟨rfl,(ah w).alloc _⟩
 subst p1;by_cases p2:l=[]
 rotate_left
 ·have oY:0<l.length:=eF.2 p2;have oZ:(0:Int)<(l.length:Int):=by omega
  go_enter func43,ntmps43;go_wp2_with fail;go_ret;exact⟨rfl,(ah w).alloc _⟩
 subst p2;exfalso;have ho:=HO.o;simp only[V.own,lj,ll,jO] at ho
 try simp at ho
 all_goals (first | omega | simp_all)
theorem akr(k:Int)(n:Nat)(b:List UInt8)(l:List V)(f:List (ByteArray×V))(w:World)(c:Cv)(ho:V.own k n b l.length f.length=false)(hT:eo w)(hv:In w (.mk k n b l f) c) :
 Calls prog 43 #[c.agg] w fun e w'=>e=.returned (.bool false)∧Grow w w':=by
 by_cases hk:k<1∨8<k
 ·exact aki k n b l f w c hk hT hv
 have:k=1∨k=2∨k=3∨k=4∨k=5∨k=6∨k=7∨k=8:=by omega
 rcases this with rfl | rfl | rfl | rfl | rfl | rfl | rfl | rfl
 ·exact akj n b l f w c ho hT hv
 ·exact akk n b l f w c ho hT hv
 ·exact akl n b l f w c ho hT hv
 ·exact akm n b l f w c ho hT hv
 ·exact akn n b l f w c ho hT hv
 ·exact ako n b l f w c ho hT hv
 ·exact akp n b l f w c ho hT hv
 exact akq n b l f w c ho hT hv
end
section
open Go.RowKit Go.Shelf Go.Maps Go.WideMaps
theorem aaZ:prog.underlying 137=some (.map 9 138):=by kernel_rfl
theorem aa0{w:World}{b n:Nat}{D:DataW Unit}(h:w.ownsMap prog 9 unitElem b n D):(Builtin.len_ #[137] 3 #[.map (some b)]).run prog w=.ok (.int .i64 (Maps.size D)) w:=h.len aaZ _
theorem aa1(w:World):(w.alloc (.map #[] 0)).ownsMap prog 9 unitElem w.heap.size 0 (NS []):=World.ownsMap_made _ _ _ _
theorem aks(w:World)(o:Obj):((w.alloc o).alloc (.map #[] 0)).ownsMap prog 9 unitElem (w.heap.size+1) 0 (NS []):=by
 have h:=aa1 (w.alloc o);have e:(w.alloc o).heap.size=w.heap.size+1:=by simp
 rw[e] at h;exact h
theorem aa2{w w':World}{b n:Nat}{D:DataW Unit}(h:w.ownsMap prog 9 unitElem b n D)(hg:Grow w w'):w'.ownsMap prog 9 unitElem b n D:=by
 obtain⟨es,clock,hb,r⟩:=h;have hlt:b<w.heap.size:=by
  rcases dH b w.heap.size with hlt | hge
  ·exact hlt
  exact absurd ((uL hge).symm.trans hb) (by simp)
 exact⟨es,clock,(Below.block hg b hlt).trans hb,r⟩
theorem Blk.grownBy{w w':World}{g r:Nat}{t:TypeId}{cs:Array Value}(h:Blk w g t cs)(hg:w.grownBy w' (some r))(hne:g≠r):Blk w' g t cs:=by
 unfold Blk at h ⊢;rw[hg.block g (Blk.lt h) (fun e=>hne (pd e))];exact h
theorem Tu(w:World):(Builtin.len_ #[137] 3 #[.map (some w.heap.size)]).run prog (w.alloc (.map #[] 0))=.ok (.int .i64 0) (w.alloc (.map #[] 0)):=aa0 (aa1 w)
theorem I5(w:World)(o:Obj):(Builtin.len_ #[137] 3 #[.map (some (w.heap.size+1))]).run prog ((w.alloc o).alloc (.map #[] 0))=.ok (.int .i64 0) ((w.alloc o).alloc (.map #[] 0)):=by
 have h:=Tu (w.alloc o);have e:(w.alloc o).heap.size=w.heap.size+1:=by simp
 rw[e] at h;exact h
theorem akt(w:World)(c:Cv)(hv:In w (.mk 1 0 [] [] []) c) :
 Calls prog 43 #[c.agg] w fun e w'=>e=.returned (.bool true)∧Grow w w':=by
 obtain⟨aB,aL,aF,cB,cL,cF,rfl,h1,h2,h3,h4,h5,h6,h7,h8,h9,hb⟩:=hv.open;clear hb hv;have hmm:=@run_makeMap prog;have ig:=I5 w;go_enter func43,ntmps43;go_wp2_with fail;refine fQ ?_;go_wp2_with fail;refine fQ ?_;go_wp2_with fail;go_ret;exact⟨rfl,((ah w).alloc _).alloc _⟩
theorem aku(n:Nat)(hn:n≤1)(w:World)(c:Cv)(hv:In w (.mk 2 n [] [] []) c) :
 Calls prog 43 #[c.agg] w fun e w'=>e=.returned (.bool true)∧Grow w w':=by
 obtain⟨aB,aL,aF,cB,cL,cF,rfl,h1,h2,h3,h4,h5,h6,h7,h8,h9,hb⟩:=hv.open;clear hb hv;have hmm:=@run_makeMap prog;have ig:=I5 w;go_enter func43,ntmps43;go_wp2_with fail;refine fQ ?_;go_wp2_with fail;refine fQ ?_;go_wp2_with fail;go_ret;exact⟨rfl,((ah w).alloc _).alloc _⟩
theorem akv(n:Nat)(w:World)(c:Cv)(hv:In w (.mk 3 n [] [] []) c) :
 Calls prog 43 #[c.agg] w fun e w'=>e=.returned (.bool true)∧Grow w w':=by
 obtain⟨aB,aL,aF,cB,cL,cF,rfl,h1,h2,h3,h4,h5,h6,h7,h8,h9,hb⟩:=hv.open;clear hb hv;have hmm:=@run_makeMap prog;have ig:=I5 w;go_enter func43,ntmps43;go_wp2_with fail;refine fQ ?_;go_wp2_with fail;refine fQ ?_;go_wp2_with fail;go_ret;exact⟨rfl,((ah w).alloc _).alloc _⟩
theorem akw(n:Nat)(w:World)(c:Cv)(hv:In w (.mk 4 n [] [] []) c) :
 Calls prog 43 #[c.agg] w fun e w'=>e=.returned (.bool true)∧Grow w w':=by
 obtain⟨aB,aL,aF,cB,cL,cF,rfl,h1,h2,h3,h4,h5,h6,h7,h8,h9,hb⟩:=hv.open;clear hb hv;have hmm:=@run_makeMap prog;have ig:=I5 w;go_enter func43,ntmps43;go_wp2_with fail;refine fQ ?_;go_wp2_with fail;refine fQ ?_;go_wp2_with fail;go_ret;exact⟨rfl,((ah w).alloc _).alloc _⟩
theorem akx(b:List UInt8)(w:World)(c:Cv)(hv:In w (.mk 6 0 b [] []) c) :
 Calls prog 43 #[c.agg] w fun e w'=>e=.returned (.bool true)∧Grow w w':=by
 obtain⟨aB,aL,aF,cB,cL,cF,rfl,h1,h2,h3,h4,h5,h6,h7,h8,h9,hb⟩:=hv.open;clear hb hv;have hmm:=@run_makeMap prog;have ig:=I5 w;go_enter func43,ntmps43;go_wp2_with fail;refine fQ ?_;go_wp2_with fail;refine fQ ?_;go_wp2_with fail;go_ret;exact⟨rfl,((ah w).alloc _).alloc _⟩
theorem aky(b:List UInt8)(hu:Lib.validD b=true)(w:World)(c:Cv)(hT:eo w)(hv:In w (.mk 5 0 b [] []) c) :
 Calls prog 43 #[c.agg] w fun e w'=>e=.returned (.bool true)∧Grow w w':=by
 have HT:=aa hT;have HU:=aa hu;obtain⟨aB,aL,aF,cB,cL,cF,rfl,h1,h2,h3,h4,h5,h6,h7,h8,h9,hb⟩:=hv.open;have HB:=aa hb;clear hb hv hT hu;have hmm:=@run_makeMap prog;have ig:=Tu;go_enter func43,ntmps43;go_wp2_with fail;refine(Mo b aB cB _ (HB.o.grow ((ah w).alloc _)) (by omega) (by omega) (HT.o.grow ((ah w).alloc _))).mono ?_;rintro e w' ⟨rfl,hg⟩;rw[HU.o];have hB:Blk w' w.heap.size 27 _:=(aH _ _ _).grow hg;have hc:=hB.cell;have hBl:=hB.lt;have HG:=aa hg;clear hg hB;go_wp2_with fail;refine fQ ?_;go_wp2_with fail;refine fQ ?_;go_wp2_with fail;go_ret;exact⟨rfl,(((ah w).alloc _).trans HG.o).alloc _⟩
theorem akz(l:List V)(hl:∀x∈l,∀(w:World) (c:Cv),eo w→In w x c→Calls prog 43 #[c.agg] w fun e w'=>e=.returned (.bool x.formed)∧Grow w w')
 (w:World) (c:Cv) (hT:eo w) (hv:In w (.mk 7 0 [] l []) c) :
 Calls prog 43 #[c.agg] w fun e w'=>e=.returned (.bool (l.all V.formed))∧Grow w w':=by
 have HV:=aa hv;have HT:=aa hT;have Hl:=aa hl;obtain⟨iD,eH⟩:∃A,l.all V.formed=A:=⟨_,rfl⟩;rw[eH];have HA:=aa eH;obtain⟨aB,aL,aF,cB,cL,cF,rfl,h1,h2,h3,h4,h5,h6,h7,h8,h9,hb⟩:=hv.open;clear hb h1 h2 h3 h4 h5 hv hT hl eH;have hmm:=@run_makeMap prog;have ig:=Tu;go_enter func43,ntmps43;go_wp2_with fail;go_loopg [95] (l.length+1) (fun gk i wr=>∃j:Nat,j≤l.length∧gk+j=l.length+1∧i=.int .i64 j∧(l.take j).all V.formed=true ∧
  Grow w wr∧In wr (.mk 7 0 [] l []) ⟨7,0,aB,0,cB,aL,l.length,cL,aF,0,cF⟩∧Blk wr w.heap.size 27 (Cv.cells ⟨7,0,aB,0,cB,aL,l.length,cL,aF,0,cF⟩))
 exact⟨0,by omega,by omega,rfl,rfl,(ah w).alloc _,py HV.o ((ah w).alloc _),aH _ _ _⟩;obtain⟨j,hj,hg,rfl,ht,hw,hv,hB⟩:=hrel;obtain⟨gk',rfl⟩:=bP gk (by omega);have pC:=aa ht;by_cases hlt:j<l.length
 ·obtain⟨bk,o,x,ha,hbk,e0,e1,e2,e3,e4,hx⟩:=hv.fJ j hlt;dsimp only at ha;subst ha;have HW:=aa hw;have HX:=aa hx;have oU:=aa hv;have HB:=aa hB;clear hw hx hv hB ht;go_wp2_with fail;refine(Hl.o _ (aY hlt) _ x (HT.o.grow (HW.o.alloc _)) (HX.o.grow ((ah wr).alloc _))).mono ?_;rintro e w' ⟨rfl,hb'⟩;have hgr:Hid (Grow wr w'):=((ah wr).alloc _).trans hb';clear hb' e0 e1 e2 e3 e4;obtain⟨R,hR⟩:∃R,l[j].formed=R:=⟨_,rfl⟩;rw[hR];have HR:=aa hR;clear hR
  cases R
  ·go_wp2_with fail;go_ret;refine⟨dm ?_,HW.o.trans hgr.o⟩;rw[← HA.o];exact(Cg.2 ⟨l[j],aY hlt,by rw[HR.o];exact Ce⟩).symm
  go_wp2_with fail;go_roundg gk';exact⟨j+1,by omega,by omega,by go_num,by rw[px l j hlt,EE,pC.o];simp[HR.o],HW.o.trans hgr.o,oU.o.grow hgr.o,HB.o.grow hgr.o⟩;omega
 obtain rfl:j=l.length:=by omega
 have hc:=hB.cell;have hBl:=hB.lt;have HW:=aa hw;have hA:iD=true:=by rw[← HA.o];rw[fC] at ht;exact ht
 subst hA;clear hw hv hB hlt hg ht;go_wp2_with fail;refine fQ ?_;go_wp2_with fail;go_ret;exact⟨rfl,HW.o.alloc _⟩
theorem akA(f:List (ByteArray×V))(hf:∀x∈f,∀(w:World) (c:Cv),eo w→In w x.2 c→Calls prog 43 #[c.agg] w fun e w'=>e=.returned (.bool x.2.formed)∧Grow w w')
 (w:World) (c:Cv) (hT:eo w) (hv:In w (.mk 8 0 [] [] f) c) :
 Calls prog 43 #[c.agg] w fun e w'=>e=.returned (.bool ((f.all fun x=>V.name x.1&&x.2.formed)&&decide ((f.map Prod.fst).Nodup)))∧Grow w w':=by
 have HV:=aa hv;have HT:=aa hT;have Hf:=aa hf;obtain⟨iD,eH⟩:∃A,((f.all fun x=>V.name x.1&&x.2.formed)&&decide ((f.map Prod.fst).Nodup))=A:=⟨_,rfl⟩;rw[eH];have HA:=aa eH;obtain⟨aB,aL,aF,cB,cL,cF,rfl,h1,h2,h3,h4,h5,h6,h7,h8,h9,hb⟩:=hv.open;clear hb h1 h2 h3 h4 h5 hv hT hf eH;have hmm:=@run_makeMap prog;have law:Keyed prog 9:=string_keyed nZ;go_enter func43,ntmps43;go_wp2_with fail;refine fQ ?_;go_wp2_with fail;go_loopg [107] (f.length+1) (fun gk i wr=>∃j:Nat,j≤f.length∧gk+j=f.length+1∧i=.int .i64 j∧(f.take j).all (fun x=>V.name x.1&&x.2.formed)=true ∧
  wr.ownsMap prog 9 unitElem (w.heap.size+1) j (NS ((f.map Prod.fst).take j)) ∧
  Grow w wr∧In wr (.mk 8 0 [] [] f) ⟨8,0,aB,0,cB,aL,0,cL,aF,f.length,cF⟩∧Blk wr w.heap.size 27 (Cv.cells ⟨8,0,aB,0,cB,aL,0,cL,aF,f.length,cF⟩))
 exact⟨0,by omega,by omega,rfl,rfl,aks w _,((ah w).alloc _).alloc _,py HV.o (((ah w).alloc _).alloc _),(aH _ _ _).alloc _⟩;obtain⟨j,hj,hg,rfl,ht,hown,hw,hv,hB⟩:=hrel;obtain⟨gk',rfl⟩:=bP gk (by omega);have pC:=aa ht;have HO:=aa hown;by_cases hlt:j<f.length
 ·obtain⟨bk,o,x,ha,hbk,es,iA,e0,e1,e2,e3,e4,hx⟩:=HV.o.iR j hlt;dsimp only at ha;subst ha;have es:=(hw.below.cell (p:=⟨bk,o+j*6,none⟩) hbk).trans es;have e0:=(hw.below.cell (p:=⟨bk,o+j*6+1,none⟩) hbk).trans e0;have e1:=(hw.below.cell (p:=⟨bk,o+j*6+1+1,none⟩) hbk).trans e1;have e2:=(hw.below.cell (p:=⟨bk,o+j*6+1+2,none⟩) hbk).trans e2;have e3:=(hw.below.cell (p:=⟨bk,o+j*6+1+3,none⟩) hbk).trans e3;have e4:=(hw.below.cell (p:=⟨bk,o+j*6+1+4,none⟩) hbk).trans e4;have vd:bk<wr.heap.size:=cU hbk hw.size;have akB:=hB.lt;have amP:w.heap.size+1<wr.heap.size:=by
   obtain⟨es,clock,hb,r⟩:=hown;rcases dH (w.heap.size+1) wr.heap.size with hlt | hge
   ·exact hlt
   rw[uL hge] at hb;cases hb
  have hc:=hB.cell;have HW:=aa hw;have HX:=aa hx;have HB:=aa hB;clear hw hx hv hB ht hown;have hkey:keyOf prog 9 (.string f[j].1)=some (qL f[j].1):=keyOf_string_mk nZ (by simp only[maxLen];omega);obtain⟨nm,MG⟩:∃nm,f[j].1=nm:=⟨_,rfl⟩;rw[MG] at es iA hkey;go_wp2_with (first | (at_mapUpdate;refine wpList_mapUpdate_own _ rfl _ _ _ 137 rfl 9 138 law aaZ (unitElem (H:=Unit)) (w.heap.size+1) j _ rfl (HO.o.alloc _) (by unfold maxLen;omega) _ _ _ rfl rfl hkey _ [] unitElem_mk ?_;intro w1 hown1 hgrow1;have hF:=Blk.grownBy (aH wr _ _) hgrow1 (by omega);have hFc:=hF.cell;have HF:=aa hF;have HO1:=aa hown1;have aN:=aa ((HW.o.alloc _).grown hgrow1 (fun k hk=>by cases hk;exact fg _));have aQ:=aa (Blk.grownBy (HB.o.alloc _) hgrow1 (by omega));clear hF hown1 hgrow1))
  refine(Xw nm w1 (HT.o.grow aN.o)).mono ?_;rintro e w2 ⟨rfl,hg2⟩;obtain⟨R,hR⟩:∃R,V.name nm=R:=⟨_,rfl⟩;rw[hR];have HR:=aa hR;have hF2:=HF.o.grow hg2;have hFc:=hF2.cell;have HF2:=aa hF2;have HG2:=aa hg2;clear hR hg2 hF2
  cases R
  ·go_wp2_with fail;go_ret;refine⟨dm ?_,aN.o.trans HG2.o⟩;rw[← HA.o,Cg.2 ⟨f[j],aY hlt,by rw[MG,HR.o];exact Ce⟩];rfl
  go_wp2_with fail;refine(Hf.o _ (aY hlt) _ x (HT.o.grow (aN.o.trans HG2.o)) (HX.o.grow (aN.o.trans HG2.o))).mono ?_;rintro e w3 ⟨rfl,hg3⟩;obtain⟨R,hR⟩:∃R,f[j].2.formed=R:=⟨_,rfl⟩;rw[hR];have pB:=aa hR;have aJ:=aa hg3;clear hR hg3
  cases R
  ·go_wp2_with fail;go_ret;refine⟨dm ?_,(aN.o.trans HG2.o).trans aJ.o⟩;rw[← HA.o,Cg.2 ⟨f[j],aY hlt,by rw[pB.o,Bool.and_false];exact Ce⟩];rfl
  go_wp2_with fail;go_roundg gk';refine⟨j+1,by omega,by omega,by go_num,by rw[px f j hlt,EE,pC.o];simp[MG,HR.o,pB.o],?_,(aN.o.trans HG2.o).trans aJ.o,HV.o.grow ((aN.o.trans HG2.o).trans aJ.o),(aQ.o.grow HG2.o).grow aJ.o⟩;have h1:=aa2 (aa2 HO1.o HG2.o) aJ.o;rw[px (f.map Prod.fst) j (by rw[cY];exact hlt),Q6,jb,MG];exact h1;omega
 obtain rfl:j=f.length:=by omega
 have hc:=hB.cell;have akB:=hB.lt;have HW:=aa hw;rw[show (f.map Prod.fst).take f.length=f.map Prod.fst from pV (by simp)] at HO;rw[fC] at pC;obtain⟨SZ,IJ⟩:∃s,Maps.size (NS (f.map Prod.fst))=s:=⟨_,rfl⟩;have ig:=aa0 HO.o;rw[IJ] at ig;have HS:=aa IJ;obtain⟨nf,MH⟩:∃nf,nf=f.length:=⟨_,rfl⟩;have HN:=aa MH;rw[← MH];rw[← MH] at hc;clear hw hv hB hlt hg ht hown IJ MH;by_cases hq:SZ=nf
 ·have hq1:((SZ:Int)==(nf:Int))=true:=by simp[hq]
  go_wp2_with fail;go_ret;refine⟨dm ?_,HW.o⟩;have hval:iD=((SZ:Int)==(nf:Int)):=by rw[← HA.o,pC.o,sK,← Zb,HS.o,cY,HN.o]
  rw[hval,hq1]
 have hq1:((SZ:Int)==(nf:Int))=false:=by simp;omega
 go_wp2_with fail;go_ret;refine⟨dm ?_,HW.o⟩;have hval:iD=((SZ:Int)==(nf:Int)):=by rw[← HA.o,pC.o,sK,← Zb,HS.o,cY,HN.o]
 rw[hval,hq1]
theorem akC(v:V):∀(w:World) (c:Cv),eo w→In w v c →
 Calls prog 43 #[c.agg] w fun e w'=>e=.returned (.bool v.formed)∧Grow w w':=by
 induction v using V.ind with
 | h k n b l f hl hf =>
  intro w c hT hv
  cases ho:V.own k n b l.length f.length
  ·have:(V.mk k n b l f).formed=false:=by rw[rh,ho];rfl
   rw[this];exact akr k n b l f w c ho hT hv
  have ho':=ho;simp only[V.own,gV,Jk,iy] at ho';obtain⟨⟨⟨⟨⟨⟨o1,o2⟩,o3⟩,o4⟩,o5⟩,o6⟩,o7⟩:=ho';have hL:k≠7→l=[]:=fun hk=>j4 (by omega)
  have hF:k≠8→f=[]:=fun hk=>j4 (by omega)
  have hB:k≠5→k≠6→b=[]:=fun h1 h2=>j4 (by omega)
  have hN:k≠2→k≠3→k≠4→n=0:=fun h1 h2 h3=>by omega
  have hk:k=1∨k=2∨k=3∨k=4∨k=5∨k=6∨k=7∨k=8:=by omega
  rw[rh,ho];clear ho o1 o2 o4 o6 o7;rcases hk with rfl | rfl | rfl | rfl | rfl | rfl | rfl | rfl
  ·obtain rfl:=hL (by decide);obtain rfl:=hF (by decide);obtain rfl:=hB (by decide) (by decide);obtain rfl:=hN (by decide) (by decide) (by decide);exact akt w c hv
  ·obtain rfl:=hL (by decide);obtain rfl:=hF (by decide);obtain rfl:=hB (by decide) (by decide);exact aku n (o3 rfl) w c hv
  ·obtain rfl:=hL (by decide);obtain rfl:=hF (by decide);obtain rfl:=hB (by decide) (by decide);exact akv n w c hv
  ·obtain rfl:=hL (by decide);obtain rfl:=hF (by decide);obtain rfl:=hB (by decide) (by decide);exact akw n w c hv
  ·obtain rfl:=hL (by decide);obtain rfl:=hF (by decide);obtain rfl:=hN (by decide) (by decide) (by decide);exact aky b (o5.resolve_left (fun h=>h rfl)) w c hT hv
  ·obtain rfl:=hL (by decide);obtain rfl:=hF (by decide);obtain rfl:=hN (by decide) (by decide) (by decide);exact akx b w c hv
  ·obtain rfl:=hF (by decide);obtain rfl:=hB (by decide) (by decide);obtain rfl:=hN (by decide) (by decide) (by decide);refine(akz l hl w c hT hv).mono ?_;rintro e w' ⟨rfl,hg⟩;exact⟨by simp,hg⟩
  obtain rfl:=hL (by decide);obtain rfl:=hB (by decide) (by decide);obtain rfl:=hN (by decide) (by decide) (by decide);refine(akA f hf w c hT hv).mono ?_;rintro e w' ⟨rfl,hg⟩;exact⟨by simp,hg⟩
end
section
open Go.RowKit Go.Shelf
theorem aa3{α:Type}(l:List α)(p q:α→Nat)(m:Nat)(h:∀x∈l,p x≤q x*m):(l.map p).sum≤(l.map q).sum*m:=by
 induction l with
 | nil=>simp
 | cons x xs ih =>
  have h1:=h x (by simp);have h2:=ih (fun y hy=>h y (by simp[hy]));simp only[eW,pc,jM];omega
theorem aa4{α:Type}(l:List α)(p q:α→Nat)(a:Nat)(h:∀x∈l,p x≤q x):(l.map p).foldl max a≤a+(l.map q).sum:=by
 induction l generalizing a with
 | nil=>simp
 | cons x xs ih =>
  have h1:=h x (by simp);have h2:=ih (max a (p x)) (fun y hy=>h y (by simp[hy]));simp only[eW,Ji,pc];omega
theorem V.akD(k:Int)(n:Nat)(b:List UInt8)(l:List V)(f:List (ByteArray×V))(m:Nat):(V.mk k n b l f).most≤m↔l.length≤m∧f.length≤m∧(∀x∈l,x.most≤m)∧∀x∈f,x.2.most≤m:=by
 rw[V.Ng,Cw,Cw];simp only[jx,forall_exists_index,and_imp,forall_apply_eq_imp_iff₂];constructor
 ·rintro⟨⟨h1,h2⟩,h3⟩;exact⟨by omega,by omega,h2,h3⟩
 rintro⟨h1,h2,h3,h4⟩;exact⟨⟨by omega,h3⟩,h4⟩
theorem V.akE(v:V):v.depth≤v.count:=by
 induction v using V.ind with
 | h k n b l f hl hf =>
  rw[V.yu,u6];have h1:=aa4 l V.depth V.count 0 hl;have h2:=aa4 f (fun x=>x.2.depth) (fun x=>x.2.count) ((l.map V.depth).foldl max 0) hf;split<;>omega
theorem V.akF(v:V):∀(w:World) (c:Cv),v.formed=true→In w v c→v.bytes.length+34≤v.count*140737488355372:=by
 induction v using V.ind with
 | h k n b l f hl hf =>
  intro w c fh hv;have hv':=hv;obtain⟨aB,aL,aF,cB,cL,cF,hc,h1,h2,h3,h4,h5,h6,h7,h8,h9,hb⟩:=hv'.open;have Ai:=fh;rw[rh] at Ai;simp only[gV,nU] at Ai;obtain⟨⟨⟨_,hfl⟩,l7⟩,_⟩:=Ai;have hl':∀x∈l,x.bytes.length≤x.count*140737488355372:=fun x hx=>by
   obtain⟨i,hi,rfl⟩:=sJ.1 hx;obtain⟨bk,o,y,_,_,_,_,_,_,_,hy⟩:=hv.fJ i hi;have:=hl _ hx w y (hfl _ hx) hy;omega
  have hf':∀x∈f,(V.item x.1 x.2.bytes).length≤x.2.count*140737488355372:=fun x hx=>by
   have hx0:=hx;obtain⟨i,hi,rfl⟩:=sJ.1 hx;obtain⟨bk,o,y,_,_,_,_,_,_,_,_,_,hy⟩:=hv.iR i hi;have:=hf _ hx0 w y (l7 _ hx0).2 hy;have hn:=(l7 _ hx0).1;simp only[V.name,gV,iy] at hn;rw[Cz];omega
  have sl:=aa3 l (fun x=>x.bytes.length) V.count 140737488355372 hl';have sf:=aa3 f (fun x=>(V.item x.1 x.2.bytes).length) (fun x=>x.2.count) 140737488355372 hf';have hcm:(V.mk k n b l f).count*140737488355372=140737488355372+(l.map V.count).sum*140737488355372+(f.map fun x=>x.2.count).sum*140737488355372:=by
   rw[u6,jM,jM,ng]
  rw[hcm];clear hcm;rcases u_ fh with h | ⟨_,_,h⟩ | ⟨_,h⟩ | ⟨_,h⟩ | ⟨_,_,h⟩ | ⟨_,h⟩ | ⟨l',hl',h⟩ | ⟨f',hf',hnd,h⟩
  case inr.inr.inr.inr.inr.inr.inl =>
   cases h
   rw[Cy,aU,aU,EG,kG];have:(l.map (List.length ∘ V.bytes)).sum=(l.map fun x=>x.bytes.length).sum:=rfl;omega
  case inr.inr.inr.inr.inr.inr.inr =>
   cases h
   rw[zZ,aU,aU,EG,kG];have:(f.map (List.length ∘ fun x=>V.item x.1 x.2.bytes)).sum=(f.map fun x=>(V.item x.1 x.2.bytes).length).sum:=rfl;omega
  all_goals
   cases h
   rw[iT]
   simp[jQ]
   try omega
theorem V.akG{v:V}{w:World}{c:Cv}(fh:v.formed=true)(hv:In w v c)(hc:v.count≤20000):v.bytes.length≤4611686018427387904:=by
 have h1:=V.akF v w c fh hv;have h2:v.count*140737488355372≤20000*140737488355372:=iu _ hc;omega
theorem V.aa5{v:V}(hc:v.count≤20000):v.depth≤1099511627776:=by
 have:=V.akE v;omega
def V.J4(v:V):Prop:=v.depth≤1099511627776∧(v.formed=true→v.bytes.length≤4611686018427387904)
theorem V.J5{v:V}{w:World}{c:Cv}(hc:v.count≤20000)(hv:In w v c):v.J4:=⟨V.aa5 hc,fun hf=>V.akG hf hv hc⟩
theorem UL(v:V)(w:World)(c:Cv)(hm:v.J4)(hT:eo w)(hv:In w v c) :
 Calls prog 20 #[c.agg] w fun e w'=>e=.returned (.int .i64 v.good)∧Grow w w':=by
 have HT:=aa hT;have HV:=aa hv;obtain⟨iD,eH⟩:∃A,v.good=A:=⟨_,rfl⟩;rw[eH];have HA:=aa eH;clear hT hv eH;go_enter func20,ntmps20;go_wp2_with fail;have bf:=aa (aH w 27 c.cells);have aP:=aa ((ah w).alloc (.cells c.cells 27));refine(akC v _ c (HT.o.grow aP.o) (HV.o.grow aP.o)).mono ?_;rintro e w1 ⟨rfl,hg1⟩;have eX:=bf.o.grow hg1;have hc:=eX.cell;have hBl:=eX.lt;have aQ:=aa eX;have aN:=aa (aP.o.trans hg1);clear hg1 eX;obtain⟨R,hR⟩:∃R,v.formed=R:=⟨_,rfl⟩;rw[hR];have HR:=aa hR;clear hR
 cases R
 ·go_wp2_with fail;go_ret;exact⟨dI (by rw[← HA.o,V.good,ar HR.o]),aN.o⟩
 obtain⟨M,hM⟩:∃M,v.most=M:=⟨_,rfl⟩;have HM:=aa hM;go_wp2_with fail;refine(ai6 v _ c (HV.o.grow aN.o)).mono ?_;rintro e w2 ⟨rfl,hg2⟩;have dK:=aQ.o.grow hg2;have hc:=dK.cell;have hBl:=dK.lt;have aG:=aa dK;have HG2:=aa (aN.o.trans hg2);clear hg2 dK;rw[hM];clear hM;by_cases m1:64<M
 ·go_wp2_with fail;go_ret;exact⟨dI (by rw[← HA.o,V.good,ai (by rw[HR.o];decide),ar (by rw[HM.o];exact m1)]),HG2.o⟩
 obtain⟨D,hD⟩:∃D,v.depth=D:=⟨_,rfl⟩;have HD:=aa hD;go_wp2_with fail;refine(ai8 v _ c HR.o hm.1 (HV.o.grow HG2.o)).mono ?_;rintro e w3 ⟨rfl,hg3⟩;have fR:=aG.o.grow hg3;have hc:=fR.cell;have hBl:=fR.lt;have aX:=aa fR;have aJ:=aa (HG2.o.trans hg3);clear hg3 fR;rw[hD];clear hD;by_cases d1:16<D
 ·go_wp2_with fail;go_ret;exact⟨dI (by rw[← HA.o,V.good,ai (by rw[HR.o];decide),ai (by rw[HM.o];exact m1),ar (by rw[HD.o];exact d1)]),aJ.o⟩
 obtain⟨S,hS⟩:∃S,v.bytes.length=S:=⟨_,rfl⟩;have HS:=aa hS;go_wp2_with fail;refine(ai_ v _ c HR.o (hm.2 HR.o) (HV.o.grow aJ.o)).mono ?_;rintro e w4 ⟨rfl,hg4⟩;have hB4:=aX.o.grow hg4;have hc:=hB4.cell;have hBl:=hB4.lt;have au:=aa hB4;have bz:=aa (aJ.o.trans hg4);clear hg4 hB4;rw[hS];clear hS;by_cases s1:4096<S
 ·go_wp2_with fail;go_ret;exact⟨dI (by rw[← HA.o,V.good,ai (by rw[HR.o];decide),ai (by rw[HM.o];exact m1),ai (by rw[HD.o];exact d1),ar (by rw[HS.o];exact s1)]),bz.o⟩
 go_wp2_with fail;go_ret;exact⟨dI (by rw[← HA.o,V.good,ai (by rw[HR.o];decide),ai (by rw[HM.o];exact m1),ai (by rw[HD.o];exact d1),ai (by rw[HS.o];exact s1)]),bz.o⟩
theorem V.akH{v:V}(h:v.good=0):v.formed=true∧v.bytes.length≤4096:=by
 unfold V.good at h
 cases hf:v.formed
 ·rw[hf] at h;simp at h
 rw[hf] at h;refine⟨rfl,?_⟩;simp only[Bool.true_eq_false,iJ] at h;split at h
 ·omega
 split at h
 ·omega
 split at h<;>omega
theorem N9(v:V)(w:World)(c:Cv)(eP:v.count≤20000)(hT:eo w)(hv:In w v c) :
 Calls prog 20 #[c.agg] w fun e w'=>e=.returned (.int .i64 v.good)∧Grow w w':=UL v w c (V.J5 eP hv) hT hv
theorem JU(S:Nat)(hS:S≤140737488355328):∃cur:Array Value,cur.size=S∧∀w:World,(Instr.makeSlice 23 (.int .i64 0) (.int .i64 (S:Int))).run prog w=.ok (.slice (some ⟨w.heap.size,0,none⟩) 0 S) (w.alloc (.cells cur 5)):=by
 obtain⟨i0,hi0,hz0,hz1,hz2⟩:=info_parts E5;refine⟨madeCells (Value.int .u8 0).cells (S*i0.size),?_,fun w=>?_⟩
 ·rw[hz1];simp[madeCells]
 have h:=run_make (P:=prog) (w:=w) 23 5 i0 (.int .u8 0) dP hi0 hz0 .i64 .i64 0 (S:Int) (by omega) (by omega) (by rw[hz2];omega) (by omega);exact h
end
abbrev mJ:=@V.akH
abbrev CP:=@V.aa5
abbrev JP:=@V.akD
section
open Go.RowKit Go.Shelf
theorem rC(w:World)(b i:Nat)(u:Value):w.grownBy (w.setCell ⟨b,i,none⟩ u) (some b):=
 ⟨rfl,rfl,rfl,by simp[World.setCell],fun k _ hk=>EA w ⟨b,i,none⟩ u k (fun e=>hk (by rw[e]))⟩
def GB(w w':World)(pb:Nat):Prop:=w.grownBy w' (some pb)
theorem GB.trans{a b c:World}{pb:Nat}(h:GB a b pb)(k:GB b c pb):GB a c pb:=
 ⟨k.os.trans h.os,k.tape.trans h.tape,k.output.trans h.output,a_ h.size k.size,fun i hi hne=>(k.block i (cU hi h.size) hne).trans (h.block i hi hne)⟩
theorem UH:(prog.info? 27).map (·.size)=some 5:=by kernel_rfl
def qj(W:World)(vb:Nat)(c:Cv):World:=
 ((((W.setCell ⟨vb,0,none⟩ (.int .i64 c.k)).setCell ⟨vb,1,none⟩ (.int .u64 c.n)).setCell ⟨vb,2,none⟩ (.slice c.aB c.nB c.cB)).setCell ⟨vb,3,none⟩ (.slice c.aL c.nL c.cL)).setCell ⟨vb,4,none⟩ (.slice c.aF c.nF c.cF)
theorem CX{W:World}{vb:Nat}{t:TypeId}{c:Cv}(h:Blk W vb t c.cells):Blk (qj W vb c) vb t c.cells:=by
 have:=((((h.bg 0 (.int .i64 c.k)).bg 1 (.int .u64 c.n)).bg 2 (.slice c.aB c.nB c.cB)).bg 3 (.slice c.aL c.nL c.cL)).bg 4 (.slice c.aF c.nF c.cF);exact this
theorem Us(W:World)(vb:Nat)(c:Cv):W.grownBy (qj W vb c) (some vb):=
 ((((rC W vb 0 _).trans (rC _ vb 1 _)).trans (rC _ vb 2 _)).trans (rC _ vb 3 _)).trans (rC _ vb 4 _)
theorem abY(W:World)(vb:Nat)(c:Cv):(qj W vb c).heap.size=W.heap.size:=by simp[qj,World.setCell]
end
section
open Go.RowKit Go.Shelf
theorem ry:(prog.info? 27).map (fun i=>(i.zero,i.size,i.bytes))=some (some (.agg #[.int .i64 0,.int .u64 0,.slice none 0 0,.slice none 0 0,.slice none 0 0]),5,88):=by kernel_rfl
theorem lF:prog.underlying 24=some (.slice 27):=by kernel_rfl
theorem Ur:(prog.info? 82).map (fun i=>(i.zero,i.size,i.bytes))=some (some (.agg #[.string ⟨#[]⟩,.int .i64 0,.int .u64 0,.slice none 0 0,.slice none 0 0,.slice none 0 0]),6,104):=by kernel_rfl
theorem Am:prog.underlying 25=some (.slice 82):=by kernel_rfl
structure VE where
 s:ByteArray
 v:V
 c:Cv
 lo:Nat
 hi:Nat
abbrev Fs:ByteArray→List Value:=fun _=>[]
abbrev sY:ByteArray→List Value:=fun s=>[.string s]
def cellsOf(hd:ByteArray→List Value)(es:List VE):List Value:=(es.map fun x=>hd x.s++x.c.cells.toList).flatten
theorem akI(hd:ByteArray→List Value)(es:List VE)(x:VE):cellsOf hd (es++[x])=cellsOf hd es++(hd x.s++x.c.cells.toList):=by simp[cellsOf]
theorem akJ(c:Cv):c.cells.toList.length=5:=rfl
theorem akK{hd:ByteArray→List Value}{k z:Nat}(hk:∀s,(hd s).length=k)(hz:k+5=z):∀(es:List VE) (i t:Nat) (hi:i<es.length) (_ht:t<z),(cellsOf hd es)[i*z+t]?=(hd es[i].s++es[i].c.cells.toList)[t]?:=by
 intro es
 induction es with
 | nil=>intro i t hi;simp at hi
 | cons x xs ih =>
  intro i t hi ht;have e:cellsOf hd (x::xs)=(hd x.s++x.c.cells.toList)++cellsOf hd xs:=by simp[cellsOf]
  have hl:(hd x.s++x.c.cells.toList).length=z:=by rw[bD,hk,akJ];exact hz
  rw[e]
  cases i with
  | zero=>rw[Nat.zero_mul,dg,Jp (by rw[hl];exact ht)];rfl
  | succ i =>
   rw[MQ (by rw[hl,Ch];omega),hl,show (i+1)*z+t-z=i*z+t by rw[Ch];omega,ih i t (by simpa using hi) ht];rfl
structure gQ (w:World) (te:TypeId) (hd:ByteArray→List Value) (z lo vb base:Nat) (v:Value) (es:List VE):Prop where
 own:w.ownsRow base te z v es.length (cellsOf hd es)
 part:∀x∈es,lo≤x.lo∧vb<x.lo∧(∀g,v.ownBlock=some g→¬ (x.lo≤g∧g<x.hi))∧pF w x.lo x.hi x.v x.c
 apart:∀i j (hi:i<es.length) (hj:j<es.length),i<j→es[i].hi≤es[j].lo
theorem gQ.nv{W:World}{te:TypeId}{hd:ByteArray→List Value}{z lo vb base:Nat}{v:Value}{es:List VE}(h:gQ W te hd z lo vb base v es){k:Nat}(hk:v.ownBlock=some k):base≤k∧k<W.heap.size:=bO h.own k hk
theorem gQ.cap{W:World}{te:TypeId}{hd:ByteArray→List Value}{z lo vb base n cap:Nat}{A:Option Addr}{es:List VE}(h:gQ W te hd z lo vb base (.slice A n cap) es)(hn:n=es.length):n≤cap:=by
 rcases h.own.2 with ⟨hv,h0⟩ | ⟨g,cap',cur,hv,_,_,hc,_⟩
 ·omega
 injection hv with _ _ e;omega
theorem gQ.cellAt{W:World}{te:TypeId}{hd:ByteArray→List Value}{k z lo vb base n cap:Nat}{A:Option Addr}{es:List VE}(h:gQ W te hd z lo vb base (.slice A n cap) es)(hk:∀s,(hd s).length=k)(hz:k+5=z)(hn:n=es.length)(i:Nat)(hi:i<es.length) :
 ∃g,A=some ⟨g,0,none⟩∧base≤g∧g<W.heap.size∧∀t u,t<z→(hd es[i].s++es[i].c.cells.toList)[t]?=some u→CF W ⟨g,0+i*z+t,none⟩ u:=by
 subst hn;obtain⟨g,cap',hv,hb,hlt⟩:=World.ownsRow.form h.own (by omega);have hA:A=some ⟨g,0,none⟩:=by injection hv
 subst hA;refine⟨g,rfl,hb,hlt,fun t u ht hu=>⟨?_,EH h.own _⟩⟩;have:=ED h.own (g:=g) rfl (i*z+t) u (by rw[akK hk hz es i t hi ht];exact hu);rw[add_lit] at this;rw[← this];congr 2;omega
theorem gQ.grow{W W':World}{te:TypeId}{hd:ByteArray→List Value}{z lo vb base:Nat}{v:Value}{es:List VE}(h:gQ W te hd z lo vb base v es)(hg:Grow W W'):gQ W' te hd z lo vb base v es:=by
 refine⟨nV h.own (row:=none) ⟨hg.os,hg.tape,hg.output,hg.size,fun k hk _=>hg.below.block k hk⟩ (by cases v.ownBlock<;>simp),fun x hx=>?_,h.apart⟩;obtain⟨p1,p2,p3,p4⟩:=h.part x hx;exact⟨p1,p2,p3,p4.grow hg⟩
theorem gQ.add{w2 w3:World}{te:TypeId}{hd:ByteArray→List Value}{z lo vb base m0:Nat}{v v':Value}{es:List VE}{s:ByteArray}{x:V}{c:Cv}{o:Obj}(h:gQ w2 te hd z lo vb base v es)(hv:∀k,v.ownBlock=some k→k<m0)(hvb:vb<m0)(hlo:lo≤m0)(hm:∀y∈es,y.hi≤m0)
 (hx:pF w2 m0 w2.heap.size x c) (h2:w3.ownsRow base te z v' (es.length+1) (cellsOf hd es++(hd s++c.cells.toList))) (hg:(w2.alloc o).grownBy w3 v.ownBlock)
 (eY:v'.ownBlock=v.ownBlock∨v'.ownBlock=some (w2.alloc o).heap.size):gQ w3 te hd z lo vb base v' (es++[⟨s,x,c,m0,w2.heap.size⟩]):=by
 have hsz:(w2.alloc o).heap.size=w2.heap.size+1:=by simp
 have Mf:=hg.size;have hblk:∀k,k<w2.heap.size→(∀g,v.ownBlock=some g→k≠g)→w3.heap[k]?=w2.heap[k]?:=fun k hk hne =>
  (hg.block k (by omega) (fun e=>hne k e.symm rfl)).trans (((ah w2).alloc o).below.block k hk)
 refine⟨by rw[bD,akI];exact h2,fun y hy=>?_,fun i j hi hj hij=>?_⟩
 ·rcases qV.1 hy with hy | hy
  ·obtain⟨p1,p2,p3,p4⟩:=h.part y hy;refine⟨p1,p2,fun g e=>?_,p4.blocks (by omega) (fun k hk hk'=>hblk k (cU hk' p4.1) (fun g e e'=>p3 g e (by omega)))⟩;rcases eY with q | q
   ·exact p3 g (q ▸ e)
   rw[q] at e;injection e with e;have:=hm y hy;have:=p4.1;omega
  rw[uP] at hy;subst hy;refine⟨hlo,hvb,fun g e=>?_,hx.blocks (by omega) (fun k hk hk'=>hblk k hk' (fun g e e'=>by have:=hv g e;omega))⟩;rcases eY with q | q
  ·have:=hv g (q ▸ e);show ¬ (m0≤g∧g<w2.heap.size);omega
  rw[q] at e;injection e with e;show ¬ (m0≤g∧g<w2.heap.size);omega
 rw[bD,MR] at hj;rcases dH j es.length with hj' | hj'
 ·rw[Jq (by omega),Jq hj'];exact h.apart i j (by omega) hj' hij
 have:j=es.length:=by omega
 subst this;rw[Jq (by omega),MS (av _)];simp only[yj,Ci];exact hm _ (aY _)
end
section
open Go.RowKit Go.Shelf
theorem Blk.own{w w':World}{g:Nat}{t:TypeId}{cs:Array Value}{row:Option Nat}(h:Blk w g t cs)(hg:w.grownBy w' row)(hne:∀k,row=some k→k≠g):Blk w' g t cs:=
 (hg.block g h.lt (fun e=>hne g e.symm rfl)).trans h
theorem Src.Uu{w:World}(c:Cv)(e:TypeId):Src prog 5 24 (.slice (some ⟨w.heap.size,0,none⟩) 1 1) 1 c.cells.toList (w.alloc (.cells c.cells e)):=
 Src.ofSlice _ lF ⟨w.heap.size,0,none⟩ 1 1 _ rfl (fun j u hu=>by
  rw[add_lit,dg,(aH w e c.cells).cell j,← hu,pg]) (fun u hu=>by
  simp only[iw,wD,wE] at hu;rcases hu with rfl | rfl | rfl | rfl | rfl<;>rfl)
end
abbrev pE:=@Blk.own
section
open Go.RowKit Go.Shelf Go.Maps Go.WideMaps
theorem gQ.kept{W W':World}{te:TypeId}{hd:ByteArray→List Value}{z lo vb base:Nat}{v:Value}{es:List VE}{row:Option Nat}(h:gQ W te hd z lo vb base v es)(hg:W.grownBy W' row)(hne:∀k,row=some k→v.ownBlock≠some k∧k≤vb):gQ W' te hd z lo vb base v es:=by
 refine⟨nV h.own hg ?_,fun x hx=>?_,h.apart⟩
 ·cases hr:row with
  | none=>cases v.ownBlock<;>simp
  | some k=>exact .inr (hne k hr).1
 obtain⟨p1,p2,p3,p4⟩:=h.part x hx;exact⟨p1,p2,p3,p4.blocks hg.size (fun k hk hk'=>hg.block k (cU hk' p4.1) (fun e=>by have:=(hne k e.symm).2;omega))⟩
theorem gQ.lower{W:World}{te:TypeId}{hd:ByteArray→List Value}{z lo vb JS base:Nat}{v:Value}{es:List VE}(h:gQ W te hd z lo vb base v es)(hv:JS≤vb):gQ W te hd z lo JS base v es:=
 ⟨h.own,fun x hx=>by obtain⟨p1,p2,p3,p4⟩:=h.part x hx;exact⟨p1,by omega,p3,p4⟩,h.apart⟩
abbrev Cv.lJ(s:ByteArray)(c:Cv):Array Value:=#[.string s,.int .i64 c.k,.int .u64 c.n,.slice c.aB c.nB c.cB,.slice c.aL c.nL c.cL,.slice c.aF c.nF c.cF]
theorem Src.N6{w:World}(s:ByteArray)(c:Cv)(e:TypeId):Src prog 6 25 (.slice (some ⟨w.heap.size,0,none⟩) 1 1) 1 (sY s++c.cells.toList) (w.alloc (.cells (c.lJ s) e)):=
 Src.ofSlice _ Am ⟨w.heap.size,0,none⟩ 1 1 _ rfl (fun j u hu=>by
  rw[add_lit,dg,(aH w e (c.lJ s)).cell j,← hu,← pg];rfl) (fun u hu=>by
  simp only[iw,wD,wE,zN,mF] at hu;rcases hu with rfl | rfl | rfl | rfl | rfl | rfl<;>rfl)
end
section
open Go.RowKit Go.Shelf
theorem vp{W:World}{vb:Nat}{t:TypeId}{c:Cv}{c0 c1 c2 c3 c4:Value}(h:Blk W vb t #[c0,c1,c2,c3,c4]):Blk (qj W vb c) vb t c.cells:=by
 have:=((((h.bg 0 (.int .i64 c.k)).bg 1 (.int .u64 c.n)).bg 2 (.slice c.aB c.nB c.cB)).bg 3 (.slice c.aL c.nL c.cL)).bg 4 (.slice c.aF c.nF c.cF);exact this
end
section
open Go.RowKit Go.Shelf
theorem Al(w:World)(s:ByteArray):∃c W,(convert 9 23 (.string s)).run prog w=.ok (.slice (some ⟨w.heap.size,0,none⟩) s.size c) W∧s.size≤c∧Grow w W∧ba W (some ⟨w.heap.size,0,none⟩) s.data.toList:=by
 have hg:Grow w (Lib.bytesWorld w 5 s):=Go.Joins.below_bytesWorld _ w _ s (av _);refine⟨_,_,Lib.run_convert_string_bytes w _ _ 5 s nZ dP CA,grownCap_ge _ _ _ _,hg,?_,?_⟩
 ·simp[bw]
 intro h0;refine⟨_,_,rfl,fun j u hu=>?_⟩;have hj:j<s.data.toList.length:=by
  have:=(kE.1 hu).1;simpa [bw] using this
 have hj':j<s.size:=by simpa using hj
 rw[uY _ j hj] at hu;injection hu with hu;subst hu;refine⟨?_,by simp,by rw[Lib.bytesWorld_size];simp⟩;rw[show (0:Nat)+j=j by omega,Lib.bytesWorld_cell w _ s j hj',jN,bN hj];rfl
theorem ab7{F:Func}{W:World}{vb:Nat}{tmps:Array Value}(hF:F.results=#[ResultVar.cell 2 27])(h2:tmps.getD 2 undef=.pointer (some ⟨vb,0,none⟩))(c:Cv)(hv:Blk W vb 27 c.cells) :
 (results F tmps).run prog W=.ok c.agg W:=by
 have wV:=hv.cell;have h2':tmps[2]?.getD undef=.pointer (some ⟨vb,0,none⟩):=by simpa using h2
 simp[results,hF,go_sem,h2',wV]
theorem ba.blk{w:World}{g:Nat}{t:TypeId}{xs:List UInt8}(h:Blk w g t (bw xs).toArray):ba w (some ⟨g,0,none⟩) xs:=
 ⟨by simp[bw],fun _=>⟨g,0,rfl,fun j u hu=>⟨by rw[dg,h.cell j];simpa using hu,aS _,h.lt⟩⟩⟩
end
section
open Go.RowKit Go.Shelf Go.WideShapes
theorem I6{w:World}{lo:Nat}{v:V}{c:Cv}(h:IsV (bE w lo w.heap.size) v c){p:Addr}(hp:p.block<lo)(u:Value):IsV (bE (w.setCell p u) lo (w.setCell p u).heap.size) v c:=by
 refine iL (fun a x ha=>?_) v c h;have hne:a.block≠p.block:=by have:=ha.2.1;omega
 refine⟨(uQ (a:=a) (EA w p u a.block hne)).trans ha.1,ha.2.1,?_⟩;have:=ha.2.2;simpa using this
theorem UD{w:World}{lo vb:Nat}{v:V}{c:Cv}(h:IsV (bE w lo w.heap.size) v c)(hp:vb<lo)(d:Cv):IsV (bE (qj w vb d) lo (qj w vb d).heap.size) v c:=
 I6 (I6 (I6 (I6 (I6 h (p:=⟨vb,0,none⟩) hp _) (p:=⟨vb,1,none⟩) hp _) (p:=⟨vb,2,none⟩) hp _) (p:=⟨vb,3,none⟩) hp _) (p:=⟨vb,4,none⟩) hp _
theorem Grow.mf{a W:World}{vb:Nat}(h:Grow a W)(hb:a.heap.size≤vb)(c:Cv):Grow a (qj W vb c):=
 ((((h.setCell (p:=⟨vb,0,none⟩) hb _).setCell (p:=⟨vb,1,none⟩) hb _).setCell (p:=⟨vb,2,none⟩) hb _).setCell (p:=⟨vb,3,none⟩) hb _).setCell (p:=⟨vb,4,none⟩) hb _
theorem gQ.abZ{W:World}{lo vb base n cap:Nat}{A:Option Addr}{es:List VE}(h:gQ W 27 Fs 5 lo vb base (.slice A n cap) es)(hn:n=es.length)(h1:lo≤base)(h2:vb<base)(h64:n≤140737488355328) :
 kL (fun p u=>CF W p u∧p.block≠vb) (.mk 7 0 [] (es.map VE.v) []) ⟨7,0,none,0,0,A,n,cap,none,0,0⟩ (fun q=>lo≤q∧q<W.heap.size):=by
 have hcap:=h.cap hn;rw[kL];refine⟨rfl,rfl,rfl,by rw[cY];exact hn,rfl,by omega,by omega,by omega,by simp,by simp,by show (es.map VE.v).length≤cap;rw[cY];omega,by rw[cY];omega,by simp,by simp,⟨by simp[bw],fun h=>by simp at h⟩,
  ⟨fun i q=>∃x,es[i]?=some x∧x.lo≤q∧q<x.hi,fun i hi=>?_,fun i j hij hj q hq hq'=>?_⟩,⟨fun _ _=>False,fun i hi=>absurd hi (by simp),fun _ _ _ _ _ h=>h.elim⟩⟩
 ·rw[cY] at hi;obtain⟨g,rfl,hb,hlt,hcell⟩:=h.cellAt (k:=0) (fun _=>rfl) rfl hn i hi;obtain⟨p1,p2,p3,p4⟩:=h.part es[i] (aY hi);refine⟨g,0,es[i].c,rfl,⟨a_ h1 hb,hlt⟩,?_,?_,?_,?_⟩
  ·rintro⟨x,hx,q⟩;rw[bN hi] at hx;injection hx with hx;subst hx;exact p3 g rfl q
  ·rintro q ⟨x,hx,q1,q2⟩;rw[bN hi] at hx;injection hx with hx;subst hx;have:=p4.1;exact⟨a_ p1 q1,by omega⟩
  ·exact⟨⟨hcell 0 _ (by omega) rfl,by show g≠vb;omega⟩,⟨hcell 1 _ (by omega) rfl,by show g≠vb;omega⟩,⟨hcell 2 _ (by omega) rfl,by show g≠vb;omega⟩,⟨hcell 3 _ (by omega) rfl,by show g≠vb;omega⟩,⟨hcell 4 _ (by omega) rfl,by show g≠vb;omega⟩⟩
  rw[jb];exact kL.mono _ _ _ _ (fun p u q s=>⟨q,by have:=s.1;omega⟩) (fun q s=>⟨_,bN hi,s⟩) p4.2
 rw[cY] at hj;have hi':i<es.length:=EI hij hj;obtain⟨x,hx,q1,q2⟩:=hq;obtain⟨y,hy,q3,q4⟩:=hq';rw[bN hi'] at hx;rw[bN hj] at hy;injection hx with hx;injection hy with hy;subst hx hy;have:=h.apart i j (by omega) hj hij;omega
theorem gQ.ab0{W:World}{lo vb base n cap:Nat}{A:Option Addr}{es:List VE}(h:gQ W 82 sY 6 lo vb base (.slice A n cap) es)(hs:∀x∈es,x.s.size≤140737488355328)(hn:n=es.length)(h1:lo≤base)(h2:vb<base)(h64:n≤140737488355328) :
 kL (fun p u=>CF W p u∧p.block≠vb) (.mk 8 0 [] [] (es.map fun x=>(x.s,x.v))) ⟨8,0,none,0,0,none,0,0,A,n,cap⟩ (fun q=>lo≤q∧q<W.heap.size):=by
 have hcap:=h.cap hn;rw[kL];refine⟨rfl,rfl,rfl,rfl,by rw[cY];exact hn,by omega,by omega,by omega,by simp,by simp,by simp,by simp,by show (es.map fun x=>(x.s,x.v)).length≤cap;rw[cY];omega,by rw[cY];omega,⟨by simp[bw],fun h=>by simp at h⟩,
  ⟨fun _ _=>False,fun i hi=>absurd hi (by simp),fun _ _ _ _ _ h=>h.elim⟩,⟨fun i q=>∃x,es[i]?=some x∧x.lo≤q∧q<x.hi,fun i hi=>?_,fun i j hij hj q hq hq'=>?_⟩⟩
 ·rw[cY] at hi;obtain⟨g,rfl,hb,hlt,hcell⟩:=h.cellAt (k:=1) (fun _=>rfl) rfl hn i hi;obtain⟨p1,p2,p3,p4⟩:=h.part es[i] (aY hi);refine⟨g,0,es[i].c,rfl,⟨a_ h1 hb,hlt⟩,?_,?_,?_,?_,?_,?_⟩
  ·rintro⟨x,hx,q⟩;rw[bN hi] at hx;injection hx with hx;subst hx;exact p3 g rfl q
  ·rintro q ⟨x,hx,q1,q2⟩;rw[bN hi] at hx;injection hx with hx;subst hx;have:=p4.1;exact⟨a_ p1 q1,by omega⟩
  ·rw[jb];exact⟨hcell 0 _ (by omega) rfl,by show g≠vb;omega⟩
  ·rw[jb];exact hs _ (aY hi)
  ·exact⟨⟨hcell 1 _ (by omega) rfl,by show g≠vb;omega⟩,⟨hcell 2 _ (by omega) rfl,by show g≠vb;omega⟩,⟨hcell 3 _ (by omega) rfl,by show g≠vb;omega⟩,⟨hcell 4 _ (by omega) rfl,by show g≠vb;omega⟩,⟨hcell 5 _ (by omega) rfl,by show g≠vb;omega⟩⟩
  rw[jb];exact kL.mono _ _ _ _ (fun p u q s=>⟨q,by have:=s.1;omega⟩) (fun q s=>⟨_,bN hi,s⟩) p4.2
 rw[cY] at hj;have hi':i<es.length:=EI hij hj;obtain⟨x,hx,q1,q2⟩:=hq;obtain⟨y,hy,q3,q4⟩:=hq';rw[bN hi'] at hx;rw[bN hj] at hy;injection hx with hx;injection hy with hy;subst hx hy;have:=h.apart i j (by omega) hj hij;omega
def Ut(w:World)(v:V)(e:Ending)(w':World):Prop:=
 ∃c:Cv,e=.returned c.agg∧pF w' w.heap.size w'.heap.size v c∧Grow w w'
def Om(w:World)(A:Option Addr)(ts:List Bool):Prop:=Reads (bE w 0 w.heap.size) 1 A ts.length (ts.map Value.bool)
end
section
open V
def V.nC:V→Prop
 | mk _ _ b l f=>b.length≤1000000000∧l.length≤1000000000∧f.length≤1000000000∧(∀x∈l,nC x)∧(∀x∈f,nC x.2)
termination_by v=>SizeOf.sizeOf v
decreasing_by
 ·exact qZ ‹_›
 exact rf ‹_›
theorem V.NR{k:Int}{n:Nat}{b:List UInt8}{l:List V}{f:List (ByteArray×V)}:(V.mk k n b l f).nC↔b.length≤1000000000∧l.length≤1000000000∧f.length≤1000000000∧(∀x∈l,x.nC)∧(∀x∈f,x.2.nC):=by
 rw[V.nC]
end
section
open Go.RowKit Go.Shelf
def jd:V→ByteArray→Option V
 | .mk k _ _ l f,s=>if k=7 then (if 0≤nN s.data.toList then l[(nN s.data.toList).toNat]? else none) else (f.find? fun x=>decide (x.1=s)).map Prod.snd
theorem akL(C:Addr→Value→Prop):IsV C V.zero Cv.zero:=by
 unfold V.zero;rw[IsV];exact⟨rfl,rfl,rfl,rfl,rfl,by omega,by omega,by omega,by simp,by simp,by simp,by simp,by simp,by simp,⟨rfl,fun h=>absurd h (by simp)⟩,fun i h=>absurd h (by simp),fun i h=>absurd h (by simp)⟩
def tB(w:World)(g:Option V)(e:Ending)(w':World):Prop:=
 Grow w w'∧∃(c:Cv) (t:Bool) (u:V),e=.returned (.tuple #[c.agg,.bool t])∧IsV (bE w' w.heap.size w'.heap.size) u c∧((g=some u∧t=true)∨(g=none∧t=false∧u=V.zero∧c=Cv.zero))
theorem tB.no{w w':World}{g:Option V}(h:g=none)(hg:Grow w w'):tB w g (.returned (.tuple #[Cv.zero.agg,.bool false])) w':=
 ⟨hg,Cv.zero,false,V.zero,rfl,akL _,.inr ⟨h,rfl,rfl,rfl⟩⟩
theorem tB.yes{w w':World}{g:Option V}{u:V}{c:Cv}(h:g=some u)(hg:Grow w w'){lo:Nat}(hlo:w.heap.size≤lo)(hi:IsV (bE w' lo w'.heap.size) u c):tB w g (.returned (.tuple #[c.agg,.bool true])) w':=
 ⟨hg,c,true,u,rfl,iL (fun p u h=>⟨h.1,a_ hlo h.2.1,h.2.2⟩) u c hi,.inl ⟨h,rfl⟩⟩
def kP(w0 w:World)(g:Option V)(e:Ending)(w':World):Prop:=
 Grow w w'∧∃(c:Cv) (t:Bool) (u:V),e=.returned (.tuple #[c.agg,.bool t])∧In w0 u c∧((g=some u∧t=true)∨(g=none∧t=false∧u=V.zero∧c=Cv.zero))
theorem kP.no{w0 w w':World}{g:Option V}(h:g=none)(hg:Grow w w'):kP w0 w g (.returned (.tuple #[Cv.zero.agg,.bool false])) w':=
 ⟨hg,Cv.zero,false,V.zero,rfl,In.JK w0,.inr ⟨h,rfl,rfl,rfl⟩⟩
theorem kP.yes{w0 w w':World}{g:Option V}{u:V}{c:Cv}(h:g=some u)(hg:Grow w w')(hi:In w0 u c):kP w0 w g (.returned (.tuple #[c.agg,.bool true])) w':=
 ⟨hg,c,true,u,rfl,hi,.inl ⟨h,rfl⟩⟩
theorem pG{F:Func}{W:World}{vb:Nat}{tmps:Array Value}{u:Value}(hF:F.results=#[ResultVar.cell 4 27,ResultVar.tmp 5])(h2:tmps.getD 4 undef=.pointer (some ⟨vb,0,none⟩))(h3:tmps.getD 5 undef=u)(c:Cv)(hv:Blk W vb 27 c.cells) :
 (results F tmps).run prog W=.ok (.tuple #[c.agg,u]) W:=by
 have hl:=EJ (P:=prog) W vb 27 27 c.cells (0,0) _ hv underlying27 rfl UH;have h2':tmps[4]?.getD undef=.pointer (some ⟨vb,0,none⟩):=by simpa using h2
 have h3':tmps[5]?.getD undef=u:=by simpa using h3
 simp[results,hF,h2',h3',asAddr,hl]
theorem yF{n:Nat}{b:List UInt8}{l:List V}{f:List (ByteArray×V)}{s:ByteArray}:jd (.mk 7 n b l f) s=if 0≤nN s.data.toList then l[(nN s.data.toList).toNat]? else none:=by
 simp[jd]
theorem akM(n:Nat)(b:List UInt8)(l:List V)(f:List (ByteArray×V))(s:ByteArray)(c:Cv)(w0 w:World)(hg0:Grow w0 w)(hv:In w0 (.mk 7 n b l f) c) :
 Calls prog 48 #[c.agg,.string s] w (kP w0 w (jd (.mk 7 n b l f) s)):=by
 rw[yF];obtain⟨z,hz⟩:∃z,nN s.data.toList=z:=⟨_,rfl⟩;have HI:=aa (fun w=>ag6 s w);rw[hz] at HI ⊢;clear hz;obtain⟨aB,aL,aF,cB,cL,cF,rfl,-,-,-,-,-,h6,h7,-⟩:=hv.open;have HG:=aa (fun x:Cv=>((ah w).alloc (.cells (Cv.cells ⟨7,(n:Int),aB,b.length,cB,aL,l.length,cL,aF,f.length,cF⟩) 27)).alloc (.cells x.cells 27));have HB:=aa (fun x:Cv=>df (w:=w.alloc (.cells (Cv.cells ⟨7,(n:Int),aB,b.length,cB,aL,l.length,cL,aF,f.length,cF⟩) 27)) (g:=w.heap.size+1) (by simp) 27 x.cells);have HV:=aa hv;by_cases hz0:0≤z
 ·rw[ar hz0];by_cases hz1:z<l.length
  ·obtain⟨i,rfl⟩:∃i:Nat,z=i:=⟨z.toNat,by omega⟩;have hi:i<l.length:=by omega
   rw[yl,bN hi];obtain⟨bk,o,x,ha,hbk,e0,e1,e2,e3,e4,hx⟩:=hv.fJ i hi;dsimp only at ha;subst ha;replace e0:=(hg0.below.cell hbk).trans e0;replace e1:=(hg0.below.cell hbk).trans e1;replace e2:=(hg0.below.cell hbk).trans e2;replace e3:=(hg0.below.cell hbk).trans e3;replace e4:=(hg0.below.cell hbk).trans e4;replace hbk:=cU hbk hg0.size;have HX:=aa hx;clear hx hv hz0 hz1 hg0;go_enter func48,ntmps48;go_wp2_with (go_at_call 91;refine(HI.o _).mono ?_;rintro e w' ⟨rfl,rfl⟩);refine gK (pG rfl rfl rfl x (HB.o x)) rfl (kP.yes rfl (HG.o x) HX.o)
  have hn:l[z.toNat]?=none:=EK (by omega);have HN:=aa hn;clear hn;go_enter func48,ntmps48;go_wp2_with (go_at_call 91;refine(HI.o _).mono ?_;rintro e w' ⟨rfl,rfl⟩);refine gK (pG rfl rfl rfl Cv.zero (HB.o Cv.zero)) rfl (kP.no HN.o (HG.o Cv.zero))
 rw[ai hz0];go_enter func48,ntmps48;go_wp2_with (go_at_call 91;refine(HI.o _).mono ?_;rintro e w' ⟨rfl,rfl⟩);refine gK (pG rfl rfl rfl Cv.zero (HB.o Cv.zero)) rfl (kP.no rfl (HG.o Cv.zero))
theorem vt{k:Int}(hk:k≠7){n:Nat}{b:List UInt8}{l:List V}{f:List (ByteArray×V)}{s:ByteArray}:jd (.mk k n b l f) s=(f.find? fun x=>decide (x.1=s)).map Prod.snd:=by
 simp[jd,hk]
theorem Oa{f:List (ByteArray×V)}{s:ByteArray}{j:Nat}(h:j<f.length)(h0:∀i (hi:i<f.length),i<j→f[i].1≠s)(he:f[j].1=s):(f.find? fun x=>decide (x.1=s))=some f[j]:=by
 induction f generalizing j with
 | nil=>simp at h
 | cons x r ih =>
  cases j with
  | zero =>
   simp only[Ci] at he ⊢;rw[List.find?_cons,bT he]
  | succ j =>
   have hx:=h0 0 (by simp) (by omega);simp only[Ci] at hx;simp only[EL] at he ⊢;rw[List.find?_cons,bY hx];exact ih (by simpa using h) (fun i hi hij=>by have:=h0 (i+1) (by simpa using hi) (by omega);simpa using this) he
theorem J1{f:List (ByteArray×V)}{s:ByteArray}(h0:∀i (hi:i<f.length),f[i].1≠s):(f.find? fun x=>decide (x.1=s))=none:=by
 rw[List.find?_eq_none];intro x hx;obtain⟨i,hi,rfl⟩:=kH hx;simpa using h0 i hi
theorem akN(k:Int)(hk:k≠7)(n:Nat)(b:List UInt8)(l:List V)(f:List (ByteArray×V))(s:ByteArray)(c:Cv)(w0 w:World)(hg0:Grow w0 w)(hv:In w0 (.mk k n b l f) c) :
 Calls prog 48 #[c.agg,.string s] w (kP w0 w (jd (.mk k n b l f) s)):=by
 rw[vt hk];obtain⟨aB,aL,aF,cB,cL,cF,rfl,-,-,-,-,-,-,-,h8,h9,-⟩:=hv.open;have HG:=aa (((ah w).alloc (.cells (Cv.cells ⟨k,(n:Int),aB,b.length,cB,aL,l.length,cL,aF,f.length,cF⟩) 27)).alloc (.cells Cv.zero.cells 27));have HB:=aa (df (w:=w.alloc (.cells (Cv.cells ⟨k,(n:Int),aB,b.length,cB,aL,l.length,cL,aF,f.length,cF⟩) 27)) (g:=w.heap.size+1) (by simp) 27 Cv.zero.cells);have HV:=aa hv;have hkq:(k==7)=false:=by simpa using hk
 have aP:=aa hg0;clear hv hk hg0;go_enter func48,ntmps48;go_wp2_with fail;go_loopg [8,32] (f.length+1) (fun gk x i wr=>∃j:Nat,j≤f.length∧gk+j=f.length+1∧i=.int .i64 j∧(∀i (hi:i<f.length),i<j→f[i].1≠s)∧Grow w wr∧Blk wr (w.heap.size+1) 27 Cv.zero.cells);exact⟨0,by omega,by omega,rfl,fun i _ h=>absurd h (by omega),HG.o,HB.o⟩;obtain⟨j,hj,iB,rfl,hne,hw,hB⟩:=hrel;have HN:=aa hne;have HW:=aa hw;have l8:=aa hB;by_cases hlt:j<f.length
 ·obtain⟨gk',rfl⟩:=bP gk (by omega);obtain⟨bk,o,x,ha,hbk,es,iA,e0,e1,e2,e3,e4,hx⟩:=HV.o.iR j hlt;replace es:=((aP.o.trans hw).below.cell hbk).trans es;replace e0:=((aP.o.trans hw).below.cell hbk).trans e0;replace e1:=((aP.o.trans hw).below.cell hbk).trans e1;replace e2:=((aP.o.trans hw).below.cell hbk).trans e2;replace e3:=((aP.o.trans hw).below.cell hbk).trans e3;replace e4:=((aP.o.trans hw).below.cell hbk).trans e4;replace hbk:=cU hbk (aP.o.trans hw).size;dsimp only at ha;subst ha;have HX:=aa hx;obtain⟨q,hq⟩:∃q,f[j].1=q:=⟨_,rfl⟩;rw[hq] at es;have HQ:=aa hq;have mL:=aa (fun cs=>hw.alloc (.cells cs 82));have tC:=aa (fun cs=>hB.alloc (.cells cs 82))
  have hc1:=(tC.o #[.string q,.int .i64 x.k,.int .u64 x.n,.slice x.aB x.nB x.cB,.slice x.aL x.nL x.cL,.slice x.aF x.nF x.cF]).cell;have lD:=(tC.o #[.string q,.int .i64 x.k,.int .u64 x.n,.slice x.aB x.nB x.cB,.slice x.aL x.nL x.cL,.slice x.aF x.nF x.cF]).lt;have hz1:=(tC.o #[.string q,.int .i64 x.k,.int .u64 x.n,.slice x.aB x.nB x.cB,.slice x.aL x.nL x.cL,.slice x.aF x.nF x.cF]).frozen;clear hne hw hB hx hq;by_cases he:q=s
  ·subst he;have HF:=aa (show (f.find? fun x=>decide (x.1=q)).map Prod.snd=some f[j].2 by rw[Oa hlt HN.o HQ.o];rfl);go_wp2_with fail;refine gK (pG rfl rfl rfl x (vp (c:=x) (tC.o _))) rfl (kP.yes HF.o ((mL.o _).mf (fg _) x) HX.o)
  have HE:=aa he;have ot:(q.toList==s.toList)=false:=by
   simp only[pj,ne_eq];intro h;rw[toList_data,toList_data] at h;exact he (Ca (yh h))
  clear he;go_wp2_with fail;go_roundg gk';refine⟨j+1,by omega,by omega,by go_num,fun i hi hij=>?_,mL.o _,tC.o _⟩;by_cases ie:i=j
  ·subst ie;rw[HQ.o];exact HE.o
  exact HN.o i hi (by omega);omega
 obtain⟨gk',rfl⟩:=bP gk (by omega);obtain rfl:j=f.length:=by omega
 have HF:=aa (show (f.find? fun x=>decide (x.1=s)).map Prod.snd=none by rw[J1 (fun i hi=>HN.o i hi hi)];rfl);have hc1:=l8.o.cell;have lD:=l8.o.lt;have hz1:=l8.o.frozen;clear hne hw hB;go_wp2_with fail;refine gK (pG rfl rfl rfl Cv.zero (CX (c:=Cv.zero) l8.o)) rfl (kP.no HF.o (HW.o.mf (fg _) Cv.zero))
theorem acj(v:V)(s:ByteArray)(c:Cv)(w0 w:World)(hg0:Grow w0 w)(hv:In w0 v c):Calls prog 48 #[c.agg,.string s] w (kP w0 w (jd v s)):=by
 obtain⟨k,n,b,l,f⟩:=v;by_cases hk:k=7
 ·subst hk;exact akM n b l f s c w0 w hg0 hv
 exact akN k hk n b l f s c w0 w hg0 hv
end
abbrev Oc:=@kP.no
abbrev Ob:=@kP.yes
section
open Go.Shelf Go.RowKit Go.Lib Go.Sort
structure iO where
 b:List UInt8
 A:Option Addr
 c:Nat
 sz:Int
 d:Cv
abbrev iO.cells(e:iO):Array Value:=#[.slice e.A e.b.length e.c,.int .i64 e.sz,.int .i64 e.d.k,.int .u64 e.d.n,.slice e.d.aB e.d.nB e.d.cB,.slice e.d.aL e.d.nL e.d.cL,.slice e.d.aF e.d.nF e.d.cF]
def KH(w:World)(blk:Nat)(e:iO):Prop:=Reads (fun p u=>w.cell? p=some u∧p.block<w.heap.size∧p.block≠blk) 1 e.A e.b.length (bw e.b)
abbrev yY(w:World)(blk:Nat):={ e:iO // KH w blk e }
def oD{w:World}{blk:Nat}(e:yY w blk):List Value:=e.1.cells.toList
def KI{w:World}{blk:Nat}(x y:yY w blk):Int:=Lib.compareBytes x.1.b y.1.b
theorem aek{w:World}{blk:Nat}(e:yY w blk):(oD e).length=7:=rfl
theorem ael{w:World}{blk:Nat}(e:yY w blk):∀v∈oD e,v.oneCell'=true:=by simp[oD,Value.oneCell']
theorem akO(x y:iO)(W:World)(hx:ba W x.A x.b)(hy:ba W y.A y.b) :
 Calls prog 108 #[.agg x.cells,.agg y.cells] W fun e w'=>e=.returned (.int .i64 (Lib.compareBytes x.b y.b))∧w'=(W.alloc (.cells x.cells 115)).alloc (.cells y.cells 115):=by
 have hg:=((ah W).alloc (.cells x.cells 115)).alloc (.cells y.cells 115);have HC:=aa (Uc x.b y.b x.A y.A x.c y.c _ (hx.grow hg) (hy.grow hg));clear hx hy hg;obtain⟨z,hz⟩:∃z,Lib.compareBytes x.b y.b=z:=⟨_,rfl⟩;rw[hz] at HC ⊢;clear hz;go_enter func108,ntmps108;go_wp2_with fail;refine HC.o.mono ?_;rintro e w' ⟨rfl,rfl⟩;go_wp2_with fail;go_ret;exact⟨rfl,rfl⟩
theorem KH.y_{w:World}{blk:Nat}{α:Type}[Inhabited α]{e:iO}(h:KH w blk e)(enc:α→List Value)(k off m:Nat)(dk:Array α)(os:Array Obj)(hz:w.heap.size≤(sortWorldK enc k w blk off m dk os).heap.size):ba (sortWorldK enc k w blk off m dk os) e.A e.b:=
 dW (fun p u hp=>by
  refine⟨?_,aS _,cU hp.2.1 hz⟩;unfold sortWorldK;rw[cell?_grow _ _ _ (by rw[size_putRowK];exact hp.2.1),cell?_putRowK_other enc k _ blk off dk p hp.2.2];exact hp.1) h
theorem aeo(w:World)(blk off size:Nat)[Inhabited (yY w blk)]:CmpLays prog 108 #[] (oD (w:=w) (blk:=blk)) 7 KI blk off size w:=fun m os dk kV x y=>by
 refine(akO x.1 y.1 _ (x.2.y_ _ _ _ _ _ _ (size_sortWorldK_c _ _ _ _ _ _ _ _)) (y.2.y_ _ _ _ _ _ _ (size_sortWorldK_c _ _ _ _ _ _ _ _))).mono ?_;rintro e w' ⟨he,hw⟩;exact⟨he,0,#[.cells x.1.cells 115,.cells y.1.cells 115],by rw[hw,alloc_eq_grow,alloc_eq_grow,grow_grow];rfl⟩
end
section
open Go.Shelf Go.RowKit Go.Lib Go.Sort
def cD(a b:List UInt8):Bool:=decide (Lib.compareBytes a b<0)
theorem I7(a:List UInt8):cD a []=false:=by cases a<;>simp[cD,Lib.compareBytes]
theorem Tw(x:UInt8)(a:List UInt8):cD [] (x::a)=true:=by simp[cD,Lib.compareBytes]
theorem Tx(x y:UInt8)(a b:List UInt8):cD (x::a) (y::b)=(decide (x<y)||(x==y&&cD a b)):=by
 unfold cD;rw[Lib.compareBytes];by_cases h1:x<y
 ·simp[h1]
 by_cases h2:x=y
 ·subst h2;simp[h1]
 have h3:y<x:=by
  rcases ET x.toNat y.toNat with h | h | h
  ·exact absurd (zV.2 h) h1
  ·exact absurd (sI.1 h) h2
  exact zV.2 h
 simp[h1,h2,h3]
theorem tP:∀a:List UInt8,cD a a=false
 | []=>I7 []
 | x::a=>by rw[Tx,tP a];simp
theorem vD:∀a b c:List UInt8,cD a b=true→cD b c=true→cD a c=true
 | [],[],c,h,k=>by rw[I7] at h;cases h
 | [],y::b,[],h,k=>by rw[I7] at k;cases k
 | [],y::b,z::c,h,k=>Tw z c
 | x::a,[],c,h,k=>by rw[I7] at h;cases h
 | x::a,y::b,[],h,k=>by rw[I7] at k;cases k
 | x::a,y::b,z::c,h,k=>by
  rw[Tx] at h k ⊢;simp only[Jk,iy,gV,EF] at h k ⊢;rcases h with h | ⟨rfl,h⟩
  ·rcases k with k | ⟨rfl,k⟩
   ·exact .inl (UInt8.lt_trans h k)
   exact .inl h
  rcases k with k | ⟨rfl,k⟩
  ·exact .inl k
  exact .inr ⟨rfl,vD a b c h k⟩
theorem Dl:∀a b:List UInt8,cD a b=false→cD b a=false→a=b
 | [],[],h,k=>rfl
 | [],y::b,h,k=>by rw[Tw] at h;cases h
 | x::a,[],h,k=>by rw[Tw] at k;cases k
 | x::a,y::b,h,k=>by
  rw[Tx] at h k;simp only[ll,jO,lj,pj] at h k;have hxy:x=y:=by
   rcases ET x.toNat y.toNat with h' | h' | h'
   ·exact absurd (zV.2 h') h.1
   ·exact sI.1 h'
   exact absurd (zV.2 h') k.1
  subst hxy;rw[Dl a b (by rcases h.2 with h' | h';exact absurd rfl h';exact h') (by rcases k.2 with h' | h';exact absurd rfl h';exact h')]
theorem VG:SWO cD where
 irrefl:=tP
 trans:=vD
 ntrans:=fun x y z h k=>by
  cases hc:cD x z with
  | false=>rfl
  | true =>
   cases h1:cD y x with
   | false=>rw[Dl x y h h1] at hc;rw[hc] at k;cases k
   | true=>have:=vD _ _ _ h1 hc;rw[this] at k;cases k
theorem aen{w:World}{blk:Nat}:SWO (ltOf (KI (w:=w) (blk:=blk))) where
 irrefl:=fun x=>tP x.1.b
 trans:=fun x y z h k=>vD x.1.b y.1.b z.1.b h k
 ntrans:=fun x y z h k=>VG.ntrans x.1.b y.1.b z.1.b h k
end
section
open Go.RowKit Go.Shelf
noncomputable def aa6(u v:V):Int×Int:=if eJ u.good v.good=0 then (V.cmp u v,0) else (0,eJ u.good v.good)
theorem adJ{a b:Int}(h:eJ a b=0):a=0∧b=0:=by
 unfold eJ at h;split at h
 ·exact⟨by assumption,h⟩
 contradiction
end
section
open Go.RowKit
noncomputable def Vo(v lo hi:V):Bool:=(decide (lo.k=0)||decide (0≤(aa6 v lo).1))&&(decide (hi.k=0)||decide ((aa6 v hi).1≤0))
end
section
open Go.RowKit Go.Shelf
theorem akP(k:Int)(n:Nat)(b:List UInt8)(l:List V)(f:List (ByteArray×V))(w:World)(c:Cv)(hk:k<1∨8<k)(hv:In w (.mk k n b l f) c) :
 Calls prog 100 #[c.agg] w fun e w'=>e=.returned (.bool false)∧Grow w w':=by
 have HV:=aa hv;obtain⟨aB,aL,aF,cB,cL,cF,rfl,h1,h2,h3,h4,h5,h6,h7,h8,h9,hb⟩:=hv.open;have HB:=aa hb;clear hb hv;rcases hk with hk | hk
 all_goals
  go_enter func100,ntmps100
  go_wp2_with fail
  go_ret
  exact⟨rfl,(ah w).alloc _⟩
theorem akQ(n:Nat)(b:List UInt8)(l:List V)(f:List (ByteArray×V))(w:World)(c:Cv)(ho:V.own 1 n b l.length f.length=false)(hv:In w (.mk 1 n b l f) c) :
 Calls prog 100 #[c.agg] w fun e w'=>e=.returned (.bool false)∧Grow w w':=by
 have HV:=aa hv;obtain⟨aB,aL,aF,cB,cL,cF,rfl,h1,h2,h3,h4,h5,h6,h7,h8,h9,hb⟩:=hv.open;have HB:=aa hb;clear hb hv;have HO:=aa ho;clear ho;by_cases p0:((n:Int) != 0)=true
 ·go_enter func100,ntmps100;go_wp2_with fail;go_ret;exact⟨rfl,(ah w).alloc _⟩
 have q0:((n:Int) != 0)=false:=by simpa using p0
 by_cases p1:b=[]
 rotate_left
 ·have pS:0<b.length:=eF.2 p1;have pT:(0:Int)<(b.length:Int):=by omega
  go_enter func100,ntmps100;go_wp2_with fail;go_ret;exact⟨rfl,(ah w).alloc _⟩
 subst p1;by_cases p2:l=[]
 rotate_left
 ·have oY:0<l.length:=eF.2 p2;have oZ:(0:Int)<(l.length:Int):=by omega
  go_enter func100,ntmps100;go_wp2_with fail;go_ret;exact⟨rfl,(ah w).alloc _⟩
 subst p2;by_cases p3:f=[]
 rotate_left
 ·have ME:0<f.length:=eF.2 p3;have MF:(0:Int)<(f.length:Int):=by omega
  go_enter func100,ntmps100;go_wp2_with fail;go_ret;exact⟨rfl,(ah w).alloc _⟩
 subst p3;exfalso;have ho:=HO.o;simp only[V.own,lj,ll,jO] at ho
 try simp at ho
 all_goals (first | omega | simp_all)
theorem akR(n:Nat)(b:List UInt8)(l:List V)(f:List (ByteArray×V))(w:World)(c:Cv)(ho:V.own 2 n b l.length f.length=false)(hv:In w (.mk 2 n b l f) c) :
 Calls prog 100 #[c.agg] w fun e w'=>e=.returned (.bool false)∧Grow w w':=by
 have HV:=aa hv;obtain⟨aB,aL,aF,cB,cL,cF,rfl,h1,h2,h3,h4,h5,h6,h7,h8,h9,hb⟩:=hv.open;have HB:=aa hb;clear hb hv;have HO:=aa ho;clear ho;by_cases p0:(1:Int)<(n:Int)
 ·go_enter func100,ntmps100;go_wp2_with fail;go_ret;exact⟨rfl,(ah w).alloc _⟩
 have q0:¬ ((1:Int)<(n:Int)):=p0;by_cases p1:b=[]
 rotate_left
 ·have pS:0<b.length:=eF.2 p1;have pT:(0:Int)<(b.length:Int):=by omega
  go_enter func100,ntmps100;go_wp2_with fail;go_ret;exact⟨rfl,(ah w).alloc _⟩
 subst p1;by_cases p2:l=[]
 rotate_left
 ·have oY:0<l.length:=eF.2 p2;have oZ:(0:Int)<(l.length:Int):=by omega
  go_enter func100,ntmps100;go_wp2_with fail;go_ret;exact⟨rfl,(ah w).alloc _⟩
 subst p2;by_cases p3:f=[]
 rotate_left
 ·have ME:0<f.length:=eF.2 p3;have MF:(0:Int)<(f.length:Int):=by omega
  go_enter func100,ntmps100;go_wp2_with fail;go_ret;exact⟨rfl,(ah w).alloc _⟩
 subst p3;exfalso;have ho:=HO.o;simp only[V.own,lj,ll,jO] at ho
 try simp at ho
 all_goals (first | omega | simp_all)
theorem akS(n:Nat)(b:List UInt8)(l:List V)(f:List (ByteArray×V))(w:World)(c:Cv)(ho:V.own 3 n b l.length f.length=false)(hv:In w (.mk 3 n b l f) c) :
 Calls prog 100 #[c.agg] w fun e w'=>e=.returned (.bool false)∧Grow w w':=by
 have HV:=aa hv;obtain⟨aB,aL,aF,cB,cL,cF,rfl,h1,h2,h3,h4,h5,h6,h7,h8,h9,hb⟩:=hv.open;have HB:=aa hb;clear hb hv;have HO:=aa ho;clear ho;by_cases p0:b=[]
 rotate_left
 ·have Tq:0<b.length:=eF.2 p0;have Tt:(0:Int)<(b.length:Int):=by omega
  go_enter func100,ntmps100;go_wp2_with fail;go_ret;exact⟨rfl,(ah w).alloc _⟩
 subst p0;by_cases p1:l=[]
 rotate_left
 ·have pS:0<l.length:=eF.2 p1;have pT:(0:Int)<(l.length:Int):=by omega
  go_enter func100,ntmps100;go_wp2_with fail;go_ret;exact⟨rfl,(ah w).alloc _⟩
 subst p1;by_cases p2:f=[]
 rotate_left
 ·have oY:0<f.length:=eF.2 p2;have oZ:(0:Int)<(f.length:Int):=by omega
  go_enter func100,ntmps100;go_wp2_with fail;go_ret;exact⟨rfl,(ah w).alloc _⟩
 subst p2;exfalso;have ho:=HO.o;simp only[V.own,lj,ll,jO] at ho
 try simp at ho
 all_goals (first | omega | simp_all)
theorem akT(n:Nat)(b:List UInt8)(l:List V)(f:List (ByteArray×V))(w:World)(c:Cv)(ho:V.own 4 n b l.length f.length=false)(hv:In w (.mk 4 n b l f) c) :
 Calls prog 100 #[c.agg] w fun e w'=>e=.returned (.bool false)∧Grow w w':=by
 have HV:=aa hv;obtain⟨aB,aL,aF,cB,cL,cF,rfl,h1,h2,h3,h4,h5,h6,h7,h8,h9,hb⟩:=hv.open;have HB:=aa hb;clear hb hv;have HO:=aa ho;clear ho;by_cases p0:b=[]
 rotate_left
 ·have Tq:0<b.length:=eF.2 p0;have Tt:(0:Int)<(b.length:Int):=by omega
  go_enter func100,ntmps100;go_wp2_with fail;go_ret;exact⟨rfl,(ah w).alloc _⟩
 subst p0;by_cases p1:l=[]
 rotate_left
 ·have pS:0<l.length:=eF.2 p1;have pT:(0:Int)<(l.length:Int):=by omega
  go_enter func100,ntmps100;go_wp2_with fail;go_ret;exact⟨rfl,(ah w).alloc _⟩
 subst p1;by_cases p2:f=[]
 rotate_left
 ·have oY:0<f.length:=eF.2 p2;have oZ:(0:Int)<(f.length:Int):=by omega
  go_enter func100,ntmps100;go_wp2_with fail;go_ret;exact⟨rfl,(ah w).alloc _⟩
 subst p2;exfalso;have ho:=HO.o;simp only[V.own,lj,ll,jO] at ho
 try simp at ho
 all_goals (first | omega | simp_all)
theorem akU(n:Nat)(b:List UInt8)(l:List V)(f:List (ByteArray×V))(w:World)(c:Cv)(ho:V.own 5 n b l.length f.length=false)(hv:In w (.mk 5 n b l f) c) :
 Calls prog 100 #[c.agg] w fun e w'=>e=.returned (.bool false)∧Grow w w':=by
 have HV:=aa hv;obtain⟨aB,aL,aF,cB,cL,cF,rfl,h1,h2,h3,h4,h5,h6,h7,h8,h9,hb⟩:=hv.open;have HB:=aa hb;clear hb hv;have HO:=aa ho;clear ho;by_cases p0:((n:Int) != 0)=true
 ·go_enter func100,ntmps100;go_wp2_with fail;go_ret;exact⟨rfl,(ah w).alloc _⟩
 have q0:((n:Int) != 0)=false:=by simpa using p0
 by_cases p1:l=[]
 rotate_left
 ·have pS:0<l.length:=eF.2 p1;have pT:(0:Int)<(l.length:Int):=by omega
  go_enter func100,ntmps100;go_wp2_with fail;go_ret;exact⟨rfl,(ah w).alloc _⟩
 subst p1;by_cases p2:f=[]
 rotate_left
 ·have oY:0<f.length:=eF.2 p2;have oZ:(0:Int)<(f.length:Int):=by omega
  go_enter func100,ntmps100;go_wp2_with fail;go_ret;exact⟨rfl,(ah w).alloc _⟩
 subst p2;by_cases p3:Lib.validD b=false
 ·have P:=aa p3;clear p3;go_enter func100,ntmps100;go_wp2_with fail;refine(Ta b aB cB _ (HB.o.grow ((ah w).alloc _)) (by omega)).mono ?_;rintro e w' ⟨rfl,rfl⟩;rw[P.o];go_wp2_with fail;go_ret;exact⟨rfl,(ah w).alloc _⟩
 have P:=aa p3;clear p3;exfalso;have ho:=HO.o;simp only[V.own,lj,ll,jO] at ho;have P2:=P.o
 try simp at ho
 all_goals (first | omega | simp_all)
theorem akV(n:Nat)(b:List UInt8)(l:List V)(f:List (ByteArray×V))(w:World)(c:Cv)(ho:V.own 6 n b l.length f.length=false)(hv:In w (.mk 6 n b l f) c) :
 Calls prog 100 #[c.agg] w fun e w'=>e=.returned (.bool false)∧Grow w w':=by
 have HV:=aa hv;obtain⟨aB,aL,aF,cB,cL,cF,rfl,h1,h2,h3,h4,h5,h6,h7,h8,h9,hb⟩:=hv.open;have HB:=aa hb;clear hb hv;have HO:=aa ho;clear ho;by_cases p0:((n:Int) != 0)=true
 ·go_enter func100,ntmps100;go_wp2_with fail;go_ret;exact⟨rfl,(ah w).alloc _⟩
 have q0:((n:Int) != 0)=false:=by simpa using p0
 by_cases p1:l=[]
 rotate_left
 ·have pS:0<l.length:=eF.2 p1;have pT:(0:Int)<(l.length:Int):=by omega
  go_enter func100,ntmps100;go_wp2_with fail;go_ret;exact⟨rfl,(ah w).alloc _⟩
 subst p1;by_cases p2:f=[]
 rotate_left
 ·have oY:0<f.length:=eF.2 p2;have oZ:(0:Int)<(f.length:Int):=by omega
  go_enter func100,ntmps100;go_wp2_with fail;go_ret;exact⟨rfl,(ah w).alloc _⟩
 subst p2;exfalso;have ho:=HO.o;simp only[V.own,lj,ll,jO] at ho
 try simp at ho
 all_goals (first | omega | simp_all)
theorem akW(n:Nat)(b:List UInt8)(l:List V)(f:List (ByteArray×V))(w:World)(c:Cv)(ho:V.own 7 n b l.length f.length=false)(hv:In w (.mk 7 n b l f) c) :
 Calls prog 100 #[c.agg] w fun e w'=>e=.returned (.bool false)∧Grow w w':=by
 have HV:=aa hv;obtain⟨aB,aL,aF,cB,cL,cF,rfl,h1,h2,h3,h4,h5,h6,h7,h8,h9,hb⟩:=hv.open;have HB:=aa hb;clear hb hv;have HO:=aa ho;clear ho;by_cases p0:((n:Int) != 0)=true
 ·go_enter func100,ntmps100;go_wp2_with fail;go_ret;exact⟨rfl,(ah w).alloc _⟩
 have q0:((n:Int) != 0)=false:=by simpa using p0
 by_cases p1:b=[]
 rotate_left
 ·have pS:0<b.length:=eF.2 p1;have pT:(0:Int)<(b.length:Int):=by omega
  go_enter func100,ntmps100;go_wp2_with fail;go_ret;exact⟨rfl,(ah w).alloc _⟩
 subst p1;by_cases p2:f=[]
 rotate_left
 ·have oY:0<f.length:=eF.2 p2;have oZ:(0:Int)<(f.length:Int):=by omega
  go_enter func100,ntmps100;go_wp2_with fail;go_ret;exact⟨rfl,(ah w).alloc _⟩
 subst p2;exfalso;have ho:=HO.o;simp only[V.own,lj,ll,jO] at ho
 try simp at ho
 all_goals (first | omega | simp_all)
theorem akX(n:Nat)(b:List UInt8)(l:List V)(f:List (ByteArray×V))(w:World)(c:Cv)(ho:V.own 8 n b l.length f.length=false)(hv:In w (.mk 8 n b l f) c) :
 Calls prog 100 #[c.agg] w fun e w'=>e=.returned (.bool false)∧Grow w w':=by
 have HV:=aa hv;obtain⟨aB,aL,aF,cB,cL,cF,rfl,h1,h2,h3,h4,h5,h6,h7,h8,h9,hb⟩:=hv.open;have HB:=aa hb;clear hb hv;have HO:=aa ho;clear ho;by_cases p0:((n:Int) != 0)=true
 ·go_enter func100,ntmps100;go_wp2_with fail;go_ret;exact⟨rfl,(ah w).alloc _⟩
 have q0:((n:Int) != 0)=false:=by simpa using p0
 by_cases p1:b=[]
 rotate_left
 ·have pS:0<b.length:=eF.2 p1;have pT:(0:Int)<(b.length:Int):=by omega
  go_enter func100,ntmps100;go_wp2_with fail;go_ret;exact⟨rfl,(ah w).alloc _⟩
 subst p1;by_cases p2:l=[]
 rotate_left
 ·have oY:0<l.length:=eF.2 p2;have oZ:(0:Int)<(l.length:Int):=by omega
  go_enter func100,ntmps100;go_wp2_with fail;go_ret;exact⟨rfl,(ah w).alloc _⟩
 subst p2;exfalso;have ho:=HO.o;simp only[V.own,lj,ll,jO] at ho
 try simp at ho
 all_goals (first | omega | simp_all)
theorem akY(k:Int)(n:Nat)(b:List UInt8)(l:List V)(f:List (ByteArray×V))(w:World)(c:Cv)(ho:V.own k n b l.length f.length=false)(hv:In w (.mk k n b l f) c) :
 Calls prog 100 #[c.agg] w fun e w'=>e=.returned (.bool false)∧Grow w w':=by
 by_cases hk:k<1∨8<k
 ·exact akP k n b l f w c hk hv
 have:k=1∨k=2∨k=3∨k=4∨k=5∨k=6∨k=7∨k=8:=by omega
 rcases this with rfl | rfl | rfl | rfl | rfl | rfl | rfl | rfl
 ·exact akQ n b l f w c ho hv
 ·exact akR n b l f w c ho hv
 ·exact akS n b l f w c ho hv
 ·exact akT n b l f w c ho hv
 ·exact akU n b l f w c ho hv
 ·exact akV n b l f w c ho hv
 ·exact akW n b l f w c ho hv
 exact akX n b l f w c ho hv
theorem akZ(w:World)(c:Cv)(hv:In w (.mk 1 0 [] [] []) c) :
 Calls prog 100 #[c.agg] w fun e w'=>e=.returned (.bool true)∧Grow w w':=by
 obtain⟨aB,aL,aF,cB,cL,cF,rfl,h1,h2,h3,h4,h5,h6,h7,h8,h9,hb⟩:=hv.open;clear hb hv;go_enter func100,ntmps100;go_wp2_with fail;refine fQ ?_;go_wp2_with fail;refine fQ ?_;go_wp2_with fail;go_ret;exact⟨rfl,(ah w).alloc _⟩
theorem ak0(n:Nat)(hn:n≤1)(w:World)(c:Cv)(hv:In w (.mk 2 n [] [] []) c) :
 Calls prog 100 #[c.agg] w fun e w'=>e=.returned (.bool true)∧Grow w w':=by
 obtain⟨aB,aL,aF,cB,cL,cF,rfl,h1,h2,h3,h4,h5,h6,h7,h8,h9,hb⟩:=hv.open;clear hb hv;go_enter func100,ntmps100;go_wp2_with fail;refine fQ ?_;go_wp2_with fail;refine fQ ?_;go_wp2_with fail;go_ret;exact⟨rfl,(ah w).alloc _⟩
theorem ak1(n:Nat)(w:World)(c:Cv)(hv:In w (.mk 3 n [] [] []) c) :
 Calls prog 100 #[c.agg] w fun e w'=>e=.returned (.bool true)∧Grow w w':=by
 obtain⟨aB,aL,aF,cB,cL,cF,rfl,h1,h2,h3,h4,h5,h6,h7,h8,h9,hb⟩:=hv.open;clear hb hv;go_enter func100,ntmps100;go_wp2_with fail;refine fQ ?_;go_wp2_with fail;refine fQ ?_;go_wp2_with fail;go_ret;exact⟨rfl,(ah w).alloc _⟩
theorem ak2(n:Nat)(w:World)(c:Cv)(hv:In w (.mk 4 n [] [] []) c) :
 Calls prog 100 #[c.agg] w fun e w'=>e=.returned (.bool true)∧Grow w w':=by
 obtain⟨aB,aL,aF,cB,cL,cF,rfl,h1,h2,h3,h4,h5,h6,h7,h8,h9,hb⟩:=hv.open;clear hb hv;go_enter func100,ntmps100;go_wp2_with fail;refine fQ ?_;go_wp2_with fail;refine fQ ?_;go_wp2_with fail;go_ret;exact⟨rfl,(ah w).alloc _⟩
theorem ak3(b:List UInt8)(w:World)(c:Cv)(hv:In w (.mk 6 0 b [] []) c) :
 Calls prog 100 #[c.agg] w fun e w'=>e=.returned (.bool true)∧Grow w w':=by
 obtain⟨aB,aL,aF,cB,cL,cF,rfl,h1,h2,h3,h4,h5,h6,h7,h8,h9,hb⟩:=hv.open;clear hb hv;go_enter func100,ntmps100;go_wp2_with fail;refine fQ ?_;go_wp2_with fail;refine fQ ?_;go_wp2_with fail;go_ret;exact⟨rfl,(ah w).alloc _⟩
theorem ak4(b:List UInt8)(hu:Lib.validD b=true)(w:World)(c:Cv)(hv:In w (.mk 5 0 b [] []) c) :
 Calls prog 100 #[c.agg] w fun e w'=>e=.returned (.bool true)∧Grow w w':=by
 have P:=aa hu;clear hu;obtain⟨aB,aL,aF,cB,cL,cF,rfl,h1,h2,h3,h4,h5,h6,h7,h8,h9,hb⟩:=hv.open;have HB:=aa hb;clear hb hv;go_enter func100,ntmps100;go_wp2_with fail;refine(Ta b aB cB _ (HB.o.grow ((ah w).alloc _)) (by omega)).mono ?_;rintro e w' ⟨rfl,rfl⟩;rw[P.o];go_wp2_with fail;refine fQ ?_;go_wp2_with fail;refine fQ ?_;go_wp2_with fail;go_ret;exact⟨rfl,(ah w).alloc _⟩
def Ty(x:V):Prop:=∀(w:World) (c:Cv),In w x c→Calls prog 100 #[c.agg] w fun e w'=>e=.returned (.bool x.formed)∧Grow w w'
theorem ak5(l:List V)(hl:∀x∈l,Ty x)(w:World)(c:Cv)(hv:In w (.mk 7 0 [] l []) c) :
 Calls prog 100 #[c.agg] w fun e w'=>e=.returned (.bool (l.all V.formed))∧Grow w w':=by
 have HV:=aa hv;have Hl:=aa hl;obtain⟨iD,eH⟩:∃A,l.all V.formed=A:=⟨_,rfl⟩;rw[eH];have HA:=aa eH;obtain⟨aB,aL,aF,cB,cL,cF,rfl,h1,h2,h3,h4,h5,h6,h7,h8,h9,hb⟩:=hv.open;clear hb h1 h2 h3 h4 h5 hv hl eH;go_enter func100,ntmps100;go_wp2_with fail;go_loopg [3] (l.length+1) (fun gk i wr=>∃j:Nat,j≤l.length∧gk+j=l.length+1∧i=.int .i64 j∧(l.take j).all V.formed=true ∧
  Grow w wr∧Blk wr w.heap.size 27 (Cv.cells ⟨7,0,aB,0,cB,aL,l.length,cL,aF,0,cF⟩))
 exact⟨0,by omega,by omega,rfl,rfl,(ah w).alloc _,aH _ _ _⟩;obtain⟨j,hj,hg,rfl,ht,hw,hB⟩:=hrel;obtain⟨gk',rfl⟩:=bP gk (by omega);have pC:=aa ht;have hc:=hB.cell;have hBl:=hB.lt;have HW:=aa hw;have HB:=aa hB;by_cases hlt:j<l.length
 ·obtain⟨bk,o,x,ha,hbk,e0,e1,e2,e3,e4,hx⟩:=In.fJ (HV.o.grow hw) j hlt;dsimp only at ha;subst ha;have HX:=aa hx;clear hw hx hB ht;go_wp2_with fail;refine(Hl.o _ (aY hlt) _ x HX.o).mono ?_;rintro e w' ⟨rfl,hb'⟩;have hgr:=aa hb';clear hb' e0 e1 e2 e3 e4 hc;obtain⟨R,hR⟩:∃R,l[j].formed=R:=⟨_,rfl⟩;rw[hR];have HR:=aa hR;clear hR
  cases R
  ·go_wp2_with fail;go_ret;refine⟨dm ?_,HW.o.trans hgr.o⟩;rw[← HA.o];exact(Cg.2 ⟨l[j],aY hlt,by rw[HR.o];exact Ce⟩).symm
  go_wp2_with fail;go_roundg gk';exact⟨j+1,by omega,by omega,by go_num,by rw[px l j hlt,EE,pC.o];simp[HR.o],HW.o.trans hgr.o,HB.o.grow hgr.o⟩;omega
 obtain rfl:j=l.length:=by omega
 have hA:iD=true:=by rw[← HA.o];rw[fC] at ht;exact ht
 subst hA;clear hw hB hlt hg ht;go_wp2_with fail;refine fQ ?_;go_wp2_with fail;go_ret;exact⟨rfl,HW.o⟩
def I8(f:List (ByteArray×V))(j:Nat):Prop:=(∀i (h:i<f.length),i<j→V.name f[i].1=true∧f[i].2.formed=true)∧∀i t (h:i<f.length) (h':t<f.length),i<t→t<j→f[i].1≠f[t].1
theorem I8.all{f:List (ByteArray×V)}(h:I8 f f.length):(f.all fun x=>V.name x.1&&x.2.formed)=true∧(f.map Prod.fst).Nodup:=by
 refine⟨nU.2 fun x hx=>?_,?_⟩
 ·obtain⟨i,hi,rfl⟩:=sJ.1 hx;rw[(h.1 i hi hi).1,(h.1 i hi hi).2];rfl
 rw[List.nodup_iff_pairwise_ne,Cq];intro i t hi ht hit;rw[jb,jb];exact h.2 i t (by simpa using hi) (by simpa using ht) hit (by simpa using ht)
theorem aa7{f:List (ByteArray×V)}{j:Nat}(hj:j<f.length)(h:V.name f[j].1=false∨f[j].2.formed=false):((f.all fun x=>V.name x.1&&x.2.formed)&&decide ((f.map Prod.fst).Nodup))=false:=by
 rw[lj];left;exact Cg.2 ⟨f[j],aY hj,by rcases h with h | h<;>simp[h]⟩
theorem ak6{f:List (ByteArray×V)}{m j:Nat}(hj:j<f.length)(hm:m<j)(h:f[m].1=f[j].1):((f.all fun x=>V.name x.1&&x.2.formed)&&decide ((f.map Prod.fst).Nodup))=false:=by
 rw[lj];right;rw[jO];intro hn;rw[List.nodup_iff_pairwise_ne,Cq] at hn;have:=hn m j (by simp;omega) (by simp;omega) hm;rw[jb,jb] at this;exact this h
theorem ak7(f:List (ByteArray×V))(hf:∀x∈f,Ty x.2)(w:World)(c:Cv)(hv:In w (.mk 8 0 [] [] f) c) :
 Calls prog 100 #[c.agg] w fun e w'=>e=.returned (.bool ((f.all fun x=>V.name x.1&&x.2.formed)&&decide ((f.map Prod.fst).Nodup)))∧Grow w w':=by
 have HV:=aa hv;have Hf:=aa hf;obtain⟨iD,eH⟩:∃A,((f.all fun x=>V.name x.1&&x.2.formed)&&decide ((f.map Prod.fst).Nodup))=A:=⟨_,rfl⟩;rw[eH];have HA:=aa eH;obtain⟨aB,aL,aF,cB,cL,cF,rfl,h1,h2,h3,h4,h5,h6,h7,h8,h9,hb⟩:=hv.open;clear hb h1 h2 h3 h4 h5 hv hf eH;go_enter func100,ntmps100;go_wp2_with fail;refine fQ ?_;go_wp2_with fail;go_loopg [4] (f.length+1) (fun gk i wr=>∃j:Nat,j≤f.length∧gk+j=f.length+1∧i=.int .i64 j∧I8 f j ∧
  Grow w wr∧Blk wr w.heap.size 27 (Cv.cells ⟨8,0,aB,0,cB,aL,0,cL,aF,f.length,cF⟩))
 exact⟨0,by omega,by omega,rfl,⟨fun i _ h=>absurd h (by omega),fun i t _ _ _ h=>absurd h (by omega)⟩,(ah w).alloc _,aH _ _ _⟩;obtain⟨j,hj,hg,rfl,ht,hw,hB⟩:=hrel;obtain⟨gk',rfl⟩:=bP gk (by omega);have pC:=aa ht;have hc:=hB.cell;have hBl:=hB.lt;have HW:=aa hw;have HB:=aa hB;by_cases hlt:j<f.length
 ·obtain⟨bk,o,x,ha,hbk,es,iA,e0,e1,e2,e3,e4,hx⟩:=In.iR (HV.o.grow hw) j hlt;dsimp only at ha;subst ha;have HX:=aa hx;clear hw hx hB ht;go_wp2_with fail;refine(QA f[j].1 _ iA).mono ?_;rintro e w1 ⟨rfl,hg1⟩;have eX:=HB.o.grow hg1;have HW1:=aa (HW.o.trans hg1);obtain⟨R,hR⟩:∃R,V.name f[j].1=R:=⟨_,rfl⟩;rw[hR];have HR:=aa hR;clear hR hc hBl;have hc1:=eX.cell;have ak8:=eX.lt;have aQ:=aa eX;have d0:=(hg1.below.cell (p:=⟨bk,o+j*6+1,none⟩) hbk).trans e0;have d1:=(hg1.below.cell (p:=⟨bk,o+j*6+1+1,none⟩) hbk).trans e1;have d2:=(hg1.below.cell (p:=⟨bk,o+j*6+1+2,none⟩) hbk).trans e2;have d3:=(hg1.below.cell (p:=⟨bk,o+j*6+1+3,none⟩) hbk).trans e3;have d4:=(hg1.below.cell (p:=⟨bk,o+j*6+1+4,none⟩) hbk).trans e4;have Da:=aa (HX.o.grow hg1)
  clear es e0 e1 e2 e3 e4 hg1 eX
  cases R
  ·go_wp2_with fail;go_ret;exact⟨dm (by rw[← HA.o];exact(aa7 hlt (.inl HR.o)).symm),HW1.o⟩
  go_wp2_with fail;refine(Hf.o _ (aY hlt) _ x Da.o).mono ?_;rintro e w2 ⟨rfl,hg2⟩;have dK:=aQ.o.grow hg2;have kD:=aa (HW1.o.trans hg2);obtain⟨R2,rF⟩:∃R,f[j].2.formed=R:=⟨_,rfl⟩;rw[rF];have bI:=aa rF;have aG:=aa dK;clear rF d0 d1 d2 d3 d4 hc1 ak8 dK hg2
  cases R2
  ·go_wp2_with fail;go_ret;exact⟨dm (by rw[← HA.o];exact(aa7 hlt (.inr bI.o)).symm),kD.o⟩
  go_wp2_with fail;go_loopg [5] (j+1) (fun gk i wr=>∃m:Nat,m≤j∧gk+m=j+1∧i=.int .i64 m∧(∀t (h:t<f.length),t<m→f[t].1≠f[j].1)∧Grow w2 wr);exact⟨0,by omega,by omega,rfl,fun t _ h=>absurd h (by omega),ah _⟩;obtain⟨m,hm,vV,rfl,hmt,i7⟩:=hrel;have cm:=aa i7;have mC:=aa (kD.o.trans i7);have aX:=aa (aG.o.grow i7);obtain⟨gm',rfl⟩:∃g,gk=g+1:=⟨gk-1,by omega⟩;have HMT:=aa hmt;clear hmt i7;by_cases hmj:m<j
  ·have hmf:m<f.length:=by omega
   obtain⟨vh,o2,x2,ha2,hbk2,NB,_,_⟩:=In.iR (HV.o.grow mC.o) j hlt;obtain⟨bk3,o3,x3,C9,amQ,es3,_,_⟩:=In.iR (HV.o.grow mC.o) m hmf;dsimp only at ha2 C9;injection ha2 with ha2;injection ha2 with q1 q2;subst q1 q2;injection C9 with C9;injection C9 with q1 q2;subst q1 q2;have hc2:=aX.o.cell;have amR:=aX.o.lt;by_cases hn:f[m].1=f[j].1
   ·have yB:(f[m].1.toList==f[j].1.toList)=true:=(yx _ _).2 hn;have HN:=aa hn;clear hn;go_wp2_with fail;go_quiet (fail);go_wp2_with fail;go_ret;exact⟨dm (by rw[← HA.o];exact(ak6 hlt hmj HN.o).symm),mC.o.drewN _⟩
   have yB:(f[m].1.toList==f[j].1.toList)=false:=by
    rw[MP];exact fun h=>hn ((yx _ _).1 h)
   have HN:=aa hn;clear hn;go_wp2_with fail;go_quiet (fail);go_wp2_with fail;go_roundg gm';refine⟨m+1,by omega,by omega,by go_num,fun t h1 h2=>?_,cm.o.drewN _⟩;rcases dH t m with h | h
   ·exact HMT.o t h1 h
   obtain rfl:t=m:=by omega
   exact HN.o;omega
  obtain rfl:m=j:=by omega
  clear hmj vV;go_wp2_with fail;go_roundg gk';refine⟨m+1,by omega,by omega,by go_num,⟨fun i h1 h2=>?_,fun i t h1 h2 h3 h4=>?_⟩,mC.o,aX.o⟩
  ·rcases dH i m with h | h
   ·exact pC.o.1 i h1 h
   obtain rfl:i=m:=by omega
   exact⟨HR.o,bI.o⟩
  rcases dH t m with h | h
  ·exact pC.o.2 i t h1 h2 h3 h
  obtain rfl:t=m:=by omega
  exact HMT.o i h1 h3;omega
 obtain rfl:j=f.length:=by omega
 have hA:iD=true:=by
  rw[← HA.o,(I8.all ht).1,sK];exact bT (I8.all ht).2
 subst hA;clear hw hB hlt hg ht;go_wp2_with fail;go_ret;exact⟨rfl,HW.o⟩
theorem abJ(v:V):Ty v:=by
 induction v using V.ind with
 | h k n b l f hl hf =>
  intro w c hv;rw[rh];by_cases ho:V.own k n b l.length f.length=false
  ·rw[ho];exact akY k n b l f w c ho hv
  have Mr:V.own k n b l.length f.length=true:=by simpa using ho
  simp only[V.own,gV,Jk,iy] at Mr;obtain⟨⟨⟨⟨⟨⟨a1,a2⟩,a3⟩,a4⟩,a5⟩,a6⟩,a7⟩:=Mr;have hL:k≠7→l=[]:=fun hk=>j4 (by omega)
  have hF:k≠8→f=[]:=fun hk=>j4 (by omega)
  have hB:k≠5→k≠6→b=[]:=fun h1 h2=>j4 (by omega)
  have hN:k≠2→k≠3→k≠4→n=0:=fun h1 h2 h3=>by omega
  have vN:V.own k n b l.length f.length=true:=by simpa using ho
  have hk:k=1∨k=2∨k=3∨k=4∨k=5∨k=6∨k=7∨k=8:=by omega
  rw[vN];rcases hk with rfl | rfl | rfl | rfl | rfl | rfl | rfl | rfl
  ·obtain rfl:=hL (by decide);obtain rfl:=hF (by decide);obtain rfl:=hB (by decide) (by decide);obtain rfl:=hN (by decide) (by decide) (by decide);simpa using akZ w c hv
  ·obtain rfl:=hL (by decide);obtain rfl:=hF (by decide);obtain rfl:=hB (by decide) (by decide);simpa using ak0 n (a3 rfl) w c hv
  ·obtain rfl:=hL (by decide);obtain rfl:=hF (by decide);obtain rfl:=hB (by decide) (by decide);simpa using ak1 n w c hv
  ·obtain rfl:=hL (by decide);obtain rfl:=hF (by decide);obtain rfl:=hB (by decide) (by decide);simpa using ak2 n w c hv
  ·obtain rfl:=hL (by decide);obtain rfl:=hF (by decide);obtain rfl:=hN (by decide) (by decide) (by decide);simpa using ak4 b (a5.resolve_left (by decide)) w c hv
  ·obtain rfl:=hL (by decide);obtain rfl:=hF (by decide);obtain rfl:=hN (by decide) (by decide) (by decide);simpa using ak3 b w c hv
  ·obtain rfl:=hF (by decide);obtain rfl:=hB (by decide) (by decide);obtain rfl:=hN (by decide) (by decide) (by decide);have:=ak5 l (fun x hx=>hl x hx) w c hv;simpa using this
  obtain rfl:=hL (by decide);obtain rfl:=hB (by decide) (by decide);obtain rfl:=hN (by decide) (by decide) (by decide);have:=ak7 f (fun x hx=>hf x hx) w c hv;simpa using this
end
section
open Go.RowKit Go.Shelf
theorem vo(k:Int)(w:World):Calls prog 158 #[.int .i64 k] w fun e w'=>e=.returned (.int .i64 (cls k))∧w=w':=by
 by_cases h:k=4
 ·subst h;go_enter func158,ntmps158;go_wp2_with fail;go_ret;exact⟨rfl,rfl⟩
 have hq:(k==4)=false:=by simpa using h
 have HC:=aa (show cls k=k by unfold cls;rw[ai h]);clear h;go_enter func158,ntmps158;go_wp2_with fail;go_ret;exact⟨dI HC.o.symm,rfl⟩
theorem Uk(a b:List UInt8)(A B:Option Addr)(c d:Nat)(w:World)(ha:ba w A a)(hb:ba w B b)(hl:a.length≤140737488355328)(hm:b.length≤140737488355328) :
 Calls prog 161 #[.slice A a.length c,.slice B b.length d] w fun e w'=>e=.returned (.int .i64 (Lib.compareBytes a b))∧Grow w w':=by
 have HA:=aa ha;have HB:=aa hb;clear ha hb;go_enter func161,ntmps161;go_wp2_with fail;go_loopg [5] (a.length+1) (fun gk i wr=>∃j:Nat,j≤a.length∧j≤b.length∧gk+j=a.length+1∧i=.int .i64 j∧a.take j=b.take j∧Grow w wr);exact⟨0,aS _,aS _,rfl,rfl,rfl,ah w⟩;obtain⟨j,hj,Fw,hg,rfl,htk,hgr⟩:=hrel;obtain⟨gk',rfl⟩:=bP gk (by omega);have ko:=aa htk;have HG:=aa hgr;clear htk hgr;by_cases h1:j<a.length
 ·by_cases h2:j<b.length
  ·obtain⟨bk,o,rfl,hbk,e0⟩:=(HA.o.grow HG.o).at_ j h1;obtain⟨wK,o',rfl,vd,JJ⟩:=(HB.o.grow HG.o).at_ j h2;by_cases hx:a[j]=b[j]
   ·have ak9:=aa (show a.take (j+1)=b.take (j+1) by rw[Jh h1,Jh h2,ko.o,hx]);rw[hx] at e0;clear hx;go_wp2_with fail;go_quiet (fail);go_wp2_with fail;go_roundg gk';exact⟨j+1,by omega,by omega,by omega,by go_num,ak9.o,HG.o.drewN _⟩;omega
   have HC:=aa (ajP ko.o h1 h2 hx);have hxq:((a[j].toNat:Int) != (b[j].toNat:Int))=true:=by have:=toNat_ne hx;simp;omega
   have hx1:=a[j].toNat_lt;have hx2:=b[j].toNat_lt;clear hx;go_wp2_with fail;go_quiet (fail);go_wp2_with fail;go_quiet ((go_at_call 159;exact JQ (qh _ _ _)));go_wp2_with fail;go_ret;exact⟨dI HC.o.symm,(HG.o.drewN _).drewN _⟩
  obtain rfl:j=b.length:=by omega
  have HC:=aa (aaQ (show a.take (min a.length b.length)=b.take (min a.length b.length) by rw[JB (by omega)];exact ko.o));go_wp2_with (go_at_call 159;refine(qh _ _ _).mono ?_;rintro e w' ⟨rfl,rfl⟩);go_ret;exact⟨dI HC.o.symm,HG.o⟩
 obtain rfl:j=a.length:=by omega
 have HC:=aa (aaQ (show a.take (min a.length b.length)=b.take (min a.length b.length) by rw[pW (by omega)];exact ko.o));go_wp2_with (go_at_call 159;refine(qh _ _ _).mono ?_;rintro e w' ⟨rfl,rfl⟩);go_ret;exact⟨dI HC.o.symm,HG.o⟩
end
end Go.Proofs.YtndjopkdbdcmdaaGreatDoor
