/- Part 7 of the proof of pfinds_card. -/
import Derived.Test.YtndjopkdbdcmdaaGreatDoorPfi3
import Derived.Test.YtndjopkdbdcmdaaGreatDoorPfi4
import Derived.Test.YtndjopkdbdcmdaaGreatDoorPfi5
import Derived.Test.YtndjopkdbdcmdaaGreatDoorPfi6
import Derived.Lib.ConvBytes
import Derived.Lib.SmallJoins
import Derived.StringKeys
import Derived.Laws.OwnMore
import Derived.RegionDies
import Derived.Deep.RegionLaw
import Derived.IntWalk
import Derived.Laws.BytesString
import Derived.Laws.BytesArg
import Derived.Recover
set_option linter.unusedVariables false
set_option linter.unusedSimpArgs false
set_option maxRecDepth 100000
set_option maxHeartbeats 12800000
open Go.Proofs.Tryz
namespace Go.Proofs.YtndjopkdbdcmdaaGreatDoor
section
open Go.RowKit Go.Shelf
theorem aka(w:World)(s:ByteArray):∃c W,(convert 9 23 (.string s)).run prog w=.ok (.slice (some ⟨w.heap.size,0,none⟩) s.size c) W∧Grow w W∧bA W (some ⟨w.heap.size,0,none⟩) s.data.toList:=by
 have hg:Grow w (Lib.bytesWorld w 5 s):=Go.Joins.below_bytesWorld _ w _ s (ay _);refine⟨_,_,Lib.run_convert_string_bytes w _ _ 5 s qz eH Da,hg,?_,?_⟩
 ·simp[bT]
 intro h0;refine⟨_,_,rfl,fun j u hu=>?_⟩;have hj:j<s.data.toList.length:=by
  have:=(kC.1 hu).1;simpa [bT] using this
 have hj':j<s.size:=by simpa using hj
 rw[xf _ j hj] at hu;injection hu with hu;subst hu;refine⟨?_,by simp,by rw[Lib.bytesWorld_size];simp⟩;rw[show (0:Nat)+j=j by omega,Lib.bytesWorld_cell w _ s j hj',jf,cJ hj];rfl
theorem Rg(s:ByteArray)(w:World)(hs:s.size≤140737488355328) :
 Calls prog 112 #[.string s] w fun e w'=>e=.returned (.bool (V.name s))∧Grow w w':=by
 obtain⟨iH,eW⟩:∃A,V.name s=A:=⟨_,rfl⟩;rw[eW];have HA:=aa eW;clear eW;go_enter func112,ntmps112;go_wp2_with fail;go_loopg [3] (s.size+1) (fun gk i wr=>w=wr∧∃j:Nat,j≤s.size∧gk+j=s.size+1∧i=.int .i64 j∧(s.data.toList.take j).all mP=true);exact⟨rfl,0,by omega,by omega,rfl,rfl⟩;obtain⟨rfl,j,hj,hg,rfl,hv⟩:=hrel;have HV:=aa hv;clear hv;by_cases hlt:j<s.size
 ·have hlt':j<s.data.toList.length:=by simpa using hlt
  obtain⟨x,hx⟩:∃x,s[j]=x:=⟨_,rfl⟩;have hx':s.data.toList[j]=x:=by rw[← hx];rfl
  have hnb:mP x=false→iH=false:=fun h=>by
   rw[← HA.o,V.name];have:s.data.toList.all (fun c=>decide (32≤c.toNat∧c.toNat≠46))=false:=CU.2 ⟨x,hx' ▸ aW hlt',by rw[show decide (32≤x.toNat∧x.toNat≠46)=mP x from rfl,h];exact CS⟩;rw[this];simp
  have HX:=aa hx';have HN:=aa hnb;clear hx' hnb;by_cases h1:x.toNat<32
  ·go_wp2_with fail;go_ret;exact⟨dE (HN.o (by simp[mP];omega)).symm,ah _⟩
  by_cases h2:x.toNat=46
  ·have JL:((x.toNat:Int)==46)=true:=by simp;omega
   go_wp2_with fail;go_ret;exact⟨dE (HN.o (by simp[mP];omega)).symm,ah _⟩
  have JL:((x.toNat:Int)==46)=false:=by simp;omega
  go_wp2_with fail;obtain⟨g',rfl⟩:∃g,gk=g+1:=⟨gk-1,by omega⟩;go_roundg g';exact⟨rfl,j+1,by omega,by omega,by go_num,by rw[J4 hlt',Fi,HV.o,HX.o];simp[mP];omega⟩;omega
 obtain rfl:j=s.size:=by omega
 have hall:s.data.toList.all mP=true:=by
  have:=HV.o;rwa [jD (by simp)] at this
 have hA:iH=(decide (1≤s.size∧s.size≤32)&&Lib.validD s.data.toList):=by
  rw[← HA.o,V.name];rw[show s.data.toList.all (fun c=>decide (32≤c.toNat∧c.toNat≠46))=true from hall];simp
 have H2:=aa hA;clear hall hA hlt;by_cases n1:1≤s.size
 ·by_cases n2:s.size≤32
  ·obtain⟨c,W,hrun,hgr,hin⟩:=aka w s;have aH:=aa hgr;have Ea:=aa hin;clear hgr hin;go_wp2_with fail;refine(T4 s.data.toList (some ⟨w.heap.size,0,none⟩) c W Ea.o (by simpa using hs)).mono ?_;rintro e w' ⟨rfl,rfl⟩;go_wp2_with fail;go_ret;exact⟨dE (by rw[H2.o,bW ⟨n1,n2⟩];rfl),aH.o⟩
  go_wp2_with fail;go_ret;exact⟨dE (by rw[H2.o,bX (by omega)];rfl),ah _⟩
 go_wp2_with fail;go_ret;exact⟨dE (by rw[H2.o,bX (by omega)];rfl),ah _⟩
theorem akb(x:Nat)(w:World)(hx:x≤1114111) :
 Calls prog 132 #[.int .i32 x] w fun e w'=>e=.returned (.bool (tj x))∧w=w':=by
 by_cases h1:x<32
 ·go_enter func132,ntmps132;go_wp2_with fail;go_ret;exact⟨dE (by unfold tj;apply Fg.2;simp only[iC,true_iff];omega),rfl⟩
 by_cases h2:x=46
 ·have JL:((x:Int)==46)=true:=by simp;omega
  go_enter func132,ntmps132;go_wp2_with fail;go_ret;exact⟨dE (by unfold tj;apply Fg.2;simp only[iC,true_iff];omega),rfl⟩
 have JL:((x:Int)==46)=false:=by simp;omega
 go_enter func132,ntmps132;go_wp2_with fail;go_ret;exact⟨dE (by unfold tj;apply Fg.2;simp only[iC];omega),rfl⟩
def eP(w:World):Prop:=Lib.Utf8Tabs 0 1 w
theorem eP.grow{w w':World}(h:eP w)(hg:Grow w w'):eP w':=Utf8Tabs_below h hg
theorem Yt(s:ByteArray)(w:World)(hT:eP w) :
 Calls prog 89 #[.string s] w fun e w'=>e=.returned (.bool (V.name s))∧Grow w w':=by
 have hE:s.toList=s.data.toList:=ByteArray.toList_eq s;have hsz:s.data.toList.length=s.size:=rfl;obtain⟨iH,eW⟩:∃A,V.name s=A:=⟨_,rfl⟩;rw[eW];have HA:=aa (eW.symm.trans (show V.name s=(decide (1≤s.size∧s.size≤32)&&s.data.toList.all mP&&Lib.validD s.data.toList) from rfl));have HT:=aa hT;clear eW hT;by_cases h0:s.size=0
 ·have hem:s.toList.isEmpty=true:=by rw[hE];exact List.isEmpty_iff.2 (lC (by omega))
  clear hE hsz;go_enter func89,ntmps89;go_wp2_with fail;go_ret;exact⟨dE (by rw[HA.o,bX (by omega)];rfl),ah _⟩
 have hem:s.toList.isEmpty=false:=by
  rw[hE]
  cases h:s.data.toList with
  | nil=>rw[h] at hsz;simp at hsz;omega
  | cons x xs=>rfl
 clear hE hsz;by_cases h1:s.size≤32
 ·have cV:Calls prog 130 #[.string s] w _:=Any.utf8_ValidString VA s w (by omega) HT.o;obtain⟨VD,T5⟩:∃v,Lib.validD s.data.toList=v:=⟨_,rfl⟩;rw[T5] at cV;have H1:=aa cV;have H2:=aa T5;clear cV T5
  cases VD
  ·go_enter func89,ntmps89;go_wp2_with fail;refine H1.o.mono ?_;rintro e w' ⟨rfl,hg⟩;have HG:=aa hg;clear hg;go_wp2_with fail;go_ret;exact⟨dE (by rw[HA.o,H2.o,Bool.and_false]),HG.o⟩
  go_enter func89,ntmps89;go_wp2_with fail;refine H1.o.mono ?_;rintro e w' ⟨rfl,hg⟩;have HG:=aa hg;clear hg;go_wp2_with fail;have cF:=Any.strings_ContainsFunc_grows ajQ 132 #[] (enters_of func132 (by kernel_rfl) rfl) tj s w' (fun W x hx hb=>(akb x W hx).mono fun _ _ h=>⟨h.1,h.2 ▸ jZ _ _⟩);refine(show Calls prog 131 #[.string s,.func (.func 132) #[] #[]] w' _ from cF).mono ?_;rintro e w2 ⟨rfl,hg2⟩;have HG2:=aa hg2;clear hg2 cF;go_wp2_with fail;go_ret;exact⟨dE (by rw[HA.o,H2.o,Bool.and_true,bW (p:=1≤s.size∧s.size≤32) (by omega),rN];exact ahC s H2.o),tO HG.o HG2.o⟩
 go_enter func89,ntmps89;go_wp2_with fail;go_ret;exact⟨dE (by rw[HA.o,bX (by omega)];rfl),ah _⟩
end
section
open Go.RowKit Go.Shelf Go.Maps
theorem akc(k:Int)(n:Nat)(b:List UInt8)(l:List V)(f:List (ByteArray×V))(w:World)(c:Cv)(hk:k<1∨8<k)(hT:eP w)(hv:In w (.mk k n b l f) c) :
 Calls prog 43 #[c.agg] w fun e w'=>e=.returned (.bool false)∧Grow w w':=by
 have HV:=aa hv;have HT:=aa hT;obtain⟨aB,aL,aF,cB,cL,cF,rfl,h1,h2,h3,h4,h5,h6,h7,h8,h9,hb⟩:=hv.open;have HB:=aa hb;clear hb hv hT;rcases hk with hk | hk
 all_goals
  go_enter func43,ntmps43
  go_wp2_with fail
  go_ret
  exact⟨rfl,(ah w).alloc _⟩
theorem akd(n:Nat)(b:List UInt8)(l:List V)(f:List (ByteArray×V))(w:World)(c:Cv)(ho:V.own 1 n b l.length f.length=false)(hT:eP w)(hv:In w (.mk 1 n b l f) c) :
 Calls prog 43 #[c.agg] w fun e w'=>e=.returned (.bool false)∧Grow w w':=by
 have HV:=aa hv;have HT:=aa hT;obtain⟨aB,aL,aF,cB,cL,cF,rfl,h1,h2,h3,h4,h5,h6,h7,h8,h9,hb⟩:=hv.open;have HB:=aa hb;clear hb hv hT;have HO:=aa ho;clear ho;by_cases p0:((n:Int) != 0)=true
 ·go_enter func43,ntmps43;go_wp2_with fail;go_ret;exact⟨rfl,(ah w).alloc _⟩
 have q0:((n:Int) != 0)=false:=by simpa using p0
 by_cases p1:b=[]
 rotate_left
 ·have qj:0<b.length:=eT.2 p1;have ql:(0:Int)<(b.length:Int):=by omega
  go_enter func43,ntmps43;go_wp2_with fail;go_ret;exact⟨rfl,(ah w).alloc _⟩
 subst p1;by_cases p2:l=[]
 rotate_left
 ·have pB:0<l.length:=eT.2 p2;have pC:(0:Int)<(l.length:Int):=by omega
  go_enter func43,ntmps43;go_wp2_with fail;go_ret;exact⟨rfl,(ah w).alloc _⟩
 subst p2;by_cases p3:f=[]
 rotate_left
 ·have Nw:0<f.length:=eT.2 p3;have Ny:(0:Int)<(f.length:Int):=by omega
  go_enter func43,ntmps43;go_wp2_with fail;go_ret;exact⟨rfl,(ah w).alloc _⟩
 subst p3;exfalso;have ho:=HO.o;simp only[V.own,lD,lF,j4] at ho
 try simp at ho
 all_goals (first | omega | simp_all)
theorem ake(n:Nat)(b:List UInt8)(l:List V)(f:List (ByteArray×V))(w:World)(c:Cv)(ho:V.own 2 n b l.length f.length=false)(hT:eP w)(hv:In w (.mk 2 n b l f) c) :
 Calls prog 43 #[c.agg] w fun e w'=>e=.returned (.bool false)∧Grow w w':=by
 have HV:=aa hv;have HT:=aa hT;obtain⟨aB,aL,aF,cB,cL,cF,rfl,h1,h2,h3,h4,h5,h6,h7,h8,h9,hb⟩:=hv.open;have HB:=aa hb;clear hb hv hT;have HO:=aa ho;clear ho;by_cases p0:(1:Int)<(n:Int)
 ·go_enter func43,ntmps43;go_wp2_with fail;go_ret;exact⟨rfl,(ah w).alloc _⟩
 have q0:¬ ((1:Int)<(n:Int)):=p0;by_cases p1:b=[]
 rotate_left
 ·have qj:0<b.length:=eT.2 p1;have ql:(0:Int)<(b.length:Int):=by omega
  go_enter func43,ntmps43;go_wp2_with fail;go_ret;exact⟨rfl,(ah w).alloc _⟩
 subst p1;by_cases p2:l=[]
 rotate_left
 ·have pB:0<l.length:=eT.2 p2;have pC:(0:Int)<(l.length:Int):=by omega
  go_enter func43,ntmps43;go_wp2_with fail;go_ret;exact⟨rfl,(ah w).alloc _⟩
 subst p2;by_cases p3:f=[]
 rotate_left
 ·have Nw:0<f.length:=eT.2 p3;have Ny:(0:Int)<(f.length:Int):=by omega
  go_enter func43,ntmps43;go_wp2_with fail;go_ret;exact⟨rfl,(ah w).alloc _⟩
 subst p3;exfalso;have ho:=HO.o;simp only[V.own,lD,lF,j4] at ho
 try simp at ho
 all_goals (first | omega | simp_all)
theorem akf(n:Nat)(b:List UInt8)(l:List V)(f:List (ByteArray×V))(w:World)(c:Cv)(ho:V.own 3 n b l.length f.length=false)(hT:eP w)(hv:In w (.mk 3 n b l f) c) :
 Calls prog 43 #[c.agg] w fun e w'=>e=.returned (.bool false)∧Grow w w':=by
 have HV:=aa hv;have HT:=aa hT;obtain⟨aB,aL,aF,cB,cL,cF,rfl,h1,h2,h3,h4,h5,h6,h7,h8,h9,hb⟩:=hv.open;have HB:=aa hb;clear hb hv hT;have HO:=aa ho;clear ho;by_cases p0:b=[]
 rotate_left
 ·have T6:0<b.length:=eT.2 p0;have T7:(0:Int)<(b.length:Int):=by omega
  go_enter func43,ntmps43;go_wp2_with fail;go_ret;exact⟨rfl,(ah w).alloc _⟩
 subst p0;by_cases p1:l=[]
 rotate_left
 ·have qj:0<l.length:=eT.2 p1;have ql:(0:Int)<(l.length:Int):=by omega
  go_enter func43,ntmps43;go_wp2_with fail;go_ret;exact⟨rfl,(ah w).alloc _⟩
 subst p1;by_cases p2:f=[]
 rotate_left
 ·have pB:0<f.length:=eT.2 p2;have pC:(0:Int)<(f.length:Int):=by omega
  go_enter func43,ntmps43;go_wp2_with fail;go_ret;exact⟨rfl,(ah w).alloc _⟩
 subst p2;exfalso;have ho:=HO.o;simp only[V.own,lD,lF,j4] at ho
 try simp at ho
 all_goals (first | omega | simp_all)
theorem akg(n:Nat)(b:List UInt8)(l:List V)(f:List (ByteArray×V))(w:World)(c:Cv)(ho:V.own 4 n b l.length f.length=false)(hT:eP w)(hv:In w (.mk 4 n b l f) c) :
 Calls prog 43 #[c.agg] w fun e w'=>e=.returned (.bool false)∧Grow w w':=by
 have HV:=aa hv;have HT:=aa hT;obtain⟨aB,aL,aF,cB,cL,cF,rfl,h1,h2,h3,h4,h5,h6,h7,h8,h9,hb⟩:=hv.open;have HB:=aa hb;clear hb hv hT;have HO:=aa ho;clear ho;by_cases p0:b=[]
 rotate_left
 ·have T6:0<b.length:=eT.2 p0;have T7:(0:Int)<(b.length:Int):=by omega
  go_enter func43,ntmps43;go_wp2_with fail;go_ret;exact⟨rfl,(ah w).alloc _⟩
 subst p0;by_cases p1:l=[]
 rotate_left
 ·have qj:0<l.length:=eT.2 p1;have ql:(0:Int)<(l.length:Int):=by omega
  go_enter func43,ntmps43;go_wp2_with fail;go_ret;exact⟨rfl,(ah w).alloc _⟩
 subst p1;by_cases p2:f=[]
 rotate_left
 ·have pB:0<f.length:=eT.2 p2;have pC:(0:Int)<(f.length:Int):=by omega
  go_enter func43,ntmps43;go_wp2_with fail;go_ret;exact⟨rfl,(ah w).alloc _⟩
 subst p2;exfalso;have ho:=HO.o;simp only[V.own,lD,lF,j4] at ho
 try simp at ho
 all_goals (first | omega | simp_all)
theorem akh(n:Nat)(b:List UInt8)(l:List V)(f:List (ByteArray×V))(w:World)(c:Cv)(ho:V.own 5 n b l.length f.length=false)(hT:eP w)(hv:In w (.mk 5 n b l f) c) :
 Calls prog 43 #[c.agg] w fun e w'=>e=.returned (.bool false)∧Grow w w':=by
 have HV:=aa hv;have HT:=aa hT;obtain⟨aB,aL,aF,cB,cL,cF,rfl,h1,h2,h3,h4,h5,h6,h7,h8,h9,hb⟩:=hv.open;have HB:=aa hb;clear hb hv hT;have HO:=aa ho;clear ho;by_cases p0:((n:Int) != 0)=true
 ·go_enter func43,ntmps43;go_wp2_with fail;go_ret;exact⟨rfl,(ah w).alloc _⟩
 have q0:((n:Int) != 0)=false:=by simpa using p0
 by_cases p1:Lib.validD b=false
 ·have P:=aa p1;clear p1;go_enter func43,ntmps43;go_wp2_with fail;refine(Ni b aB cB _ (HB.o.grow ((ah w).alloc _)) (by omega) (by omega) (HT.o.grow ((ah w).alloc _))).mono ?_;rintro e w' ⟨rfl,hg⟩;rw[P.o];have HG:=aa hg;clear hg;go_wp2_with fail;go_ret;exact⟨rfl,((ah w).alloc _).trans HG.o⟩
 have P:=aa p1;clear p1;by_cases p2:l=[]
 rotate_left
 ·have pB:0<l.length:=eT.2 p2;have pC:(0:Int)<(l.length:Int):=by omega
  go_enter func43,ntmps43;go_wp2_with fail;refine(Ni b aB cB _ (HB.o.grow ((ah w).alloc _)) (by omega) (by omega) (HT.o.grow ((ah w).alloc _))).mono ?_;rintro e w' ⟨rfl,hg⟩;rw[eq_true_of_ne_false P.o];have hB:Blk w' w.heap.size 27 _:=(aD _ _ _).grow hg;have hc:=hB.cell;have HG:=aa hg;clear hg hB;go_wp2_with fail;go_ret;exact⟨rfl,((ah w).alloc _).trans HG.o⟩
 subst p2;by_cases p3:f=[]
 rotate_left
 ·have Nw:0<f.length:=eT.2 p3;have Ny:(0:Int)<(f.length:Int):=by omega
  go_enter func43,ntmps43;go_wp2_with fail;refine(Ni b aB cB _ (HB.o.grow ((ah w).alloc _)) (by omega) (by omega) (HT.o.grow ((ah w).alloc _))).mono ?_;rintro e w' ⟨rfl,hg⟩;rw[eq_true_of_ne_false P.o];have hB:Blk w' w.heap.size 27 _:=(aD _ _ _).grow hg;have hc:=hB.cell;have HG:=aa hg;clear hg hB;go_wp2_with fail;go_ret;exact⟨rfl,((ah w).alloc _).trans HG.o⟩
 subst p3;exfalso;have ho:=HO.o;simp only[V.own,lD,lF,j4] at ho;have P2:=P.o
 try simp at ho
 all_goals (first | omega | simp_all)
theorem aki(n:Nat)(b:List UInt8)(l:List V)(f:List (ByteArray×V))(w:World)(c:Cv)(ho:V.own 6 n b l.length f.length=false)(hT:eP w)(hv:In w (.mk 6 n b l f) c) :
 Calls prog 43 #[c.agg] w fun e w'=>e=.returned (.bool false)∧Grow w w':=by
 have HV:=aa hv;have HT:=aa hT;obtain⟨aB,aL,aF,cB,cL,cF,rfl,h1,h2,h3,h4,h5,h6,h7,h8,h9,hb⟩:=hv.open;have HB:=aa hb;clear hb hv hT;have HO:=aa ho;clear ho;by_cases p0:((n:Int) != 0)=true
 ·go_enter func43,ntmps43;go_wp2_with fail;go_ret;exact⟨rfl,(ah w).alloc _⟩
 have q0:((n:Int) != 0)=false:=by simpa using p0
 by_cases p1:l=[]
 rotate_left
 ·have qj:0<l.length:=eT.2 p1;have ql:(0:Int)<(l.length:Int):=by omega
  go_enter func43,ntmps43;go_wp2_with fail;go_ret;exact⟨rfl,(ah w).alloc _⟩
 subst p1;by_cases p2:f=[]
 rotate_left
 ·have pB:0<f.length:=eT.2 p2;have pC:(0:Int)<(f.length:Int):=by omega
  go_enter func43,ntmps43;go_wp2_with fail;go_ret;exact⟨rfl,(ah w).alloc _⟩
 subst p2;exfalso;have ho:=HO.o;simp only[V.own,lD,lF,j4] at ho
 try simp at ho
 all_goals (first | omega | simp_all)
theorem akj(n:Nat)(b:List UInt8)(l:List V)(f:List (ByteArray×V))(w:World)(c:Cv)(ho:V.own 7 n b l.length f.length=false)(hT:eP w)(hv:In w (.mk 7 n b l f) c) :
 Calls prog 43 #[c.agg] w fun e w'=>e=.returned (.bool false)∧Grow w w':=by
 have HV:=aa hv;have HT:=aa hT;obtain⟨aB,aL,aF,cB,cL,cF,rfl,h1,h2,h3,h4,h5,h6,h7,h8,h9,hb⟩:=hv.open;have HB:=aa hb;clear hb hv hT;have HO:=aa ho;clear ho;by_cases p0:((n:Int) != 0)=true
 ·go_enter func43,ntmps43;go_wp2_with fail;go_ret;exact⟨rfl,(ah w).alloc _⟩
 have q0:((n:Int) != 0)=false:=by simpa using p0
 by_cases p1:b=[]
 rotate_left
 ·have qj:0<b.length:=eT.2 p1;have ql:(0:Int)<(b.length:Int):=by omega
  go_enter func43,ntmps43;go_wp2_with fail;go_ret;exact⟨rfl,(ah w).alloc _⟩
 subst p1;by_cases p2:f=[]
 rotate_left
 ·have pB:0<f.length:=eT.2 p2;have pC:(0:Int)<(f.length:Int):=by omega
  go_enter func43,ntmps43;go_wp2_with fail;go_ret;exact⟨rfl,(ah w).alloc _⟩
 subst p2;exfalso;have ho:=HO.o;simp only[V.own,lD,lF,j4] at ho
 try simp at ho
 all_goals (first | omega | simp_all)
theorem akk(n:Nat)(b:List UInt8)(l:List V)(f:List (ByteArray×V))(w:World)(c:Cv)(ho:V.own 8 n b l.length f.length=false)(hT:eP w)(hv:In w (.mk 8 n b l f) c) :
 Calls prog 43 #[c.agg] w fun e w'=>e=.returned (.bool false)∧Grow w w':=by
 have HV:=aa hv;have HT:=aa hT;obtain⟨aB,aL,aF,cB,cL,cF,rfl,h1,h2,h3,h4,h5,h6,h7,h8,h9,hb⟩:=hv.open;have HB:=aa hb;clear hb hv hT;have HO:=aa ho;clear ho;by_cases p0:((n:Int) != 0)=true
 ·go_enter func43,ntmps43;go_wp2_with fail;go_ret;exact⟨rfl,(ah w).alloc _⟩
 have q0:((n:Int) != 0)=false:=by simpa using p0
 by_cases p1:b=[]
 rotate_left
 ·have qj:0<b.length:=eT.2 p1;have ql:(0:Int)<(b.length:Int):=by omega
  go_enter func43,ntmps43;go_wp2_with fail;go_ret;exact⟨rfl,(ah w).alloc _⟩
 subst p1;by_cases p2:l=[]
 rotate_left
 ·have pB:0<l.length:=eT.2 p2;have pC:(0:Int)<(l.length:Int):=by omega
  go_enter func43,ntmps43;go_wp2_with fail;go_ret;exact⟨rfl,(ah w).alloc _⟩
 subst p2;exfalso;have ho:=HO.o;simp only[V.own,lD,lF,j4] at ho
 try simp at ho
 all_goals (first | omega | simp_all)
theorem akl(k:Int)(n:Nat)(b:List UInt8)(l:List V)(f:List (ByteArray×V))(w:World)(c:Cv)(ho:V.own k n b l.length f.length=false)(hT:eP w)(hv:In w (.mk k n b l f) c) :
 Calls prog 43 #[c.agg] w fun e w'=>e=.returned (.bool false)∧Grow w w':=by
 by_cases hk:k<1∨8<k
 ·exact akc k n b l f w c hk hT hv
 have:k=1∨k=2∨k=3∨k=4∨k=5∨k=6∨k=7∨k=8:=by omega
 rcases this with rfl | rfl | rfl | rfl | rfl | rfl | rfl | rfl
 ·exact akd n b l f w c ho hT hv
 ·exact ake n b l f w c ho hT hv
 ·exact akf n b l f w c ho hT hv
 ·exact akg n b l f w c ho hT hv
 ·exact akh n b l f w c ho hT hv
 ·exact aki n b l f w c ho hT hv
 ·exact akj n b l f w c ho hT hv
 exact akk n b l f w c ho hT hv
end
section
open Go.RowKit Go.Shelf Go.Maps Go.WideMaps
theorem aba:prog.underlying 137=some (.map 9 138):=by kernel_rfl
theorem abb{w:World}{b n:Nat}{D:DataW Unit}(h:w.ownsMap prog 9 unitElem b n D):(Builtin.len_ #[137] 3 #[.map (some b)]).run prog w=.ok (.int .i64 (Maps.size D)) w:=h.len aba _
theorem abc(w:World):(w.alloc (.map #[] 0)).ownsMap prog 9 unitElem w.heap.size 0 (NS []):=World.ownsMap_made _ _ _ _
theorem akm(w:World)(o:Obj):((w.alloc o).alloc (.map #[] 0)).ownsMap prog 9 unitElem (w.heap.size+1) 0 (NS []):=by
 have h:=abc (w.alloc o);have e:(w.alloc o).heap.size=w.heap.size+1:=by simp
 rw[e] at h;exact h
theorem abd{w w':World}{b n:Nat}{D:DataW Unit}(h:w.ownsMap prog 9 unitElem b n D)(hg:Grow w w'):w'.ownsMap prog 9 unitElem b n D:=by
 obtain⟨es,clock,hb,r⟩:=h;have hlt:b<w.heap.size:=by
  rcases fh b w.heap.size with hlt | hge
  ·exact hlt
  exact absurd ((tD hge).symm.trans hb) (by simp)
 exact⟨es,clock,(Below.block hg b hlt).trans hb,r⟩
theorem Blk.grownBy{w w':World}{g r:Nat}{t:TypeId}{cs:Array Value}(h:Blk w g t cs)(hg:w.grownBy w' (some r))(hne:g≠r):Blk w' g t cs:=by
 unfold Blk at h ⊢;rw[hg.block g (Blk.lt h) (fun e=>hne (mU e))];exact h
theorem T8(w:World):(Builtin.len_ #[137] 3 #[.map (some w.heap.size)]).run prog (w.alloc (.map #[] 0))=.ok (.int .i64 0) (w.alloc (.map #[] 0)):=abb (abc w)
theorem JQ(w:World)(o:Obj):(Builtin.len_ #[137] 3 #[.map (some (w.heap.size+1))]).run prog ((w.alloc o).alloc (.map #[] 0))=.ok (.int .i64 0) ((w.alloc o).alloc (.map #[] 0)):=by
 have h:=T8 (w.alloc o);have e:(w.alloc o).heap.size=w.heap.size+1:=by simp
 rw[e] at h;exact h
theorem akn(w:World)(c:Cv)(hv:In w (.mk 1 0 [] [] []) c) :
 Calls prog 43 #[c.agg] w fun e w'=>e=.returned (.bool true)∧Grow w w':=by
 obtain⟨aB,aL,aF,cB,cL,cF,rfl,h1,h2,h3,h4,h5,h6,h7,h8,h9,hb⟩:=hv.open;clear hb hv;have hmm:=@run_makeMap prog;have jn:=JQ w;go_enter func43,ntmps43;go_wp2_with fail;refine fW ?_;go_wp2_with fail;refine fW ?_;go_wp2_with fail;go_ret;exact⟨rfl,((ah w).alloc _).alloc _⟩
theorem ako(n:Nat)(hn:n≤1)(w:World)(c:Cv)(hv:In w (.mk 2 n [] [] []) c) :
 Calls prog 43 #[c.agg] w fun e w'=>e=.returned (.bool true)∧Grow w w':=by
 obtain⟨aB,aL,aF,cB,cL,cF,rfl,h1,h2,h3,h4,h5,h6,h7,h8,h9,hb⟩:=hv.open;clear hb hv;have hmm:=@run_makeMap prog;have jn:=JQ w;go_enter func43,ntmps43;go_wp2_with fail;refine fW ?_;go_wp2_with fail;refine fW ?_;go_wp2_with fail;go_ret;exact⟨rfl,((ah w).alloc _).alloc _⟩
theorem akp(n:Nat)(w:World)(c:Cv)(hv:In w (.mk 3 n [] [] []) c) :
 Calls prog 43 #[c.agg] w fun e w'=>e=.returned (.bool true)∧Grow w w':=by
 obtain⟨aB,aL,aF,cB,cL,cF,rfl,h1,h2,h3,h4,h5,h6,h7,h8,h9,hb⟩:=hv.open;clear hb hv;have hmm:=@run_makeMap prog;have jn:=JQ w;go_enter func43,ntmps43;go_wp2_with fail;refine fW ?_;go_wp2_with fail;refine fW ?_;go_wp2_with fail;go_ret;exact⟨rfl,((ah w).alloc _).alloc _⟩
theorem akq(n:Nat)(w:World)(c:Cv)(hv:In w (.mk 4 n [] [] []) c) :
 Calls prog 43 #[c.agg] w fun e w'=>e=.returned (.bool true)∧Grow w w':=by
 obtain⟨aB,aL,aF,cB,cL,cF,rfl,h1,h2,h3,h4,h5,h6,h7,h8,h9,hb⟩:=hv.open;clear hb hv;have hmm:=@run_makeMap prog;have jn:=JQ w;go_enter func43,ntmps43;go_wp2_with fail;refine fW ?_;go_wp2_with fail;refine fW ?_;go_wp2_with fail;go_ret;exact⟨rfl,((ah w).alloc _).alloc _⟩
theorem akr(b:List UInt8)(w:World)(c:Cv)(hv:In w (.mk 6 0 b [] []) c) :
 Calls prog 43 #[c.agg] w fun e w'=>e=.returned (.bool true)∧Grow w w':=by
 obtain⟨aB,aL,aF,cB,cL,cF,rfl,h1,h2,h3,h4,h5,h6,h7,h8,h9,hb⟩:=hv.open;clear hb hv;have hmm:=@run_makeMap prog;have jn:=JQ w;go_enter func43,ntmps43;go_wp2_with fail;refine fW ?_;go_wp2_with fail;refine fW ?_;go_wp2_with fail;go_ret;exact⟨rfl,((ah w).alloc _).alloc _⟩
theorem aks(b:List UInt8)(hu:Lib.validD b=true)(w:World)(c:Cv)(hT:eP w)(hv:In w (.mk 5 0 b [] []) c) :
 Calls prog 43 #[c.agg] w fun e w'=>e=.returned (.bool true)∧Grow w w':=by
 have HT:=aa hT;have HU:=aa hu;obtain⟨aB,aL,aF,cB,cL,cF,rfl,h1,h2,h3,h4,h5,h6,h7,h8,h9,hb⟩:=hv.open;have HB:=aa hb;clear hb hv hT hu;have hmm:=@run_makeMap prog;have jn:=T8;go_enter func43,ntmps43;go_wp2_with fail;refine(Ni b aB cB _ (HB.o.grow ((ah w).alloc _)) (by omega) (by omega) (HT.o.grow ((ah w).alloc _))).mono ?_;rintro e w' ⟨rfl,hg⟩;rw[HU.o];have hB:Blk w' w.heap.size 27 _:=(aD _ _ _).grow hg;have hc:=hB.cell;have hBl:=hB.lt;have HG:=aa hg;clear hg hB;go_wp2_with fail;refine fW ?_;go_wp2_with fail;refine fW ?_;go_wp2_with fail;go_ret;exact⟨rfl,(((ah w).alloc _).trans HG.o).alloc _⟩
theorem akt(l:List V)(hl:∀x∈l,∀(w:World) (c:Cv),eP w→In w x c→Calls prog 43 #[c.agg] w fun e w'=>e=.returned (.bool x.formed)∧Grow w w')
 (w:World) (c:Cv) (hT:eP w) (hv:In w (.mk 7 0 [] l []) c) :
 Calls prog 43 #[c.agg] w fun e w'=>e=.returned (.bool (l.all V.formed))∧Grow w w':=by
 have HV:=aa hv;have HT:=aa hT;have Hl:=aa hl;obtain⟨iH,eW⟩:∃A,l.all V.formed=A:=⟨_,rfl⟩;rw[eW];have HA:=aa eW;obtain⟨aB,aL,aF,cB,cL,cF,rfl,h1,h2,h3,h4,h5,h6,h7,h8,h9,hb⟩:=hv.open;clear hb h1 h2 h3 h4 h5 hv hT hl eW;have hmm:=@run_makeMap prog;have jn:=T8;go_enter func43,ntmps43;go_wp2_with fail;go_loopg [95] (l.length+1) (fun gk i wr=>∃j:Nat,j≤l.length∧gk+j=l.length+1∧i=.int .i64 j∧(l.take j).all V.formed=true ∧
  Grow w wr∧In wr (.mk 7 0 [] l []) ⟨7,0,aB,0,cB,aL,l.length,cL,aF,0,cF⟩∧Blk wr w.heap.size 27 (Cv.cells ⟨7,0,aB,0,cB,aL,l.length,cL,aF,0,cF⟩))
 exact⟨0,by omega,by omega,rfl,rfl,(ah w).alloc _,oK HV.o ((ah w).alloc _),aD _ _ _⟩;obtain⟨j,hj,hg,rfl,ht,hw,hv,hB⟩:=hrel;obtain⟨gk',rfl⟩:=bS gk (by omega);have qm:=aa ht;by_cases hlt:j<l.length
 ·obtain⟨bk,o,x,ha,hbk,e0,e1,e2,e3,e4,hx⟩:=hv.fO j hlt;dsimp only at ha;subst ha;have HW:=aa hw;have HX:=aa hx;have py:=aa hv;have HB:=aa hB;clear hw hx hv hB ht;go_wp2_with fail;refine(Hl.o _ (aW hlt) _ x (HT.o.grow (HW.o.alloc _)) (HX.o.grow ((ah wr).alloc _))).mono ?_;rintro e w' ⟨rfl,hb'⟩;have hgr:Hid (Grow wr w'):=((ah wr).alloc _).trans hb';clear hb' e0 e1 e2 e3 e4;obtain⟨R,hR⟩:∃R,l[j].formed=R:=⟨_,rfl⟩;rw[hR];have HR:=aa hR;clear hR
  cases R
  ·go_wp2_with fail;go_ret;refine⟨dE ?_,HW.o.trans hgr.o⟩;rw[← HA.o];exact(CU.2 ⟨l[j],aW hlt,by rw[HR.o];exact CS⟩).symm
  go_wp2_with fail;go_roundg gk';exact⟨j+1,by omega,by omega,by go_num,by rw[mv l j hlt,Fi,qm.o];simp[HR.o],HW.o.trans hgr.o,py.o.grow hgr.o,HB.o.grow hgr.o⟩;omega
 obtain rfl:j=l.length:=by omega
 have hc:=hB.cell;have hBl:=hB.lt;have HW:=aa hw;have hA:iH=true:=by rw[← HA.o];rw[fS] at ht;exact ht
 subst hA;clear hw hv hB hlt hg ht;go_wp2_with fail;refine fW ?_;go_wp2_with fail;go_ret;exact⟨rfl,HW.o.alloc _⟩
theorem aku(f:List (ByteArray×V))(hf:∀x∈f,∀(w:World) (c:Cv),eP w→In w x.2 c→Calls prog 43 #[c.agg] w fun e w'=>e=.returned (.bool x.2.formed)∧Grow w w')
 (w:World) (c:Cv) (hT:eP w) (hv:In w (.mk 8 0 [] [] f) c) :
 Calls prog 43 #[c.agg] w fun e w'=>e=.returned (.bool ((f.all fun x=>V.name x.1&&x.2.formed)&&decide ((f.map Prod.fst).Nodup)))∧Grow w w':=by
 have HV:=aa hv;have HT:=aa hT;have Hf:=aa hf;obtain⟨iH,eW⟩:∃A,((f.all fun x=>V.name x.1&&x.2.formed)&&decide ((f.map Prod.fst).Nodup))=A:=⟨_,rfl⟩;rw[eW];have HA:=aa eW;obtain⟨aB,aL,aF,cB,cL,cF,rfl,h1,h2,h3,h4,h5,h6,h7,h8,h9,hb⟩:=hv.open;clear hb h1 h2 h3 h4 h5 hv hT hf eW;have hmm:=@run_makeMap prog;have law:Keyed prog 9:=string_keyed qz;go_enter func43,ntmps43;go_wp2_with fail;refine fW ?_;go_wp2_with fail;go_loopg [107] (f.length+1) (fun gk i wr=>∃j:Nat,j≤f.length∧gk+j=f.length+1∧i=.int .i64 j∧(f.take j).all (fun x=>V.name x.1&&x.2.formed)=true ∧
  wr.ownsMap prog 9 unitElem (w.heap.size+1) j (NS ((f.map Prod.fst).take j)) ∧
  Grow w wr∧In wr (.mk 8 0 [] [] f) ⟨8,0,aB,0,cB,aL,0,cL,aF,f.length,cF⟩∧Blk wr w.heap.size 27 (Cv.cells ⟨8,0,aB,0,cB,aL,0,cL,aF,f.length,cF⟩))
 exact⟨0,by omega,by omega,rfl,rfl,akm w _,((ah w).alloc _).alloc _,oK HV.o (((ah w).alloc _).alloc _),(aD _ _ _).alloc _⟩;obtain⟨j,hj,hg,rfl,ht,hown,hw,hv,hB⟩:=hrel;obtain⟨gk',rfl⟩:=bS gk (by omega);have qm:=aa ht;have HO:=aa hown;by_cases hlt:j<f.length
 ·obtain⟨bk,o,x,ha,hbk,es,im,e0,e1,e2,e3,e4,hx⟩:=HV.o.iF j hlt;dsimp only at ha;subst ha;have es:=(hw.below.cell (p:=⟨bk,o+j*6,none⟩) hbk).trans es;have e0:=(hw.below.cell (p:=⟨bk,o+j*6+1,none⟩) hbk).trans e0;have e1:=(hw.below.cell (p:=⟨bk,o+j*6+1+1,none⟩) hbk).trans e1;have e2:=(hw.below.cell (p:=⟨bk,o+j*6+1+2,none⟩) hbk).trans e2;have e3:=(hw.below.cell (p:=⟨bk,o+j*6+1+3,none⟩) hbk).trans e3;have e4:=(hw.below.cell (p:=⟨bk,o+j*6+1+4,none⟩) hbk).trans e4;have vN:bk<wr.heap.size:=df hbk hw.size;have akv:=hB.lt;have amL:w.heap.size+1<wr.heap.size:=by
   obtain⟨es,clock,hb,r⟩:=hown;rcases fh (w.heap.size+1) wr.heap.size with hlt | hge
   ·exact hlt
   rw[tD hge] at hb;cases hb
  have hc:=hB.cell;have HW:=aa hw;have HX:=aa hx;have HB:=aa hB;clear hw hx hv hB ht hown;have hkey:keyOf prog 9 (.string f[j].1)=some (rz f[j].1):=keyOf_string_mk qz (by simp only[maxLen];omega);obtain⟨nm,Nz⟩:∃nm,f[j].1=nm:=⟨_,rfl⟩;rw[Nz] at es im hkey;go_wp2_with (first | (at_mapUpdate;refine wpList_mapUpdate_own _ rfl _ _ _ 137 rfl 9 138 law aba (unitElem (H:=Unit)) (w.heap.size+1) j _ rfl (HO.o.alloc _) (by unfold maxLen;omega) _ _ _ rfl rfl hkey _ [] unitElem_mk ?_;intro w1 hown1 hgrow1;have hF:=Blk.grownBy (aD wr _ _) hgrow1 (by omega);have hFc:=hF.cell;have HF:=aa hF;have HO1:=aa hown1;have aO:=aa ((HW.o.alloc _).grown hgrow1 (fun k hk=>by cases hk;exact fD _));have aQ:=aa (Blk.grownBy (HB.o.alloc _) hgrow1 (by omega));clear hF hown1 hgrow1))
  refine(Yt nm w1 (HT.o.grow aO.o)).mono ?_;rintro e w2 ⟨rfl,hg2⟩;obtain⟨R,hR⟩:∃R,V.name nm=R:=⟨_,rfl⟩;rw[hR];have HR:=aa hR;have hF2:=HF.o.grow hg2;have hFc:=hF2.cell;have HF2:=aa hF2;have HG2:=aa hg2;clear hR hg2 hF2
  cases R
  ·go_wp2_with fail;go_ret;refine⟨dE ?_,aO.o.trans HG2.o⟩;rw[← HA.o,CU.2 ⟨f[j],aW hlt,by rw[Nz,HR.o];exact CS⟩];rfl
  go_wp2_with fail;refine(Hf.o _ (aW hlt) _ x (HT.o.grow (aO.o.trans HG2.o)) (HX.o.grow (aO.o.trans HG2.o))).mono ?_;rintro e w3 ⟨rfl,hg3⟩;obtain⟨R,hR⟩:∃R,f[j].2.formed=R:=⟨_,rfl⟩;rw[hR];have qo:=aa hR;have aP:=aa hg3;clear hR hg3
  cases R
  ·go_wp2_with fail;go_ret;refine⟨dE ?_,(aO.o.trans HG2.o).trans aP.o⟩;rw[← HA.o,CU.2 ⟨f[j],aW hlt,by rw[qo.o,Bool.and_false];exact CS⟩];rfl
  go_wp2_with fail;go_roundg gk';refine⟨j+1,by omega,by omega,by go_num,by rw[mv f j hlt,Fi,qm.o];simp[Nz,HR.o,qo.o],?_,(aO.o.trans HG2.o).trans aP.o,HV.o.grow ((aO.o.trans HG2.o).trans aP.o),(aQ.o.grow HG2.o).grow aP.o⟩;have h1:=abd (abd HO1.o HG2.o) aP.o;rw[mv (f.map Prod.fst) j (by rw[dZ];exact hlt),R4,iZ,Nz];exact h1;omega
 obtain rfl:j=f.length:=by omega
 have hc:=hB.cell;have akv:=hB.lt;have HW:=aa hw;rw[show (f.map Prod.fst).take f.length=f.map Prod.fst from jD (by simp)] at HO;rw[fS] at qm;obtain⟨SZ,JE⟩:∃s,Maps.size (NS (f.map Prod.fst))=s:=⟨_,rfl⟩;have jn:=abb HO.o;rw[JE] at jn;have HS:=aa JE;obtain⟨nf,NA⟩:∃nf,nf=f.length:=⟨_,rfl⟩;have HN:=aa NA;rw[← NA];rw[← NA] at hc;clear hw hv hB hlt hg ht hown JE NA;by_cases hq:SZ=nf
 ·have hq1:((SZ:Int)==(nf:Int))=true:=by simp[hq]
  go_wp2_with fail;go_ret;refine⟨dE ?_,HW.o⟩;have hval:iH=((SZ:Int)==(nf:Int)):=by rw[← HA.o,qm.o,rN,← ZP,HS.o,dZ,HN.o]
  rw[hval,hq1]
 have hq1:((SZ:Int)==(nf:Int))=false:=by simp;omega
 go_wp2_with fail;go_ret;refine⟨dE ?_,HW.o⟩;have hval:iH=((SZ:Int)==(nf:Int)):=by rw[← HA.o,qm.o,rN,← ZP,HS.o,dZ,HN.o]
 rw[hval,hq1]
theorem akw(v:V):∀(w:World) (c:Cv),eP w→In w v c →
 Calls prog 43 #[c.agg] w fun e w'=>e=.returned (.bool v.formed)∧Grow w w':=by
 induction v using V.ind with
 | h k n b l f hl hf =>
  intro w c hT hv
  cases ho:V.own k n b l.length f.length
  ·have:(V.mk k n b l f).formed=false:=by rw[rT,ho];rfl
   rw[this];exact akl k n b l f w c ho hT hv
  have ho':=ho;simp only[V.own,il,J7,iC] at ho';obtain⟨⟨⟨⟨⟨⟨o1,o2⟩,o3⟩,o4⟩,o5⟩,o6⟩,o7⟩:=ho';have hL:k≠7→l=[]:=fun hk=>lC (by omega)
  have hF:k≠8→f=[]:=fun hk=>lC (by omega)
  have hB:k≠5→k≠6→b=[]:=fun h1 h2=>lC (by omega)
  have hN:k≠2→k≠3→k≠4→n=0:=fun h1 h2 h3=>by omega
  have hk:k=1∨k=2∨k=3∨k=4∨k=5∨k=6∨k=7∨k=8:=by omega
  rw[rT,ho];clear ho o1 o2 o4 o6 o7;rcases hk with rfl | rfl | rfl | rfl | rfl | rfl | rfl | rfl
  ·obtain rfl:=hL (by decide);obtain rfl:=hF (by decide);obtain rfl:=hB (by decide) (by decide);obtain rfl:=hN (by decide) (by decide) (by decide);exact akn w c hv
  ·obtain rfl:=hL (by decide);obtain rfl:=hF (by decide);obtain rfl:=hB (by decide) (by decide);exact ako n (o3 rfl) w c hv
  ·obtain rfl:=hL (by decide);obtain rfl:=hF (by decide);obtain rfl:=hB (by decide) (by decide);exact akp n w c hv
  ·obtain rfl:=hL (by decide);obtain rfl:=hF (by decide);obtain rfl:=hB (by decide) (by decide);exact akq n w c hv
  ·obtain rfl:=hL (by decide);obtain rfl:=hF (by decide);obtain rfl:=hN (by decide) (by decide) (by decide);exact aks b (o5.resolve_left (fun h=>h rfl)) w c hT hv
  ·obtain rfl:=hL (by decide);obtain rfl:=hF (by decide);obtain rfl:=hN (by decide) (by decide) (by decide);exact akr b w c hv
  ·obtain rfl:=hF (by decide);obtain rfl:=hB (by decide) (by decide);obtain rfl:=hN (by decide) (by decide) (by decide);refine(akt l hl w c hT hv).mono ?_;rintro e w' ⟨rfl,hg⟩;exact⟨by simp,hg⟩
  obtain rfl:=hL (by decide);obtain rfl:=hB (by decide) (by decide);obtain rfl:=hN (by decide) (by decide) (by decide);refine(aku f hf w c hT hv).mono ?_;rintro e w' ⟨rfl,hg⟩;exact⟨by simp,hg⟩
end
section
open Go.RowKit Go.Shelf
theorem abe{α:Type}(l:List α)(p q:α→Nat)(m:Nat)(h:∀x∈l,p x≤q x*m):(l.map p).sum≤(l.map q).sum*m:=by
 induction l with
 | nil=>simp
 | cons x xs ih =>
  have h1:=h x (by simp);have h2:=ih (fun y hy=>h y (by simp[hy]));simp only[fH,pG,mn];omega
theorem abf{α:Type}(l:List α)(p q:α→Nat)(a:Nat)(h:∀x∈l,p x≤q x):(l.map p).foldl max a≤a+(l.map q).sum:=by
 induction l generalizing a with
 | nil=>simp
 | cons x xs ih =>
  have h1:=h x (by simp);have h2:=ih (max a (p x)) (fun y hy=>h y (by simp[hy]));simp only[fH,J5,pG];omega
theorem V.akx(k:Int)(n:Nat)(b:List UInt8)(l:List V)(f:List (ByteArray×V))(m:Nat):(V.mk k n b l f).most≤m↔l.length≤m∧f.length≤m∧(∀x∈l,x.most≤m)∧∀x∈f,x.2.most≤m:=by
 rw[V.Oc,C7,C7];simp only[j3,forall_exists_index,and_imp,forall_apply_eq_imp_iff₂];constructor
 ·rintro⟨⟨h1,h2⟩,h3⟩;exact⟨by omega,by omega,h2,h3⟩
 rintro⟨h1,h2,h3,h4⟩;exact⟨⟨by omega,h3⟩,h4⟩
theorem V.aky(v:V):v.depth≤v.count:=by
 induction v using V.ind with
 | h k n b l f hl hf =>
  rw[V.yS,tP];have h1:=abf l V.depth V.count 0 hl;have h2:=abf f (fun x=>x.2.depth) (fun x=>x.2.count) ((l.map V.depth).foldl max 0) hf;split<;>omega
theorem V.akz(v:V):∀(w:World) (c:Cv),v.formed=true→In w v c→v.bytes.length+34≤v.count*140737488355372:=by
 induction v using V.ind with
 | h k n b l f hl hf =>
  intro w c fF hv;have hv':=hv;obtain⟨aB,aL,aF,cB,cL,cF,hc,h1,h2,h3,h4,h5,h6,h7,h8,h9,hb⟩:=hv'.open;have CH:=fF;rw[rT] at CH;simp only[il,nS] at CH;obtain⟨⟨⟨_,hfl⟩,mB⟩,_⟩:=CH;have hl':∀x∈l,x.bytes.length≤x.count*140737488355372:=fun x hx=>by
   obtain⟨i,hi,rfl⟩:=tG.1 hx;obtain⟨bk,o,y,_,_,_,_,_,_,_,hy⟩:=hv.fO i hi;have:=hl _ hx w y (hfl _ hx) hy;omega
  have hf':∀x∈f,(V.item x.1 x.2.bytes).length≤x.2.count*140737488355372:=fun x hx=>by
   have hx0:=hx;obtain⟨i,hi,rfl⟩:=tG.1 hx;obtain⟨bk,o,y,_,_,_,_,_,_,_,_,_,hy⟩:=hv.iF i hi;have:=hf _ hx0 w y (mB _ hx0).2 hy;have hn:=(mB _ hx0).1;simp only[V.name,il,iC] at hn;rw[C_];omega
  have sl:=abe l (fun x=>x.bytes.length) V.count 140737488355372 hl';have sf:=abe f (fun x=>(V.item x.1 x.2.bytes).length) (fun x=>x.2.count) 140737488355372 hf';have hcm:(V.mk k n b l f).count*140737488355372=140737488355372+(l.map V.count).sum*140737488355372+(f.map fun x=>x.2.count).sum*140737488355372:=by
   rw[tP,mn,mn,rO]
  rw[hcm];clear hcm;rcases rU fF with h | ⟨_,_,h⟩ | ⟨_,h⟩ | ⟨_,h⟩ | ⟨_,_,h⟩ | ⟨_,h⟩ | ⟨l',hl',h⟩ | ⟨f',hf',hnd,h⟩
  case inr.inr.inr.inr.inr.inr.inl =>
   cases h
   rw[C9,aT,aT,Fk,lG];have:(l.map (List.length ∘ V.bytes)).sum=(l.map fun x=>x.bytes.length).sum:=rfl;omega
  case inr.inr.inr.inr.inr.inr.inr =>
   cases h
   rw[AK,aT,aT,Fk,lG];have:(f.map (List.length ∘ fun x=>V.item x.1 x.2.bytes)).sum=(f.map fun x=>(V.item x.1 x.2.bytes).length).sum:=rfl;omega
  all_goals
   cases h
   rw[i7]
   simp[j5]
   try omega
theorem V.akA{v:V}{w:World}{c:Cv}(fF:v.formed=true)(hv:In w v c)(hc:v.count≤20000):v.bytes.length≤4611686018427387904:=by
 have h1:=V.akz v w c fF hv;have h2:v.count*140737488355372≤20000*140737488355372:=iB _ hc;omega
theorem V.abg{v:V}(hc:v.count≤20000):v.depth≤1099511627776:=by
 have:=V.aky v;omega
def V.zb(v:V):Prop:=v.depth≤1099511627776∧(v.formed=true→v.bytes.length≤4611686018427387904)
theorem V.abh{v:V}{w:World}{c:Cv}(hc:v.count≤20000)(hv:In w v c):v.zb:=⟨V.abg hc,fun hf=>V.akA hf hv hc⟩
theorem K0(v:V)(w:World)(c:Cv)(hm:v.zb)(hT:eP w)(hv:In w v c) :
 Calls prog 20 #[c.agg] w fun e w'=>e=.returned (.int .i64 v.good)∧Grow w w':=by
 have HT:=aa hT;have HV:=aa hv;obtain⟨iH,eW⟩:∃A,v.good=A:=⟨_,rfl⟩;rw[eW];have HA:=aa eW;clear hT hv eW;go_enter func20,ntmps20;go_wp2_with fail;have bg:=aa (aD w 27 c.cells);have aM:=aa ((ah w).alloc (.cells c.cells 27));refine(akw v _ c (HT.o.grow aM.o) (HV.o.grow aM.o)).mono ?_;rintro e w1 ⟨rfl,hg1⟩;have fB:=bg.o.grow hg1;have hc:=fB.cell;have hBl:=fB.lt;have aQ:=aa fB;have aO:=aa (aM.o.trans hg1);clear hg1 fB;obtain⟨R,hR⟩:∃R,v.formed=R:=⟨_,rfl⟩;rw[hR];have HR:=aa hR;clear hR
 cases R
 ·go_wp2_with fail;go_ret;exact⟨cA (by rw[← HA.o,V.good,aw HR.o]),aO.o⟩
 obtain⟨M,hM⟩:∃M,v.most=M:=⟨_,rfl⟩;have HM:=aa hM;go_wp2_with fail;refine(ajR v _ c (HV.o.grow aO.o)).mono ?_;rintro e w2 ⟨rfl,hg2⟩;have d_:=aQ.o.grow hg2;have hc:=d_.cell;have hBl:=d_.lt;have aG:=aa d_;have HG2:=aa (aO.o.trans hg2);clear hg2 d_;rw[hM];clear hM;by_cases m1:64<M
 ·go_wp2_with fail;go_ret;exact⟨cA (by rw[← HA.o,V.good,ai (by rw[HR.o];decide),aw (by rw[HM.o];exact m1)]),HG2.o⟩
 obtain⟨D,hD⟩:∃D,v.depth=D:=⟨_,rfl⟩;have HD:=aa hD;go_wp2_with fail;refine(ajT v _ c HR.o hm.1 (HV.o.grow HG2.o)).mono ?_;rintro e w3 ⟨rfl,hg3⟩;have fZ:=aG.o.grow hg3;have hc:=fZ.cell;have hBl:=fZ.lt;have aV:=aa fZ;have aP:=aa (HG2.o.trans hg3);clear hg3 fZ;rw[hD];clear hD;by_cases d1:16<D
 ·go_wp2_with fail;go_ret;exact⟨cA (by rw[← HA.o,V.good,ai (by rw[HR.o];decide),ai (by rw[HM.o];exact m1),aw (by rw[HD.o];exact d1)]),aP.o⟩
 obtain⟨S,hS⟩:∃S,v.bytes.length=S:=⟨_,rfl⟩;have HS:=aa hS;go_wp2_with fail;refine(ajV v _ c HR.o (hm.2 HR.o) (HV.o.grow aP.o)).mono ?_;rintro e w4 ⟨rfl,hg4⟩;have hB4:=aV.o.grow hg4;have hc:=hB4.cell;have hBl:=hB4.lt;have av:=aa hB4;have cj:=aa (aP.o.trans hg4);clear hg4 hB4;rw[hS];clear hS;by_cases s1:4096<S
 ·go_wp2_with fail;go_ret;exact⟨cA (by rw[← HA.o,V.good,ai (by rw[HR.o];decide),ai (by rw[HM.o];exact m1),ai (by rw[HD.o];exact d1),aw (by rw[HS.o];exact s1)]),cj.o⟩
 go_wp2_with fail;go_ret;exact⟨cA (by rw[← HA.o,V.good,ai (by rw[HR.o];decide),ai (by rw[HM.o];exact m1),ai (by rw[HD.o];exact d1),ai (by rw[HS.o];exact s1)]),cj.o⟩
theorem V.akB{v:V}(h:v.good=0):v.formed=true∧v.bytes.length≤4096:=by
 unfold V.good at h
 cases hf:v.formed
 ·rw[hf] at h;simp at h
 rw[hf] at h;refine⟨rfl,?_⟩;simp only[Bool.true_eq_false,iN] at h;split at h
 ·omega
 split at h
 ·omega
 split at h<;>omega
theorem zj(v:V)(w:World)(c:Cv)(gB:v.count≤20000)(hT:eP w)(hv:In w v c) :
 Calls prog 20 #[c.agg] w fun e w'=>e=.returned (.int .i64 v.good)∧Grow w w':=K0 v w c (V.abh gB hv) hT hv
theorem VV(S:Nat)(hS:S≤140737488355328):∃cur:Array Value,cur.size=S∧∀w:World,(Instr.makeSlice 23 (.int .i64 0) (.int .i64 (S:Int))).run prog w=.ok (.slice (some ⟨w.heap.size,0,none⟩) 0 S) (w.alloc (.cells cur 5)):=by
 obtain⟨i0,hi0,hz0,hz1,hz2⟩:=info_parts FR;refine⟨madeCells (Value.int .u8 0).cells (S*i0.size),?_,fun w=>?_⟩
 ·rw[hz1];simp[madeCells]
 have h:=run_make (P:=prog) (w:=w) 23 5 i0 (.int .u8 0) eH hi0 hz0 .i64 .i64 0 (S:Int) (by omega) (by omega) (by rw[hz2];omega) (by omega);exact h
end
abbrev lR:=@V.akB
abbrev zi:=@V.abh
abbrev Er:=@V.abg
abbrev Ls:=@V.akx
section
open Go.RowKit Go.Shelf
theorem tz(w:World)(b i:Nat)(u:Value):w.grownBy (w.setCell ⟨b,i,none⟩ u) (some b):=
 ⟨rfl,rfl,rfl,by simp[World.setCell],fun k _ hk=>Ap w ⟨b,i,none⟩ u k (fun e=>hk (by rw[e]))⟩
theorem Vk:(prog.info? 27).map (·.size)=some 5:=by kernel_rfl
def rI(W:World)(vb:Nat)(c:Cv):World:=
 ((((W.setCell ⟨vb,0,none⟩ (.int .i64 c.k)).setCell ⟨vb,1,none⟩ (.int .u64 c.n)).setCell ⟨vb,2,none⟩ (.slice c.aB c.nB c.cB)).setCell ⟨vb,3,none⟩ (.slice c.aL c.nL c.cL)).setCell ⟨vb,4,none⟩ (.slice c.aF c.nF c.cF)
theorem Dl{W:World}{vb:Nat}{t:TypeId}{c:Cv}(h:Blk W vb t c.cells):Blk (rI W vb c) vb t c.cells:=by
 have:=((((h.bf 0 (.int .i64 c.k)).bf 1 (.int .u64 c.n)).bf 2 (.slice c.aB c.nB c.cB)).bf 3 (.slice c.aL c.nL c.cL)).bf 4 (.slice c.aF c.nF c.cF);exact this
theorem abj(W:World)(vb:Nat)(c:Cv):W.grownBy (rI W vb c) (some vb):=
 ((((tz W vb 0 _).trans (tz _ vb 1 _)).trans (tz _ vb 2 _)).trans (tz _ vb 3 _)).trans (tz _ vb 4 _)
theorem akC(W:World)(vb:Nat)(c:Cv):(rI W vb c).heap.size=W.heap.size:=by simp[rI,World.setCell]
end
section
open Go.RowKit Go.Shelf
theorem oO:(prog.info? 27).map (fun i=>(i.zero,i.size,i.bytes))=some (some (.agg #[.int .i64 0,.int .u64 0,.slice none 0 0,.slice none 0 0,.slice none 0 0]),5,88):=by kernel_rfl
theorem jv:prog.underlying 24=some (.slice 27):=by kernel_rfl
theorem abk:(prog.info? 82).map (fun i=>(i.zero,i.size,i.bytes))=some (some (.agg #[.string ⟨#[]⟩,.int .i64 0,.int .u64 0,.slice none 0 0,.slice none 0 0,.slice none 0 0]),6,104):=by kernel_rfl
theorem Bc:prog.underlying 25=some (.slice 82):=by kernel_rfl
structure VE where
 s:ByteArray
 v:V
 c:Cv
 lo:Nat
 hi:Nat
abbrev JR:ByteArray→List Value:=fun _=>[]
abbrev vp:ByteArray→List Value:=fun s=>[.string s]
def cellsOf(hd:ByteArray→List Value)(es:List VE):List Value:=(es.map fun x=>hd x.s++x.c.cells.toList).flatten
theorem akD(hd:ByteArray→List Value)(es:List VE)(x:VE):cellsOf hd (es++[x])=cellsOf hd es++(hd x.s++x.c.cells.toList):=by simp[cellsOf]
theorem akE(c:Cv):c.cells.toList.length=5:=rfl
theorem akF{hd:ByteArray→List Value}{k z:Nat}(hk:∀s,(hd s).length=k)(hz:k+5=z):∀(es:List VE) (i t:Nat) (hi:i<es.length) (_ht:t<z),(cellsOf hd es)[i*z+t]?=(hd es[i].s++es[i].c.cells.toList)[t]?:=by
 intro es
 induction es with
 | nil=>intro i t hi;simp at hi
 | cons x xs ih =>
  intro i t hi ht;have e:cellsOf hd (x::xs)=(hd x.s++x.c.cells.toList)++cellsOf hd xs:=by simp[cellsOf]
  have hl:(hd x.s++x.c.cells.toList).length=z:=by rw[bG,hk,akE];exact hz
  rw[e]
  cases i with
  | zero=>rw[Nat.zero_mul,dY,Ke (by rw[hl];exact ht)];rfl
  | succ i =>
   rw[NQ (by rw[hl,CV];omega),hl,show (i+1)*z+t-z=i*z+t by rw[CV];omega,ih i t (by simpa using hi) ht];rfl
structure ik (w:World) (te:TypeId) (hd:ByteArray→List Value) (z lo vb base:Nat) (v:Value) (es:List VE):Prop where
 own:w.ownsRow base te z v es.length (cellsOf hd es)
 part:∀x∈es,lo≤x.lo∧vb<x.lo∧(∀g,v.ownBlock=some g→¬ (x.lo≤g∧g<x.hi))∧pc w x.lo x.hi x.v x.c
 apart:∀i j (hi:i<es.length) (hj:j<es.length),i<j→es[i].hi≤es[j].lo
theorem ik.oF{W:World}{te:TypeId}{hd:ByteArray→List Value}{z lo vb base:Nat}{v:Value}{es:List VE}(h:ik W te hd z lo vb base v es){k:Nat}(hk:v.ownBlock=some k):base≤k∧k<W.heap.size:=bO h.own k hk
theorem ik.cap{W:World}{te:TypeId}{hd:ByteArray→List Value}{z lo vb base n cap:Nat}{A:Option Addr}{es:List VE}(h:ik W te hd z lo vb base (.slice A n cap) es)(hn:n=es.length):n≤cap:=by
 rcases h.own.2 with ⟨hv,h0⟩ | ⟨g,cap',cur,hv,_,_,hc,_⟩
 ·omega
 injection hv with _ _ e;omega
theorem ik.cellAt{W:World}{te:TypeId}{hd:ByteArray→List Value}{k z lo vb base n cap:Nat}{A:Option Addr}{es:List VE}(h:ik W te hd z lo vb base (.slice A n cap) es)(hk:∀s,(hd s).length=k)(hz:k+5=z)(hn:n=es.length)(i:Nat)(hi:i<es.length) :
 ∃g,A=some ⟨g,0,none⟩∧base≤g∧g<W.heap.size∧∀t u,t<z→(hd es[i].s++es[i].c.cells.toList)[t]?=some u→CF W ⟨g,0+i*z+t,none⟩ u:=by
 subst hn;obtain⟨g,cap',hv,hb,hlt⟩:=World.ownsRow.form h.own (by omega);have hA:A=some ⟨g,0,none⟩:=by injection hv
 subst hA;refine⟨g,rfl,hb,hlt,fun t u ht hu=>⟨?_,Kf h.own _⟩⟩;have:=J8 h.own (g:=g) rfl (i*z+t) u (by rw[akF hk hz es i t hi ht];exact hu);rw[add_lit] at this;rw[← this];congr 2;omega
theorem ik.grow{W W':World}{te:TypeId}{hd:ByteArray→List Value}{z lo vb base:Nat}{v:Value}{es:List VE}(h:ik W te hd z lo vb base v es)(hg:Grow W W'):ik W' te hd z lo vb base v es:=by
 refine⟨oI h.own (row:=none) ⟨hg.os,hg.tape,hg.output,hg.size,fun k hk _=>hg.below.block k hk⟩ (by cases v.ownBlock<;>simp),fun x hx=>?_,h.apart⟩;obtain⟨p1,p2,p3,p4⟩:=h.part x hx;exact⟨p1,p2,p3,p4.grow hg⟩
theorem ik.add{w2 w3:World}{te:TypeId}{hd:ByteArray→List Value}{z lo vb base m0:Nat}{v v':Value}{es:List VE}{s:ByteArray}{x:V}{c:Cv}{o:Obj}(h:ik w2 te hd z lo vb base v es)(hv:∀k,v.ownBlock=some k→k<m0)(hvb:vb<m0)(hlo:lo≤m0)(hm:∀y∈es,y.hi≤m0)
 (hx:pc w2 m0 w2.heap.size x c) (h2:w3.ownsRow base te z v' (es.length+1) (cellsOf hd es++(hd s++c.cells.toList))) (hg:(w2.alloc o).grownBy w3 v.ownBlock)
 (eG:v'.ownBlock=v.ownBlock∨v'.ownBlock=some (w2.alloc o).heap.size):ik w3 te hd z lo vb base v' (es++[⟨s,x,c,m0,w2.heap.size⟩]):=by
 have hsz:(w2.alloc o).heap.size=w2.heap.size+1:=by simp
 have Cw:=hg.size;have hblk:∀k,k<w2.heap.size→(∀g,v.ownBlock=some g→k≠g)→w3.heap[k]?=w2.heap[k]?:=fun k hk hne =>
  (hg.block k (by omega) (fun e=>hne k e.symm rfl)).trans (((ah w2).alloc o).below.block k hk)
 refine⟨by rw[bG,akD];exact h2,fun y hy=>?_,fun i j hi hj hij=>?_⟩
 ·rcases tI.1 hy with hy | hy
  ·obtain⟨p1,p2,p3,p4⟩:=h.part y hy;refine⟨p1,p2,fun g e=>?_,p4.blocks (by omega) (fun k hk hk'=>hblk k (df hk' p4.1) (fun g e e'=>p3 g e (by omega)))⟩;rcases eG with q | q
   ·exact p3 g (q ▸ e)
   rw[q] at e;injection e with e;have:=hm y hy;have:=p4.1;omega
  rw[yK] at hy;subst hy;refine⟨hlo,hvb,fun g e=>?_,hx.blocks (by omega) (fun k hk hk'=>hblk k hk' (fun g e e'=>by have:=hv g e;omega))⟩;rcases eG with q | q
  ·have:=hv g (q ▸ e);show ¬ (m0≤g∧g<w2.heap.size);omega
  rw[q] at e;injection e with e;show ¬ (m0≤g∧g<w2.heap.size);omega
 rw[bG,Fl] at hj;rcases fh j es.length with hj' | hj'
 ·rw[Kg (by omega),Kg hj'];exact h.apart i j (by omega) hj' hij
 have:j=es.length:=by omega
 subst this;rw[Kg (by omega),List.getElem_append_right (ay _)];simp only[AE,CW];exact hm _ (aW _)
end
section
open Go.RowKit Go.Shelf
theorem Blk.own{w w':World}{g:Nat}{t:TypeId}{cs:Array Value}{row:Option Nat}(h:Blk w g t cs)(hg:w.grownBy w' row)(hne:∀k,row=some k→k≠g):Blk w' g t cs:=
 (hg.block g h.lt (fun e=>hne g e.symm rfl)).trans h
theorem Src.abl{w:World}(c:Cv)(e:TypeId):Src prog 5 24 (.slice (some ⟨w.heap.size,0,none⟩) 1 1) 1 c.cells.toList (w.alloc (.cells c.cells e)):=
 Src.ofSlice _ jv ⟨w.heap.size,0,none⟩ 1 1 _ rfl (fun j u hu=>by
  rw[add_lit,dY,(aD w e c.cells).cell j,← hu,pH]) (fun u hu=>by
  simp only[je,wZ,w_] at hu;rcases hu with rfl | rfl | rfl | rfl | rfl<;>rfl)
end
abbrev qp:=@Blk.own
section
open Go.RowKit Go.Shelf Go.Maps Go.WideMaps
theorem ik.kept{W W':World}{te:TypeId}{hd:ByteArray→List Value}{z lo vb base:Nat}{v:Value}{es:List VE}{row:Option Nat}(h:ik W te hd z lo vb base v es)(hg:W.grownBy W' row)(hne:∀k,row=some k→v.ownBlock≠some k∧k≤vb):ik W' te hd z lo vb base v es:=by
 refine⟨oI h.own hg ?_,fun x hx=>?_,h.apart⟩
 ·cases hr:row with
  | none=>cases v.ownBlock<;>simp
  | some k=>exact .inr (hne k hr).1
 obtain⟨p1,p2,p3,p4⟩:=h.part x hx;exact⟨p1,p2,p3,p4.blocks hg.size (fun k hk hk'=>hg.block k (df hk' p4.1) (fun e=>by have:=(hne k e.symm).2;omega))⟩
theorem ik.lower{W:World}{te:TypeId}{hd:ByteArray→List Value}{z lo vb NB base:Nat}{v:Value}{es:List VE}(h:ik W te hd z lo vb base v es)(hv:NB≤vb):ik W te hd z lo NB base v es:=
 ⟨h.own,fun x hx=>by obtain⟨p1,p2,p3,p4⟩:=h.part x hx;exact⟨p1,by omega,p3,p4⟩,h.apart⟩
abbrev Cv.lQ(s:ByteArray)(c:Cv):Array Value:=#[.string s,.int .i64 c.k,.int .u64 c.n,.slice c.aB c.nB c.cB,.slice c.aL c.nL c.cL,.slice c.aF c.nF c.cF]
theorem Src.T9{w:World}(s:ByteArray)(c:Cv)(e:TypeId):Src prog 6 25 (.slice (some ⟨w.heap.size,0,none⟩) 1 1) 1 (vp s++c.cells.toList) (w.alloc (.cells (c.lQ s) e)):=
 Src.ofSlice _ Bc ⟨w.heap.size,0,none⟩ 1 1 _ rfl (fun j u hu=>by
  rw[add_lit,dY,(aD w e (c.lQ s)).cell j,← hu,← pH];rfl) (fun u hu=>by
  simp only[je,wZ,w_,CL,pE] at hu;rcases hu with rfl | rfl | rfl | rfl | rfl | rfl<;>rfl)
end
section
open Go.RowKit Go.Shelf
theorem vU{W:World}{vb:Nat}{t:TypeId}{c:Cv}{c0 c1 c2 c3 c4:Value}(h:Blk W vb t #[c0,c1,c2,c3,c4]):Blk (rI W vb c) vb t c.cells:=by
 have:=((((h.bf 0 (.int .i64 c.k)).bf 1 (.int .u64 c.n)).bf 2 (.slice c.aB c.nB c.cB)).bf 3 (.slice c.aL c.nL c.cL)).bf 4 (.slice c.aF c.nF c.cF);exact this
end
section
open Go.RowKit Go.Shelf
theorem A_(w:World)(s:ByteArray):∃c W,(convert 9 23 (.string s)).run prog w=.ok (.slice (some ⟨w.heap.size,0,none⟩) s.size c) W∧s.size≤c∧Grow w W∧bA W (some ⟨w.heap.size,0,none⟩) s.data.toList:=by
 have hg:Grow w (Lib.bytesWorld w 5 s):=Go.Joins.below_bytesWorld _ w _ s (ay _);refine⟨_,_,Lib.run_convert_string_bytes w _ _ 5 s qz eH Da,grownCap_ge _ _ _ _,hg,?_,?_⟩
 ·simp[bT]
 intro h0;refine⟨_,_,rfl,fun j u hu=>?_⟩;have hj:j<s.data.toList.length:=by
  have:=(kC.1 hu).1;simpa [bT] using this
 have hj':j<s.size:=by simpa using hj
 rw[xf _ j hj] at hu;injection hu with hu;subst hu;refine⟨?_,by simp,by rw[Lib.bytesWorld_size];simp⟩;rw[show (0:Nat)+j=j by omega,Lib.bytesWorld_cell w _ s j hj',jf,cJ hj];rfl
theorem akG{F:Func}{W:World}{vb:Nat}{tmps:Array Value}(hF:F.results=#[ResultVar.cell 2 27])(h2:tmps.getD 2 undef=.pointer (some ⟨vb,0,none⟩))(c:Cv)(hv:Blk W vb 27 c.cells) :
 (results F tmps).run prog W=.ok c.agg W:=by
 have xL:=hv.cell;have h2':tmps[2]?.getD undef=.pointer (some ⟨vb,0,none⟩):=by simpa using h2
 simp[results,hF,go_sem,h2',xL]
theorem bA.blk{w:World}{g:Nat}{t:TypeId}{xs:List UInt8}(h:Blk w g t (bT xs).toArray):bA w (some ⟨g,0,none⟩) xs:=
 ⟨by simp[bT],fun _=>⟨g,0,rfl,fun j u hu=>⟨by rw[dY,h.cell j];simpa using hu,ba _,h.lt⟩⟩⟩
end
section
open Go.RowKit Go.Shelf Go.WideShapes
theorem JS{w:World}{lo:Nat}{v:V}{c:Cv}(h:IsV (bK w lo w.heap.size) v c){p:Addr}(hp:p.block<lo)(u:Value):IsV (bK (w.setCell p u) lo (w.setCell p u).heap.size) v c:=by
 refine fw (fun a x ha=>?_) v c h;have hne:a.block≠p.block:=by have:=ha.2.1;omega
 refine⟨(vG (a:=a) (Ap w p u a.block hne)).trans ha.1,ha.2.1,?_⟩;have:=ha.2.2;simpa using this
theorem abm{w:World}{lo vb:Nat}{v:V}{c:Cv}(h:IsV (bK w lo w.heap.size) v c)(hp:vb<lo)(d:Cv):IsV (bK (rI w vb d) lo (rI w vb d).heap.size) v c:=
 JS (JS (JS (JS (JS h (p:=⟨vb,0,none⟩) hp _) (p:=⟨vb,1,none⟩) hp _) (p:=⟨vb,2,none⟩) hp _) (p:=⟨vb,3,none⟩) hp _) (p:=⟨vb,4,none⟩) hp _
theorem Grow.mD{a W:World}{vb:Nat}(h:Grow a W)(hb:a.heap.size≤vb)(c:Cv):Grow a (rI W vb c):=
 ((((h.setCell (p:=⟨vb,0,none⟩) hb _).setCell (p:=⟨vb,1,none⟩) hb _).setCell (p:=⟨vb,2,none⟩) hb _).setCell (p:=⟨vb,3,none⟩) hb _).setCell (p:=⟨vb,4,none⟩) hb _
theorem ik.akH{W:World}{lo vb base n cap:Nat}{A:Option Addr}{es:List VE}(h:ik W 27 JR 5 lo vb base (.slice A n cap) es)(hn:n=es.length)(h1:lo≤base)(h2:vb<base)(h64:n≤140737488355328) :
 lu (fun p u=>CF W p u∧p.block≠vb) (.mk 7 0 [] (es.map VE.v) []) ⟨7,0,none,0,0,A,n,cap,none,0,0⟩ (fun q=>lo≤q∧q<W.heap.size):=by
 have hcap:=h.cap hn;rw[lu];refine⟨rfl,rfl,rfl,by rw[dZ];exact hn,rfl,by omega,by omega,by omega,by simp,by simp,by show (es.map VE.v).length≤cap;rw[dZ];omega,by rw[dZ];omega,by simp,by simp,⟨by simp[bT],fun h=>by simp at h⟩,
  ⟨fun i q=>∃x,es[i]?=some x∧x.lo≤q∧q<x.hi,fun i hi=>?_,fun i j hij hj q hq hq'=>?_⟩,⟨fun _ _=>False,fun i hi=>absurd hi (by simp),fun _ _ _ _ _ h=>h.elim⟩⟩
 ·rw[dZ] at hi;obtain⟨g,rfl,hb,hlt,hcell⟩:=h.cellAt (k:=0) (fun _=>rfl) rfl hn i hi;obtain⟨p1,p2,p3,p4⟩:=h.part es[i] (aW hi);refine⟨g,0,es[i].c,rfl,⟨bn h1 hb,hlt⟩,?_,?_,?_,?_⟩
  ·rintro⟨x,hx,q⟩;rw[cJ hi] at hx;injection hx with hx;subst hx;exact p3 g rfl q
  ·rintro q ⟨x,hx,q1,q2⟩;rw[cJ hi] at hx;injection hx with hx;subst hx;have:=p4.1;exact⟨bn p1 q1,by omega⟩
  ·exact⟨⟨hcell 0 _ (by omega) rfl,by show g≠vb;omega⟩,⟨hcell 1 _ (by omega) rfl,by show g≠vb;omega⟩,⟨hcell 2 _ (by omega) rfl,by show g≠vb;omega⟩,⟨hcell 3 _ (by omega) rfl,by show g≠vb;omega⟩,⟨hcell 4 _ (by omega) rfl,by show g≠vb;omega⟩⟩
  rw[iZ];exact lu.mono _ _ _ _ (fun p u q s=>⟨q,by have:=s.1;omega⟩) (fun q s=>⟨_,cJ hi,s⟩) p4.2
 rw[dZ] at hj;have hi':i<es.length:=Fm hij hj;obtain⟨x,hx,q1,q2⟩:=hq;obtain⟨y,hy,q3,q4⟩:=hq';rw[cJ hi'] at hx;rw[cJ hj] at hy;injection hx with hx;injection hy with hy;subst hx hy;have:=h.apart i j (by omega) hj hij;omega
theorem ik.akI{W:World}{lo vb base n cap:Nat}{A:Option Addr}{es:List VE}(h:ik W 82 vp 6 lo vb base (.slice A n cap) es)(hs:∀x∈es,x.s.size≤140737488355328)(hn:n=es.length)(h1:lo≤base)(h2:vb<base)(h64:n≤140737488355328) :
 lu (fun p u=>CF W p u∧p.block≠vb) (.mk 8 0 [] [] (es.map fun x=>(x.s,x.v))) ⟨8,0,none,0,0,none,0,0,A,n,cap⟩ (fun q=>lo≤q∧q<W.heap.size):=by
 have hcap:=h.cap hn;rw[lu];refine⟨rfl,rfl,rfl,rfl,by rw[dZ];exact hn,by omega,by omega,by omega,by simp,by simp,by simp,by simp,by show (es.map fun x=>(x.s,x.v)).length≤cap;rw[dZ];omega,by rw[dZ];omega,⟨by simp[bT],fun h=>by simp at h⟩,
  ⟨fun _ _=>False,fun i hi=>absurd hi (by simp),fun _ _ _ _ _ h=>h.elim⟩,⟨fun i q=>∃x,es[i]?=some x∧x.lo≤q∧q<x.hi,fun i hi=>?_,fun i j hij hj q hq hq'=>?_⟩⟩
 ·rw[dZ] at hi;obtain⟨g,rfl,hb,hlt,hcell⟩:=h.cellAt (k:=1) (fun _=>rfl) rfl hn i hi;obtain⟨p1,p2,p3,p4⟩:=h.part es[i] (aW hi);refine⟨g,0,es[i].c,rfl,⟨bn h1 hb,hlt⟩,?_,?_,?_,?_,?_,?_⟩
  ·rintro⟨x,hx,q⟩;rw[cJ hi] at hx;injection hx with hx;subst hx;exact p3 g rfl q
  ·rintro q ⟨x,hx,q1,q2⟩;rw[cJ hi] at hx;injection hx with hx;subst hx;have:=p4.1;exact⟨bn p1 q1,by omega⟩
  ·rw[iZ];exact⟨hcell 0 _ (by omega) rfl,by show g≠vb;omega⟩
  ·rw[iZ];exact hs _ (aW hi)
  ·exact⟨⟨hcell 1 _ (by omega) rfl,by show g≠vb;omega⟩,⟨hcell 2 _ (by omega) rfl,by show g≠vb;omega⟩,⟨hcell 3 _ (by omega) rfl,by show g≠vb;omega⟩,⟨hcell 4 _ (by omega) rfl,by show g≠vb;omega⟩,⟨hcell 5 _ (by omega) rfl,by show g≠vb;omega⟩⟩
  rw[iZ];exact lu.mono _ _ _ _ (fun p u q s=>⟨q,by have:=s.1;omega⟩) (fun q s=>⟨_,cJ hi,s⟩) p4.2
 rw[dZ] at hj;have hi':i<es.length:=Fm hij hj;obtain⟨x,hx,q1,q2⟩:=hq;obtain⟨y,hy,q3,q4⟩:=hq';rw[cJ hi'] at hx;rw[cJ hj] at hy;injection hx with hx;injection hy with hy;subst hx hy;have:=h.apart i j (by omega) hj hij;omega
def abn(w:World)(v:V)(e:Ending)(w':World):Prop:=
 ∃c:Cv,e=.returned c.agg∧pc w' w.heap.size w'.heap.size v c∧Grow w w'
def V5(w:World)(A:Option Addr)(ts:List Bool):Prop:=Reads (bK w 0 w.heap.size) 1 A ts.length (ts.map Value.bool)
end
section
open V
def V.nD:V→Prop
 | mk _ _ b l f=>b.length≤1000000000∧l.length≤1000000000∧f.length≤1000000000∧(∀x∈l,nD x)∧(∀x∈f,nD x.2)
termination_by v=>SizeOf.sizeOf v
decreasing_by
 ·exact rR ‹_›
 exact rS ‹_›
theorem V.T_{k:Int}{n:Nat}{b:List UInt8}{l:List V}{f:List (ByteArray×V)}:(V.mk k n b l f).nD↔b.length≤1000000000∧l.length≤1000000000∧f.length≤1000000000∧(∀x∈l,x.nD)∧(∀x∈f,x.2.nD):=by
 rw[V.nD]
end
section
open Go.RowKit Go.Shelf
def jl:V→ByteArray→Option V
 | .mk k _ _ l f,s=>if k=7 then (if 0≤om s.data.toList then l[(om s.data.toList).toNat]? else none) else (f.find? fun x=>decide (x.1=s)).map Prod.snd
theorem akJ(C:Addr→Value→Prop):IsV C V.zero Cv.zero:=by
 unfold V.zero;rw[IsV];exact⟨rfl,rfl,rfl,rfl,rfl,by omega,by omega,by omega,by simp,by simp,by simp,by simp,by simp,by simp,⟨rfl,fun h=>absurd h (by simp)⟩,fun i h=>absurd h (by simp),fun i h=>absurd h (by simp)⟩
def vq(w:World)(g:Option V)(e:Ending)(w':World):Prop:=
 Grow w w'∧∃(c:Cv) (t:Bool) (u:V),e=.returned (.tuple #[c.agg,.bool t])∧IsV (bK w' w.heap.size w'.heap.size) u c∧((g=some u∧t=true)∨(g=none∧t=false∧u=V.zero∧c=Cv.zero))
theorem vq.no{w w':World}{g:Option V}(h:g=none)(hg:Grow w w'):vq w g (.returned (.tuple #[Cv.zero.agg,.bool false])) w':=
 ⟨hg,Cv.zero,false,V.zero,rfl,akJ _,.inr ⟨h,rfl,rfl,rfl⟩⟩
theorem vq.yes{w w':World}{g:Option V}{u:V}{c:Cv}(h:g=some u)(hg:Grow w w'){lo:Nat}(hlo:w.heap.size≤lo)(hi:IsV (bK w' lo w'.heap.size) u c):vq w g (.returned (.tuple #[c.agg,.bool true])) w':=
 ⟨hg,c,true,u,rfl,fw (fun p u h=>⟨h.1,bn hlo h.2.1,h.2.2⟩) u c hi,.inl ⟨h,rfl⟩⟩
def kX(w0 w:World)(g:Option V)(e:Ending)(w':World):Prop:=
 Grow w w'∧∃(c:Cv) (t:Bool) (u:V),e=.returned (.tuple #[c.agg,.bool t])∧In w0 u c∧((g=some u∧t=true)∨(g=none∧t=false∧u=V.zero∧c=Cv.zero))
theorem kX.no{w0 w w':World}{g:Option V}(h:g=none)(hg:Grow w w'):kX w0 w g (.returned (.tuple #[Cv.zero.agg,.bool false])) w':=
 ⟨hg,Cv.zero,false,V.zero,rfl,In.KE w0,.inr ⟨h,rfl,rfl,rfl⟩⟩
theorem kX.yes{w0 w w':World}{g:Option V}{u:V}{c:Cv}(h:g=some u)(hg:Grow w w')(hi:In w0 u c):kX w0 w g (.returned (.tuple #[c.agg,.bool true])) w':=
 ⟨hg,c,true,u,rfl,hi,.inl ⟨h,rfl⟩⟩
theorem pZ{F:Func}{W:World}{vb:Nat}{tmps:Array Value}{u:Value}(hF:F.results=#[ResultVar.cell 4 27,ResultVar.tmp 5])(h2:tmps.getD 4 undef=.pointer (some ⟨vb,0,none⟩))(h3:tmps.getD 5 undef=u)(c:Cv)(hv:Blk W vb 27 c.cells) :
 (results F tmps).run prog W=.ok (.tuple #[c.agg,u]) W:=by
 have hl:=Fp (P:=prog) W vb 27 27 c.cells (0,0) _ hv underlying27 rfl Vk;have h2':tmps[4]?.getD undef=.pointer (some ⟨vb,0,none⟩):=by simpa using h2
 have h3':tmps[5]?.getD undef=u:=by simpa using h3
 simp[results,hF,h2',h3',asAddr,hl]
theorem zl{n:Nat}{b:List UInt8}{l:List V}{f:List (ByteArray×V)}{s:ByteArray}:jl (.mk 7 n b l f) s=if 0≤om s.data.toList then l[(om s.data.toList).toNat]? else none:=by
 simp[jl]
theorem akK(n:Nat)(b:List UInt8)(l:List V)(f:List (ByteArray×V))(s:ByteArray)(c:Cv)(w0 w:World)(hg0:Grow w0 w)(hv:In w0 (.mk 7 n b l f) c) :
 Calls prog 48 #[c.agg,.string s] w (kX w0 w (jl (.mk 7 n b l f) s)):=by
 rw[zl];obtain⟨z,hz⟩:∃z,om s.data.toList=z:=⟨_,rfl⟩;have HI:=aa (fun w=>ajN s w);rw[hz] at HI ⊢;clear hz;obtain⟨aB,aL,aF,cB,cL,cF,rfl,-,-,-,-,-,h6,h7,-⟩:=hv.open;have HG:=aa (fun x:Cv=>((ah w).alloc (.cells (Cv.cells ⟨7,(n:Int),aB,b.length,cB,aL,l.length,cL,aF,f.length,cF⟩) 27)).alloc (.cells x.cells 27));have HB:=aa (fun x:Cv=>cX (w:=w.alloc (.cells (Cv.cells ⟨7,(n:Int),aB,b.length,cB,aL,l.length,cL,aF,f.length,cF⟩) 27)) (g:=w.heap.size+1) (by simp) 27 x.cells);have HV:=aa hv;by_cases hz0:0≤z
 ·rw[aw hz0];by_cases hz1:z<l.length
  ·obtain⟨i,rfl⟩:∃i:Nat,z=i:=⟨z.toNat,by omega⟩;have hi:i<l.length:=by omega
   rw[yL,cJ hi];obtain⟨bk,o,x,ha,hbk,e0,e1,e2,e3,e4,hx⟩:=hv.fO i hi;dsimp only at ha;subst ha;replace e0:=(hg0.below.cell hbk).trans e0;replace e1:=(hg0.below.cell hbk).trans e1;replace e2:=(hg0.below.cell hbk).trans e2;replace e3:=(hg0.below.cell hbk).trans e3;replace e4:=(hg0.below.cell hbk).trans e4;replace hbk:=df hbk hg0.size;have HX:=aa hx;clear hx hv hz0 hz1 hg0;go_enter func48,ntmps48;go_wp2_with (go_at_call 91;refine(HI.o _).mono ?_;rintro e w' ⟨rfl,rfl⟩);refine iE (pZ rfl rfl rfl x (HB.o x)) rfl (kX.yes rfl (HG.o x) HX.o)
  have hn:l[z.toNat]?=none:=Kh (by omega);have HN:=aa hn;clear hn;go_enter func48,ntmps48;go_wp2_with (go_at_call 91;refine(HI.o _).mono ?_;rintro e w' ⟨rfl,rfl⟩);refine iE (pZ rfl rfl rfl Cv.zero (HB.o Cv.zero)) rfl (kX.no HN.o (HG.o Cv.zero))
 rw[ai hz0];go_enter func48,ntmps48;go_wp2_with (go_at_call 91;refine(HI.o _).mono ?_;rintro e w' ⟨rfl,rfl⟩);refine iE (pZ rfl rfl rfl Cv.zero (HB.o Cv.zero)) rfl (kX.no rfl (HG.o Cv.zero))
theorem vY{k:Int}(hk:k≠7){n:Nat}{b:List UInt8}{l:List V}{f:List (ByteArray×V)}{s:ByteArray}:jl (.mk k n b l f) s=(f.find? fun x=>decide (x.1=s)).map Prod.snd:=by
 simp[jl,hk]
theorem OE{f:List (ByteArray×V)}{s:ByteArray}{j:Nat}(h:j<f.length)(h0:∀i (hi:i<f.length),i<j→f[i].1≠s)(he:f[j].1=s):(f.find? fun x=>decide (x.1=s))=some f[j]:=by
 induction f generalizing j with
 | nil=>simp at h
 | cons x r ih =>
  cases j with
  | zero =>
   simp only[CW] at he ⊢;rw[List.find?_cons,bW he]
  | succ j =>
   have hx:=h0 0 (by simp) (by omega);simp only[CW] at hx;simp only[Fq] at he ⊢;rw[List.find?_cons,bX hx];exact ih (by simpa using h) (fun i hi hij=>by have:=h0 (i+1) (by simpa using hi) (by omega);simpa using this) he
theorem KI{f:List (ByteArray×V)}{s:ByteArray}(h0:∀i (hi:i<f.length),f[i].1≠s):(f.find? fun x=>decide (x.1=s))=none:=by
 rw[List.find?_eq_none];intro x hx;obtain⟨i,hi,rfl⟩:=lH hx;simpa using h0 i hi
theorem akL(k:Int)(hk:k≠7)(n:Nat)(b:List UInt8)(l:List V)(f:List (ByteArray×V))(s:ByteArray)(c:Cv)(w0 w:World)(hg0:Grow w0 w)(hv:In w0 (.mk k n b l f) c) :
 Calls prog 48 #[c.agg,.string s] w (kX w0 w (jl (.mk k n b l f) s)):=by
 rw[vY hk];obtain⟨aB,aL,aF,cB,cL,cF,rfl,-,-,-,-,-,-,-,h8,h9,-⟩:=hv.open;have HG:=aa (((ah w).alloc (.cells (Cv.cells ⟨k,(n:Int),aB,b.length,cB,aL,l.length,cL,aF,f.length,cF⟩) 27)).alloc (.cells Cv.zero.cells 27));have HB:=aa (cX (w:=w.alloc (.cells (Cv.cells ⟨k,(n:Int),aB,b.length,cB,aL,l.length,cL,aF,f.length,cF⟩) 27)) (g:=w.heap.size+1) (by simp) 27 Cv.zero.cells);have HV:=aa hv;have hkq:(k==7)=false:=by simpa using hk
 have aM:=aa hg0;clear hv hk hg0;go_enter func48,ntmps48;go_wp2_with fail;go_loopg [8,32] (f.length+1) (fun gk x i wr=>∃j:Nat,j≤f.length∧gk+j=f.length+1∧i=.int .i64 j∧(∀i (hi:i<f.length),i<j→f[i].1≠s)∧Grow w wr∧Blk wr (w.heap.size+1) 27 Cv.zero.cells);exact⟨0,by omega,by omega,rfl,fun i _ h=>absurd h (by omega),HG.o,HB.o⟩;obtain⟨j,hj,kW,rfl,hne,hw,hB⟩:=hrel;have HN:=aa hne;have HW:=aa hw;have mC:=aa hB;by_cases hlt:j<f.length
 ·obtain⟨gk',rfl⟩:=bS gk (by omega);obtain⟨bk,o,x,ha,hbk,es,im,e0,e1,e2,e3,e4,hx⟩:=HV.o.iF j hlt;replace es:=((aM.o.trans hw).below.cell hbk).trans es;replace e0:=((aM.o.trans hw).below.cell hbk).trans e0;replace e1:=((aM.o.trans hw).below.cell hbk).trans e1;replace e2:=((aM.o.trans hw).below.cell hbk).trans e2;replace e3:=((aM.o.trans hw).below.cell hbk).trans e3;replace e4:=((aM.o.trans hw).below.cell hbk).trans e4;replace hbk:=df hbk (aM.o.trans hw).size;dsimp only at ha;subst ha;have HX:=aa hx;obtain⟨q,hq⟩:∃q,f[j].1=q:=⟨_,rfl⟩;rw[hq] at es;have HQ:=aa hq;have mY:=aa (fun cs=>hw.alloc (.cells cs 82));have tZ:=aa (fun cs=>hB.alloc (.cells cs 82))
  have hc1:=(tZ.o #[.string q,.int .i64 x.k,.int .u64 x.n,.slice x.aB x.nB x.cB,.slice x.aL x.nL x.cL,.slice x.aF x.nF x.cF]).cell;have iO:=(tZ.o #[.string q,.int .i64 x.k,.int .u64 x.n,.slice x.aB x.nB x.cB,.slice x.aL x.nL x.cL,.slice x.aF x.nF x.cF]).lt;have hz1:=(tZ.o #[.string q,.int .i64 x.k,.int .u64 x.n,.slice x.aB x.nB x.cB,.slice x.aL x.nL x.cL,.slice x.aF x.nF x.cF]).frozen;clear hne hw hB hx hq;by_cases he:q=s
  ·subst he;have HF:=aa (show (f.find? fun x=>decide (x.1=q)).map Prod.snd=some f[j].2 by rw[OE hlt HN.o HQ.o];rfl);go_wp2_with fail;refine iE (pZ rfl rfl rfl x (vU (c:=x) (tZ.o _))) rfl (kX.yes HF.o ((mY.o _).mD (fD _) x) HX.o)
  have HE:=aa he;have nU:(q.toList==s.toList)=false:=by
   simp only[tJ,ne_eq];intro h;rw[toList_data,toList_data] at h;exact he (CQ (Az h))
  clear he;go_wp2_with fail;go_roundg gk';refine⟨j+1,by omega,by omega,by go_num,fun i hi hij=>?_,mY.o _,tZ.o _⟩;by_cases ir:i=j
  ·subst ir;rw[HQ.o];exact HE.o
  exact HN.o i hi (by omega);omega
 obtain⟨gk',rfl⟩:=bS gk (by omega);obtain rfl:j=f.length:=by omega
 have HF:=aa (show (f.find? fun x=>decide (x.1=s)).map Prod.snd=none by rw[KI (fun i hi=>HN.o i hi hi)];rfl);have hc1:=mC.o.cell;have iO:=mC.o.lt;have hz1:=mC.o.frozen;clear hne hw hB;go_wp2_with fail;refine iE (pZ rfl rfl rfl Cv.zero (Dl (c:=Cv.zero) mC.o)) rfl (kX.no HF.o (HW.o.mD (fD _) Cv.zero))
theorem akM(v:V)(s:ByteArray)(c:Cv)(w0 w:World)(hg0:Grow w0 w)(hv:In w0 v c):Calls prog 48 #[c.agg,.string s] w (kX w0 w (jl v s)):=by
 obtain⟨k,n,b,l,f⟩:=v;by_cases hk:k=7
 ·subst hk;exact akK n b l f s c w0 w hg0 hv
 exact akL k hk n b l f s c w0 w hg0 hv
end
abbrev OH:=@kX.no
abbrev OG:=@kX.yes
section
open Go.RowKit Go.Shelf
theorem Gf(w:World)(b:Nat):(callFunc 188 #[.float .f64 b]).run prog w=.ok (.value (.int .u64 b)) w:=by kernel_rfl
theorem Ua(w:World):Calls prog 207 #[.int .i64 (-1)] w fun e w'=>e=.returned (.float .f64 18442240474082181120)∧w=w':=by
 have hb:=pQ
 go_enter func207,ntmps207;go_wp2;go_ret;exact⟨rfl,rfl⟩
theorem abo{f:Nat}{s:Bool}{m:Nat}{p:Int}(h:Ieee.double.read f=.number s m p):dt f=false:=by
 unfold dt;rw[Ox h];rfl
theorem abp:dt 18442240474082181120=false:=by decide
theorem akN(f:Nat)(s:Bool)(m:Nat)(p:Int)(hr:Ieee.double.read f=.number s m p)(hm:m≠0)(hp:-1074≤p)(hs:s=false)(hf:1≤f)(hf2:f≤18446744073709551616)(w:World) :
 Calls prog 206 #[.float .f64 f,.float .f64 18442240474082181120] w fun e w'=>e=.returned (.float .f64 (f-1))∧w=w':=by
 have hb:=pQ
 have hb2:=Gf;have h1:=Ox hr;have h2:(FloatKind.f64.format.order f 18442240474082181120==some Ordering.eq)=false:=by
  show (Ieee.double.order f 18442240474082181120==some Ordering.eq)=false;rw[(KF hr).1];rfl
 have h3:(FloatKind.f64.format.order 18442240474082181120 f==some Ordering.gt)=false:=by
  show (Ieee.double.order 18442240474082181120 f==some Ordering.gt)=false;rw[(KF hr).2];rfl
 have h4:(FloatKind.f64.format.order f 0==some Ordering.eq)=false:=by
  show (Ieee.double.order f 0==some Ordering.eq)=false;rw[KG hr hm hp,hs];rfl
 have h4':(FloatKind.f64.format.order f 0==some Ordering.gt)=true:=by
  show (Ieee.double.order f 0==some Ordering.gt)=true;rw[KG hr hm hp,hs];rfl
 have h5:=abo hr;have h6:=abp;have hw:IntKind.u64.wrap ((f:Int)-1)=(f:Int)-1:=by rw[IntKind.wrap_u64];omega
 have e1:((f:Int)-1).toNat=f-1:=by omega
 clear hr hs hm hp h1;go_enter func206,ntmps206;go_wp2_with (first
  | (go_at_call 140;refine(xt f _).mono ?_;rintro e w' ⟨rfl,rfl⟩)
  | (go_at_call 140;refine(xt 18442240474082181120 _).mono ?_;rintro e w' ⟨rfl,rfl⟩))
 go_ret;exact⟨by first | rfl | (congr 2;omega),rfl⟩
theorem akO(f:Nat)(s:Bool)(m:Nat)(p:Int)(hr:Ieee.double.read f=.number s m p)(hm:m≠0)(hp:-1074≤p)(hs:s=true)(hf2:f+1<18446744073709551616)(w:World) :
 Calls prog 206 #[.float .f64 f,.float .f64 18442240474082181120] w fun e w'=>e=.returned (.float .f64 (f+1))∧w=w':=by
 have hb:=pQ
 have hb2:=Gf;have h1:=Ox hr;have h2:(FloatKind.f64.format.order f 18442240474082181120==some Ordering.eq)=false:=by
  show (Ieee.double.order f 18442240474082181120==some Ordering.eq)=false;rw[(KF hr).1];rfl
 have h3:(FloatKind.f64.format.order 18442240474082181120 f==some Ordering.gt)=false:=by
  show (Ieee.double.order 18442240474082181120 f==some Ordering.gt)=false;rw[(KF hr).2];rfl
 have h4:(FloatKind.f64.format.order f 0==some Ordering.eq)=false:=by
  show (Ieee.double.order f 0==some Ordering.eq)=false;rw[KG hr hm hp,hs];rfl
 have h4':(FloatKind.f64.format.order f 0==some Ordering.gt)=false:=by
  show (Ieee.double.order f 0==some Ordering.gt)=false;rw[KG hr hm hp,hs];rfl
 have h5:=abo hr;have h6:=abp;have hw:IntKind.u64.wrap ((f:Int)+1)=(f:Int)+1:=by rw[IntKind.wrap_u64];omega
 have e1:((f:Int)+1).toNat=f+1:=by omega
 clear hr hs hm hp h1;go_enter func206,ntmps206;go_wp2_with (first
  | (go_at_call 140;refine(xt f _).mono ?_;rintro e w' ⟨rfl,rfl⟩)
  | (go_at_call 140;refine(xt 18442240474082181120 _).mono ?_;rintro e w' ⟨rfl,rfl⟩))
 go_ret;exact⟨by first | rfl | (congr 2;omega),rfl⟩
theorem acb(i:Int)(w:World)(h1:-9223372036854775808≤i)(h2:i≤9223372036854775807) :
 Calls prog 185 #[.int .i64 i] w fun e w'=>e=.returned (.tuple #[.float .f64 (fl i).1,.int .u64 ((fl i).2:Nat)])∧w=w':=by
 have hc:=Di i h1 h2;obtain⟨g,hg⟩:∃g,(fl i).1=g:=⟨_,rfl⟩;obtain⟨rest,hrest⟩:∃g,(fl i).2=g:=⟨_,rfl⟩;obtain⟨f0,pM⟩:∃f0,FloatKind.f64.nearest i=f0:=⟨_,rfl⟩;obtain⟨n,hn⟩:∃n,i-(rest:Int)=n:=⟨_,rfl⟩;rw[hg,hrest,pM,hn] at hc;rw[hg,hrest];clear hg hrest;have hv:=I7 g n hc.val;have hsm:=hc.small;have hlo:=hc.lo;have hhi:=hc.hi;have hsub:IntKind.u64.wrap (IntKind.u64.wrap i-IntKind.u64.wrap n)=(rest:Int):=by
  have e:=hc.eq;rw[IntKind.wrap_u64,IntKind.wrap_u64,IntKind.wrap_u64];omega
 have E8:0<i→IntKind.u64.wrap (i-IntKind.u64.wrap n)=(rest:Int):=by
  have e:=hc.eq;intro hi;rw[IntKind.wrap_u64,IntKind.wrap_u64];omega
 have hlt:FloatKind.f64.format.order g 4890909195324358656=some Ordering.lt:=hc.lt;have hfi:floatOfInt FloatKind.f64 i=f0:=pM;have hd:decide (i<n)=false:=by simpa using hhi
 have hgb:=hc.bits;have hst:=hc.step;clear hc;clear hn pM;have hbb:=pQ
 rcases hst with rfl | ⟨hpos,rfl,ho,s,m,p,hr,hm,hp,hs⟩ | ⟨hneg,rfl,⟨ho,n',hv',hn'⟩,s,m,p,hr,hm,hp,hs⟩
 ·by_cases hpos:0<i
  ·have akP:=E8 hpos;clear E8;go_enter func185,ntmps185;go_wp2;go_ret2;exact⟨rfl,rfl⟩
  clear E8;go_enter func185,ntmps185;go_wp2;go_ret2;exact⟨rfl,rfl⟩
 ·have HN:=aa (fun w=>akN (g+1) s m p hr hm hp hs (by omega) (by omega) w);rw[Fx] at HN;have akP:=E8 hpos;clear hr hm hp hs E8;rcases ho with ho | ⟨ho,n',hv',hn'⟩
  ·have ho':FloatKind.f64.format.order (g+1) 4890909195324358656=some Ordering.eq:=ho;clear ho;go_enter func185,ntmps185;go_wp2_with (first | (go_at_call 207;refine(Ua _).mono ?_;rintro e w' ⟨rfl,rfl⟩) | (go_at_call 206;refine(HN.o _).mono ?_;rintro e w' ⟨rfl,rfl⟩));go_ret2;exact⟨rfl,rfl⟩
  have ho':FloatKind.f64.format.order (g+1) 4890909195324358656=some Ordering.lt:=ho;have hv2:=I7 (g+1) n' hv';have hd2:decide (i<n')=true:=by simpa using hn'
  clear ho hv';go_enter func185,ntmps185;go_wp2_with (first | (go_at_call 207;refine(Ua _).mono ?_;rintro e w' ⟨rfl,rfl⟩) | (go_at_call 206;refine(HN.o _).mono ?_;rintro e w' ⟨rfl,rfl⟩));go_ret2;exact⟨rfl,rfl⟩
 have HN:=aa (fun w=>akO f0 s m p hr hm hp hs (by omega) w);have ho':FloatKind.f64.format.order f0 4890909195324358656=some Ordering.lt:=ho;have hv2:=I7 f0 n' hv';have hd2:decide (i<n')=true:=by simpa using hn'
 clear hr hm hp hs ho hv' E8;go_enter func185,ntmps185;go_wp2_with (first | (go_at_call 207;refine(Ua _).mono ?_;rintro e w' ⟨rfl,rfl⟩) | (go_at_call 206;refine(HN.o _).mono ?_;rintro e w' ⟨rfl,rfl⟩));go_ret2;exact⟨rfl,rfl⟩
end
section
open Go.RowKit Go.Shelf
noncomputable def vW(u v:V):Int×Int:=if dM u.good v.good=0 then (V.cmp u v,0) else (0,dM u.good v.good)
theorem akQ{a b:Int}(h:dM a b=0):a=0∧b=0:=by
 unfold dM at h;split at h
 ·exact⟨by assumption,h⟩
 contradiction
theorem KM(u v:V)(c d:Cv)(w:World)(hu:u.zb)(hv:v.zb)(hT:eP w)(h:In w u c)(k:In w v d) :
 Calls prog 22 #[c.agg,d.agg] w fun e w'=>e=.returned (.tuple #[.int .i64 (vW u v).1,.int .i64 (vW u v).2])∧Grow w w':=by
 have aM:=aa (((ah w).alloc (.cells c.cells 27)).alloc (.cells d.cells 27));have bg:=aa ((aD w 27 c.cells).alloc (.cells d.cells 27));have gQ:=aa (cX (w:=w.alloc (.cells c.cells 27)) (g:=w.heap.size+1) (by simp) 27 d.cells);have HU:=aa (fun w2 (hg:Grow w w2)=>K0 u w2 c hu (hT.grow hg) (h.grow hg));have HV:=aa (fun w2 (hg:Grow w w2)=>K0 v w2 d hv (hT.grow hg) (k.grow hg));have HC:=aa (fun w2 (hg:Grow w w2) (h1:u.formed=true) (h2:v.formed=true)=>ajF u v h1 h2 w2 c d (h.grow hg) (k.grow hg));obtain⟨g1,hg1⟩:∃g,u.good=g:=⟨_,rfl⟩;obtain⟨g2,hg2⟩:∃g,v.good=g:=⟨_,rfl⟩;have HE:=aa (show vW u v=if dM g1 g2=0 then (V.cmp u v,0) else (0,dM g1 g2) by unfold vW;rw[hg1,hg2]);rw[hg1] at HU;rw[hg2] at HV;have aO:=aa hg1;have HG2:=aa hg2
 have HO:=aa (fun g cap t w2 hB=>ajz g1 g2 g cap t w2 hB);obtain⟨z,hz⟩:∃z,dM g1 g2=z:=⟨_,rfl⟩;rw[hz] at HO HE;have HZ:=aa hz;have hc0:=bg.o.cell;have hd0:=gQ.o.cell;have hl0:=bg.o.lt;have hm0:=gQ.o.lt;clear hu hv hT h k hg1 hg2 hz;by_cases h0:z=0
 ·subst h0;have hform:=akQ HZ.o;have f1:=lR (v:=u) (by rw[aO.o];exact hform.1);have f2:=lR (v:=v) (by rw[HG2.o];exact hform.2);have HF:=aa (And.intro f1.1 f2.1);rw[aw rfl] at HE;clear hform f1 f2;go_enter func22,ntmps22;go_wp2_with fail;go_region_held3 (fun w'=>(∀q,w'.cell? ⟨w.heap.size,q,none⟩=c.cells[q]?)∧(∀q,w'.cell? ⟨w.heap.size+1,q,none⟩=d.cells[q]?)) (first | go_keep | exact⟨lO,qh⟩ | exact⟨ov,hdy⟩ | exact⟨hcz,JT⟩)
   (first | ((with_reducible refine(HU.o _ bJ.o).mono ?_);rintro e wx ⟨rfl,hgx⟩;have px:=aa ((bJ.o.trans hgx).alloc (.cells #[.int .i64 g1,.int .i64 g2] 29));have jW:=aa ((bI.o.grow hgx).alloc (.cells #[.int .i64 g1,.int .i64 g2] 29));have jX:=aa ((fN.o.grow hgx).alloc (.cells #[.int .i64 g1,.int .i64 g2] 29));have ov:=(bI.o.grow hgx).cell;have hdy:=(fN.o.grow hgx).cell;have hcz:=jW.o.cell;have JT:=jX.o.cell;have Ub:=jW.o.lt;have Uc:=jX.o.lt;clear hgx) | ((with_reducible refine(HV.o _ bJ.o).mono ?_);rintro e wx ⟨rfl,hgx⟩;have px:=aa ((bJ.o.trans hgx).alloc (.cells #[.int .i64 g1,.int .i64 g2] 29));have jW:=aa ((bI.o.grow hgx).alloc (.cells #[.int .i64 g1,.int .i64 g2] 29));have jX:=aa ((fN.o.grow hgx).alloc (.cells #[.int .i64 g1,.int .i64 g2] 29));have ov:=(bI.o.grow hgx).cell;have hdy:=(fN.o.grow hgx).cell;have hcz:=jW.o.cell;have JT:=jX.o.cell;have Ub:=jW.o.lt;have Uc:=jX.o.lt;clear hgx) | ((with_reducible refine(HU.o _ aM.o.drew).mono ?_);rintro e wx ⟨rfl,hgx⟩;have bJ:=aa (aM.o.drew.trans hgx);have bI:=aa (bg.o.drew.grow hgx);have fN:=aa (gQ.o.drew.grow hgx);have lO:=bI.o.cell;have qh:=fN.o.cell;have hlx:=bI.o.lt;have hmx:=fN.o.lt;clear hgx) | ((with_reducible refine(HV.o _ aM.o.drew).mono ?_);rintro e wx ⟨rfl,hgx⟩;have bJ:=aa (aM.o.drew.trans hgx);have bI:=aa (bg.o.drew.grow hgx);have fN:=aa (gQ.o.drew.grow hgx);have lO:=bI.o.cell;have qh:=fN.o.cell;have hlx:=bI.o.lt;have hmx:=fN.o.lt;clear hgx) | (go_at_call 49;refine(HO.o _ _ _ _ (aD _ _ _)).mono ?_;rintro e wz ⟨rfl,rfl⟩))
  all_goals
   go_wp2_with fail
   refine(HC.o _ px.o HF.o.1 HF.o.2).mono ?_
   rintro e w2 ⟨rfl,hg⟩
   have HGZ:=aa (px.o.trans hg)
   clear hg
   go_wp2_with fail
   go_ret2
   exact⟨by rw[HE.o];rfl,HGZ.o⟩
 have E7:(z != 0)=true:=by simpa using h0
 rw[ai h0] at HE;clear h0;go_enter func22,ntmps22;go_wp2_with fail;go_region_held3 (fun w'=>(∀q,w'.cell? ⟨w.heap.size,q,none⟩=c.cells[q]?)∧(∀q,w'.cell? ⟨w.heap.size+1,q,none⟩=d.cells[q]?)) (first | go_keep | exact⟨lO,qh⟩ | exact⟨ov,hdy⟩ | exact⟨hcz,JT⟩)
  (first | ((with_reducible refine(HU.o _ bJ.o).mono ?_);rintro e wx ⟨rfl,hgx⟩;have px:=aa ((bJ.o.trans hgx).alloc (.cells #[.int .i64 g1,.int .i64 g2] 29));have jW:=aa ((bI.o.grow hgx).alloc (.cells #[.int .i64 g1,.int .i64 g2] 29));have jX:=aa ((fN.o.grow hgx).alloc (.cells #[.int .i64 g1,.int .i64 g2] 29));have ov:=(bI.o.grow hgx).cell;have hdy:=(fN.o.grow hgx).cell;have hcz:=jW.o.cell;have JT:=jX.o.cell;have Ub:=jW.o.lt;have Uc:=jX.o.lt;clear hgx) | ((with_reducible refine(HV.o _ bJ.o).mono ?_);rintro e wx ⟨rfl,hgx⟩;have px:=aa ((bJ.o.trans hgx).alloc (.cells #[.int .i64 g1,.int .i64 g2] 29));have jW:=aa ((bI.o.grow hgx).alloc (.cells #[.int .i64 g1,.int .i64 g2] 29));have jX:=aa ((fN.o.grow hgx).alloc (.cells #[.int .i64 g1,.int .i64 g2] 29));have ov:=(bI.o.grow hgx).cell;have hdy:=(fN.o.grow hgx).cell;have hcz:=jW.o.cell;have JT:=jX.o.cell;have Ub:=jW.o.lt;have Uc:=jX.o.lt;clear hgx) | ((with_reducible refine(HU.o _ aM.o.drew).mono ?_);rintro e wx ⟨rfl,hgx⟩;have bJ:=aa (aM.o.drew.trans hgx);have bI:=aa (bg.o.drew.grow hgx);have fN:=aa (gQ.o.drew.grow hgx);have lO:=bI.o.cell;have qh:=fN.o.cell;have hlx:=bI.o.lt;have hmx:=fN.o.lt;clear hgx) | ((with_reducible refine(HV.o _ aM.o.drew).mono ?_);rintro e wx ⟨rfl,hgx⟩;have bJ:=aa (aM.o.drew.trans hgx);have bI:=aa (bg.o.drew.grow hgx);have fN:=aa (gQ.o.drew.grow hgx);have lO:=bI.o.cell;have qh:=fN.o.cell;have hlx:=bI.o.lt;have hmx:=fN.o.lt;clear hgx) | (go_at_call 49;refine(HO.o _ _ _ _ (aD _ _ _)).mono ?_;rintro e wz ⟨rfl,rfl⟩))
 all_goals
  go_wp2_with fail
  go_ret2
  exact⟨by rw[HE.o];rfl,px.o⟩
end
section
open Go.RowKit Go.Shelf
theorem akR(k:Int)(n:Nat)(b:List UInt8)(l:List V)(f:List (ByteArray×V))(w:World)(c:Cv)(hk:k<1∨8<k)(hv:In w (.mk k n b l f) c) :
 Calls prog 100 #[c.agg] w fun e w'=>e=.returned (.bool false)∧Grow w w':=by
 have HV:=aa hv;obtain⟨aB,aL,aF,cB,cL,cF,rfl,h1,h2,h3,h4,h5,h6,h7,h8,h9,hb⟩:=hv.open;have HB:=aa hb;clear hb hv;rcases hk with hk | hk
 all_goals
  go_enter func100,ntmps100
  go_wp2_with fail
  go_ret
  exact⟨rfl,(ah w).alloc _⟩
theorem akS(n:Nat)(b:List UInt8)(l:List V)(f:List (ByteArray×V))(w:World)(c:Cv)(ho:V.own 1 n b l.length f.length=false)(hv:In w (.mk 1 n b l f) c) :
 Calls prog 100 #[c.agg] w fun e w'=>e=.returned (.bool false)∧Grow w w':=by
 have HV:=aa hv;obtain⟨aB,aL,aF,cB,cL,cF,rfl,h1,h2,h3,h4,h5,h6,h7,h8,h9,hb⟩:=hv.open;have HB:=aa hb;clear hb hv;have HO:=aa ho;clear ho;by_cases p0:((n:Int) != 0)=true
 ·go_enter func100,ntmps100;go_wp2_with fail;go_ret;exact⟨rfl,(ah w).alloc _⟩
 have q0:((n:Int) != 0)=false:=by simpa using p0
 by_cases p1:b=[]
 rotate_left
 ·have qj:0<b.length:=eT.2 p1;have ql:(0:Int)<(b.length:Int):=by omega
  go_enter func100,ntmps100;go_wp2_with fail;go_ret;exact⟨rfl,(ah w).alloc _⟩
 subst p1;by_cases p2:l=[]
 rotate_left
 ·have pB:0<l.length:=eT.2 p2;have pC:(0:Int)<(l.length:Int):=by omega
  go_enter func100,ntmps100;go_wp2_with fail;go_ret;exact⟨rfl,(ah w).alloc _⟩
 subst p2;by_cases p3:f=[]
 rotate_left
 ·have Nw:0<f.length:=eT.2 p3;have Ny:(0:Int)<(f.length:Int):=by omega
  go_enter func100,ntmps100;go_wp2_with fail;go_ret;exact⟨rfl,(ah w).alloc _⟩
 subst p3;exfalso;have ho:=HO.o;simp only[V.own,lD,lF,j4] at ho
 try simp at ho
 all_goals (first | omega | simp_all)
theorem akT(n:Nat)(b:List UInt8)(l:List V)(f:List (ByteArray×V))(w:World)(c:Cv)(ho:V.own 2 n b l.length f.length=false)(hv:In w (.mk 2 n b l f) c) :
 Calls prog 100 #[c.agg] w fun e w'=>e=.returned (.bool false)∧Grow w w':=by
 have HV:=aa hv;obtain⟨aB,aL,aF,cB,cL,cF,rfl,h1,h2,h3,h4,h5,h6,h7,h8,h9,hb⟩:=hv.open;have HB:=aa hb;clear hb hv;have HO:=aa ho;clear ho;by_cases p0:(1:Int)<(n:Int)
 ·go_enter func100,ntmps100;go_wp2_with fail;go_ret;exact⟨rfl,(ah w).alloc _⟩
 have q0:¬ ((1:Int)<(n:Int)):=p0;by_cases p1:b=[]
 rotate_left
 ·have qj:0<b.length:=eT.2 p1;have ql:(0:Int)<(b.length:Int):=by omega
  go_enter func100,ntmps100;go_wp2_with fail;go_ret;exact⟨rfl,(ah w).alloc _⟩
 subst p1;by_cases p2:l=[]
 rotate_left
 ·have pB:0<l.length:=eT.2 p2;have pC:(0:Int)<(l.length:Int):=by omega
  go_enter func100,ntmps100;go_wp2_with fail;go_ret;exact⟨rfl,(ah w).alloc _⟩
 subst p2;by_cases p3:f=[]
 rotate_left
 ·have Nw:0<f.length:=eT.2 p3;have Ny:(0:Int)<(f.length:Int):=by omega
  go_enter func100,ntmps100;go_wp2_with fail;go_ret;exact⟨rfl,(ah w).alloc _⟩
 subst p3;exfalso;have ho:=HO.o;simp only[V.own,lD,lF,j4] at ho
 try simp at ho
 all_goals (first | omega | simp_all)
theorem akU(n:Nat)(b:List UInt8)(l:List V)(f:List (ByteArray×V))(w:World)(c:Cv)(ho:V.own 3 n b l.length f.length=false)(hv:In w (.mk 3 n b l f) c) :
 Calls prog 100 #[c.agg] w fun e w'=>e=.returned (.bool false)∧Grow w w':=by
 have HV:=aa hv;obtain⟨aB,aL,aF,cB,cL,cF,rfl,h1,h2,h3,h4,h5,h6,h7,h8,h9,hb⟩:=hv.open;have HB:=aa hb;clear hb hv;have HO:=aa ho;clear ho;by_cases p0:b=[]
 rotate_left
 ·have T6:0<b.length:=eT.2 p0;have T7:(0:Int)<(b.length:Int):=by omega
  go_enter func100,ntmps100;go_wp2_with fail;go_ret;exact⟨rfl,(ah w).alloc _⟩
 subst p0;by_cases p1:l=[]
 rotate_left
 ·have qj:0<l.length:=eT.2 p1;have ql:(0:Int)<(l.length:Int):=by omega
  go_enter func100,ntmps100;go_wp2_with fail;go_ret;exact⟨rfl,(ah w).alloc _⟩
 subst p1;by_cases p2:f=[]
 rotate_left
 ·have pB:0<f.length:=eT.2 p2;have pC:(0:Int)<(f.length:Int):=by omega
  go_enter func100,ntmps100;go_wp2_with fail;go_ret;exact⟨rfl,(ah w).alloc _⟩
 subst p2;exfalso;have ho:=HO.o;simp only[V.own,lD,lF,j4] at ho
 try simp at ho
 all_goals (first | omega | simp_all)
theorem akV(n:Nat)(b:List UInt8)(l:List V)(f:List (ByteArray×V))(w:World)(c:Cv)(ho:V.own 4 n b l.length f.length=false)(hv:In w (.mk 4 n b l f) c) :
 Calls prog 100 #[c.agg] w fun e w'=>e=.returned (.bool false)∧Grow w w':=by
 have HV:=aa hv;obtain⟨aB,aL,aF,cB,cL,cF,rfl,h1,h2,h3,h4,h5,h6,h7,h8,h9,hb⟩:=hv.open;have HB:=aa hb;clear hb hv;have HO:=aa ho;clear ho;by_cases p0:b=[]
 rotate_left
 ·have T6:0<b.length:=eT.2 p0;have T7:(0:Int)<(b.length:Int):=by omega
  go_enter func100,ntmps100;go_wp2_with fail;go_ret;exact⟨rfl,(ah w).alloc _⟩
 subst p0;by_cases p1:l=[]
 rotate_left
 ·have qj:0<l.length:=eT.2 p1;have ql:(0:Int)<(l.length:Int):=by omega
  go_enter func100,ntmps100;go_wp2_with fail;go_ret;exact⟨rfl,(ah w).alloc _⟩
 subst p1;by_cases p2:f=[]
 rotate_left
 ·have pB:0<f.length:=eT.2 p2;have pC:(0:Int)<(f.length:Int):=by omega
  go_enter func100,ntmps100;go_wp2_with fail;go_ret;exact⟨rfl,(ah w).alloc _⟩
 subst p2;exfalso;have ho:=HO.o;simp only[V.own,lD,lF,j4] at ho
 try simp at ho
 all_goals (first | omega | simp_all)
theorem akW(n:Nat)(b:List UInt8)(l:List V)(f:List (ByteArray×V))(w:World)(c:Cv)(ho:V.own 5 n b l.length f.length=false)(hv:In w (.mk 5 n b l f) c) :
 Calls prog 100 #[c.agg] w fun e w'=>e=.returned (.bool false)∧Grow w w':=by
 have HV:=aa hv;obtain⟨aB,aL,aF,cB,cL,cF,rfl,h1,h2,h3,h4,h5,h6,h7,h8,h9,hb⟩:=hv.open;have HB:=aa hb;clear hb hv;have HO:=aa ho;clear ho;by_cases p0:((n:Int) != 0)=true
 ·go_enter func100,ntmps100;go_wp2_with fail;go_ret;exact⟨rfl,(ah w).alloc _⟩
 have q0:((n:Int) != 0)=false:=by simpa using p0
 by_cases p1:l=[]
 rotate_left
 ·have qj:0<l.length:=eT.2 p1;have ql:(0:Int)<(l.length:Int):=by omega
  go_enter func100,ntmps100;go_wp2_with fail;go_ret;exact⟨rfl,(ah w).alloc _⟩
 subst p1;by_cases p2:f=[]
 rotate_left
 ·have pB:0<f.length:=eT.2 p2;have pC:(0:Int)<(f.length:Int):=by omega
  go_enter func100,ntmps100;go_wp2_with fail;go_ret;exact⟨rfl,(ah w).alloc _⟩
 subst p2;by_cases p3:Lib.validD b=false
 ·have P:=aa p3;clear p3;go_enter func100,ntmps100;go_wp2_with fail;refine(T4 b aB cB _ (HB.o.grow ((ah w).alloc _)) (by omega)).mono ?_;rintro e w' ⟨rfl,rfl⟩;rw[P.o];go_wp2_with fail;go_ret;exact⟨rfl,(ah w).alloc _⟩
 have P:=aa p3;clear p3;exfalso;have ho:=HO.o;simp only[V.own,lD,lF,j4] at ho;have P2:=P.o
 try simp at ho
 all_goals (first | omega | simp_all)
theorem akX(n:Nat)(b:List UInt8)(l:List V)(f:List (ByteArray×V))(w:World)(c:Cv)(ho:V.own 6 n b l.length f.length=false)(hv:In w (.mk 6 n b l f) c) :
 Calls prog 100 #[c.agg] w fun e w'=>e=.returned (.bool false)∧Grow w w':=by
 have HV:=aa hv;obtain⟨aB,aL,aF,cB,cL,cF,rfl,h1,h2,h3,h4,h5,h6,h7,h8,h9,hb⟩:=hv.open;have HB:=aa hb;clear hb hv;have HO:=aa ho;clear ho;by_cases p0:((n:Int) != 0)=true
 ·go_enter func100,ntmps100;go_wp2_with fail;go_ret;exact⟨rfl,(ah w).alloc _⟩
 have q0:((n:Int) != 0)=false:=by simpa using p0
 by_cases p1:l=[]
 rotate_left
 ·have qj:0<l.length:=eT.2 p1;have ql:(0:Int)<(l.length:Int):=by omega
  go_enter func100,ntmps100;go_wp2_with fail;go_ret;exact⟨rfl,(ah w).alloc _⟩
 subst p1;by_cases p2:f=[]
 rotate_left
 ·have pB:0<f.length:=eT.2 p2;have pC:(0:Int)<(f.length:Int):=by omega
  go_enter func100,ntmps100;go_wp2_with fail;go_ret;exact⟨rfl,(ah w).alloc _⟩
 subst p2;exfalso;have ho:=HO.o;simp only[V.own,lD,lF,j4] at ho
 try simp at ho
 all_goals (first | omega | simp_all)
theorem akY(n:Nat)(b:List UInt8)(l:List V)(f:List (ByteArray×V))(w:World)(c:Cv)(ho:V.own 7 n b l.length f.length=false)(hv:In w (.mk 7 n b l f) c) :
 Calls prog 100 #[c.agg] w fun e w'=>e=.returned (.bool false)∧Grow w w':=by
 have HV:=aa hv;obtain⟨aB,aL,aF,cB,cL,cF,rfl,h1,h2,h3,h4,h5,h6,h7,h8,h9,hb⟩:=hv.open;have HB:=aa hb;clear hb hv;have HO:=aa ho;clear ho;by_cases p0:((n:Int) != 0)=true
 ·go_enter func100,ntmps100;go_wp2_with fail;go_ret;exact⟨rfl,(ah w).alloc _⟩
 have q0:((n:Int) != 0)=false:=by simpa using p0
 by_cases p1:b=[]
 rotate_left
 ·have qj:0<b.length:=eT.2 p1;have ql:(0:Int)<(b.length:Int):=by omega
  go_enter func100,ntmps100;go_wp2_with fail;go_ret;exact⟨rfl,(ah w).alloc _⟩
 subst p1;by_cases p2:f=[]
 rotate_left
 ·have pB:0<f.length:=eT.2 p2;have pC:(0:Int)<(f.length:Int):=by omega
  go_enter func100,ntmps100;go_wp2_with fail;go_ret;exact⟨rfl,(ah w).alloc _⟩
 subst p2;exfalso;have ho:=HO.o;simp only[V.own,lD,lF,j4] at ho
 try simp at ho
 all_goals (first | omega | simp_all)
theorem akZ(n:Nat)(b:List UInt8)(l:List V)(f:List (ByteArray×V))(w:World)(c:Cv)(ho:V.own 8 n b l.length f.length=false)(hv:In w (.mk 8 n b l f) c) :
 Calls prog 100 #[c.agg] w fun e w'=>e=.returned (.bool false)∧Grow w w':=by
 have HV:=aa hv;obtain⟨aB,aL,aF,cB,cL,cF,rfl,h1,h2,h3,h4,h5,h6,h7,h8,h9,hb⟩:=hv.open;have HB:=aa hb;clear hb hv;have HO:=aa ho;clear ho;by_cases p0:((n:Int) != 0)=true
 ·go_enter func100,ntmps100;go_wp2_with fail;go_ret;exact⟨rfl,(ah w).alloc _⟩
 have q0:((n:Int) != 0)=false:=by simpa using p0
 by_cases p1:b=[]
 rotate_left
 ·have qj:0<b.length:=eT.2 p1;have ql:(0:Int)<(b.length:Int):=by omega
  go_enter func100,ntmps100;go_wp2_with fail;go_ret;exact⟨rfl,(ah w).alloc _⟩
 subst p1;by_cases p2:l=[]
 rotate_left
 ·have pB:0<l.length:=eT.2 p2;have pC:(0:Int)<(l.length:Int):=by omega
  go_enter func100,ntmps100;go_wp2_with fail;go_ret;exact⟨rfl,(ah w).alloc _⟩
 subst p2;exfalso;have ho:=HO.o;simp only[V.own,lD,lF,j4] at ho
 try simp at ho
 all_goals (first | omega | simp_all)
theorem ak0(k:Int)(n:Nat)(b:List UInt8)(l:List V)(f:List (ByteArray×V))(w:World)(c:Cv)(ho:V.own k n b l.length f.length=false)(hv:In w (.mk k n b l f) c) :
 Calls prog 100 #[c.agg] w fun e w'=>e=.returned (.bool false)∧Grow w w':=by
 by_cases hk:k<1∨8<k
 ·exact akR k n b l f w c hk hv
 have:k=1∨k=2∨k=3∨k=4∨k=5∨k=6∨k=7∨k=8:=by omega
 rcases this with rfl | rfl | rfl | rfl | rfl | rfl | rfl | rfl
 ·exact akS n b l f w c ho hv
 ·exact akT n b l f w c ho hv
 ·exact akU n b l f w c ho hv
 ·exact akV n b l f w c ho hv
 ·exact akW n b l f w c ho hv
 ·exact akX n b l f w c ho hv
 ·exact akY n b l f w c ho hv
 exact akZ n b l f w c ho hv
theorem ak1(w:World)(c:Cv)(hv:In w (.mk 1 0 [] [] []) c) :
 Calls prog 100 #[c.agg] w fun e w'=>e=.returned (.bool true)∧Grow w w':=by
 obtain⟨aB,aL,aF,cB,cL,cF,rfl,h1,h2,h3,h4,h5,h6,h7,h8,h9,hb⟩:=hv.open;clear hb hv;go_enter func100,ntmps100;go_wp2_with fail;refine fW ?_;go_wp2_with fail;refine fW ?_;go_wp2_with fail;go_ret;exact⟨rfl,(ah w).alloc _⟩
theorem ak2(n:Nat)(hn:n≤1)(w:World)(c:Cv)(hv:In w (.mk 2 n [] [] []) c) :
 Calls prog 100 #[c.agg] w fun e w'=>e=.returned (.bool true)∧Grow w w':=by
 obtain⟨aB,aL,aF,cB,cL,cF,rfl,h1,h2,h3,h4,h5,h6,h7,h8,h9,hb⟩:=hv.open;clear hb hv;go_enter func100,ntmps100;go_wp2_with fail;refine fW ?_;go_wp2_with fail;refine fW ?_;go_wp2_with fail;go_ret;exact⟨rfl,(ah w).alloc _⟩
theorem ak3(n:Nat)(w:World)(c:Cv)(hv:In w (.mk 3 n [] [] []) c) :
 Calls prog 100 #[c.agg] w fun e w'=>e=.returned (.bool true)∧Grow w w':=by
 obtain⟨aB,aL,aF,cB,cL,cF,rfl,h1,h2,h3,h4,h5,h6,h7,h8,h9,hb⟩:=hv.open;clear hb hv;go_enter func100,ntmps100;go_wp2_with fail;refine fW ?_;go_wp2_with fail;refine fW ?_;go_wp2_with fail;go_ret;exact⟨rfl,(ah w).alloc _⟩
theorem ak4(n:Nat)(w:World)(c:Cv)(hv:In w (.mk 4 n [] [] []) c) :
 Calls prog 100 #[c.agg] w fun e w'=>e=.returned (.bool true)∧Grow w w':=by
 obtain⟨aB,aL,aF,cB,cL,cF,rfl,h1,h2,h3,h4,h5,h6,h7,h8,h9,hb⟩:=hv.open;clear hb hv;go_enter func100,ntmps100;go_wp2_with fail;refine fW ?_;go_wp2_with fail;refine fW ?_;go_wp2_with fail;go_ret;exact⟨rfl,(ah w).alloc _⟩
theorem ak5(b:List UInt8)(w:World)(c:Cv)(hv:In w (.mk 6 0 b [] []) c) :
 Calls prog 100 #[c.agg] w fun e w'=>e=.returned (.bool true)∧Grow w w':=by
 obtain⟨aB,aL,aF,cB,cL,cF,rfl,h1,h2,h3,h4,h5,h6,h7,h8,h9,hb⟩:=hv.open;clear hb hv;go_enter func100,ntmps100;go_wp2_with fail;refine fW ?_;go_wp2_with fail;refine fW ?_;go_wp2_with fail;go_ret;exact⟨rfl,(ah w).alloc _⟩
theorem ak6(b:List UInt8)(hu:Lib.validD b=true)(w:World)(c:Cv)(hv:In w (.mk 5 0 b [] []) c) :
 Calls prog 100 #[c.agg] w fun e w'=>e=.returned (.bool true)∧Grow w w':=by
 have P:=aa hu;clear hu;obtain⟨aB,aL,aF,cB,cL,cF,rfl,h1,h2,h3,h4,h5,h6,h7,h8,h9,hb⟩:=hv.open;have HB:=aa hb;clear hb hv;go_enter func100,ntmps100;go_wp2_with fail;refine(T4 b aB cB _ (HB.o.grow ((ah w).alloc _)) (by omega)).mono ?_;rintro e w' ⟨rfl,rfl⟩;rw[P.o];go_wp2_with fail;refine fW ?_;go_wp2_with fail;refine fW ?_;go_wp2_with fail;go_ret;exact⟨rfl,(ah w).alloc _⟩
def Ud(x:V):Prop:=∀(w:World) (c:Cv),In w x c→Calls prog 100 #[c.agg] w fun e w'=>e=.returned (.bool x.formed)∧Grow w w'
theorem ak7(l:List V)(hl:∀x∈l,Ud x)(w:World)(c:Cv)(hv:In w (.mk 7 0 [] l []) c) :
 Calls prog 100 #[c.agg] w fun e w'=>e=.returned (.bool (l.all V.formed))∧Grow w w':=by
 have HV:=aa hv;have Hl:=aa hl;obtain⟨iH,eW⟩:∃A,l.all V.formed=A:=⟨_,rfl⟩;rw[eW];have HA:=aa eW;obtain⟨aB,aL,aF,cB,cL,cF,rfl,h1,h2,h3,h4,h5,h6,h7,h8,h9,hb⟩:=hv.open;clear hb h1 h2 h3 h4 h5 hv hl eW;go_enter func100,ntmps100;go_wp2_with fail;go_loopg [3] (l.length+1) (fun gk i wr=>∃j:Nat,j≤l.length∧gk+j=l.length+1∧i=.int .i64 j∧(l.take j).all V.formed=true ∧
  Grow w wr∧Blk wr w.heap.size 27 (Cv.cells ⟨7,0,aB,0,cB,aL,l.length,cL,aF,0,cF⟩))
 exact⟨0,by omega,by omega,rfl,rfl,(ah w).alloc _,aD _ _ _⟩;obtain⟨j,hj,hg,rfl,ht,hw,hB⟩:=hrel;obtain⟨gk',rfl⟩:=bS gk (by omega);have qm:=aa ht;have hc:=hB.cell;have hBl:=hB.lt;have HW:=aa hw;have HB:=aa hB;by_cases hlt:j<l.length
 ·obtain⟨bk,o,x,ha,hbk,e0,e1,e2,e3,e4,hx⟩:=In.fO (HV.o.grow hw) j hlt;dsimp only at ha;subst ha;have HX:=aa hx;clear hw hx hB ht;go_wp2_with fail;refine(Hl.o _ (aW hlt) _ x HX.o).mono ?_;rintro e w' ⟨rfl,hb'⟩;have hgr:=aa hb';clear hb' e0 e1 e2 e3 e4 hc;obtain⟨R,hR⟩:∃R,l[j].formed=R:=⟨_,rfl⟩;rw[hR];have HR:=aa hR;clear hR
  cases R
  ·go_wp2_with fail;go_ret;refine⟨dE ?_,HW.o.trans hgr.o⟩;rw[← HA.o];exact(CU.2 ⟨l[j],aW hlt,by rw[HR.o];exact CS⟩).symm
  go_wp2_with fail;go_roundg gk';exact⟨j+1,by omega,by omega,by go_num,by rw[mv l j hlt,Fi,qm.o];simp[HR.o],HW.o.trans hgr.o,HB.o.grow hgr.o⟩;omega
 obtain rfl:j=l.length:=by omega
 have hA:iH=true:=by rw[← HA.o];rw[fS] at ht;exact ht
 subst hA;clear hw hB hlt hg ht;go_wp2_with fail;refine fW ?_;go_wp2_with fail;go_ret;exact⟨rfl,HW.o⟩
def JU(f:List (ByteArray×V))(j:Nat):Prop:=(∀i (h:i<f.length),i<j→V.name f[i].1=true∧f[i].2.formed=true)∧∀i t (h:i<f.length) (h':t<f.length),i<t→t<j→f[i].1≠f[t].1
theorem JU.all{f:List (ByteArray×V)}(h:JU f f.length):(f.all fun x=>V.name x.1&&x.2.formed)=true∧(f.map Prod.fst).Nodup:=by
 refine⟨nS.2 fun x hx=>?_,?_⟩
 ·obtain⟨i,hi,rfl⟩:=tG.1 hx;rw[(h.1 i hi hi).1,(h.1 i hi hi).2];rfl
 rw[List.nodup_iff_pairwise_ne,FM];intro i t hi ht hit;rw[iZ,iZ];exact h.2 i t (by simpa using hi) (by simpa using ht) hit (by simpa using ht)
theorem abq{f:List (ByteArray×V)}{j:Nat}(hj:j<f.length)(h:V.name f[j].1=false∨f[j].2.formed=false):((f.all fun x=>V.name x.1&&x.2.formed)&&decide ((f.map Prod.fst).Nodup))=false:=by
 rw[lD];left;exact CU.2 ⟨f[j],aW hj,by rcases h with h | h<;>simp[h]⟩
theorem ak8{f:List (ByteArray×V)}{m j:Nat}(hj:j<f.length)(hm:m<j)(h:f[m].1=f[j].1):((f.all fun x=>V.name x.1&&x.2.formed)&&decide ((f.map Prod.fst).Nodup))=false:=by
 rw[lD];right;rw[j4];intro hn;rw[List.nodup_iff_pairwise_ne,FM] at hn;have:=hn m j (by simp;omega) (by simp;omega) hm;rw[iZ,iZ] at this;exact this h
theorem ak9(f:List (ByteArray×V))(hf:∀x∈f,Ud x.2)(w:World)(c:Cv)(hv:In w (.mk 8 0 [] [] f) c) :
 Calls prog 100 #[c.agg] w fun e w'=>e=.returned (.bool ((f.all fun x=>V.name x.1&&x.2.formed)&&decide ((f.map Prod.fst).Nodup)))∧Grow w w':=by
 have HV:=aa hv;have Hf:=aa hf;obtain⟨iH,eW⟩:∃A,((f.all fun x=>V.name x.1&&x.2.formed)&&decide ((f.map Prod.fst).Nodup))=A:=⟨_,rfl⟩;rw[eW];have HA:=aa eW;obtain⟨aB,aL,aF,cB,cL,cF,rfl,h1,h2,h3,h4,h5,h6,h7,h8,h9,hb⟩:=hv.open;clear hb h1 h2 h3 h4 h5 hv hf eW;go_enter func100,ntmps100;go_wp2_with fail;refine fW ?_;go_wp2_with fail;go_loopg [4] (f.length+1) (fun gk i wr=>∃j:Nat,j≤f.length∧gk+j=f.length+1∧i=.int .i64 j∧JU f j ∧
  Grow w wr∧Blk wr w.heap.size 27 (Cv.cells ⟨8,0,aB,0,cB,aL,0,cL,aF,f.length,cF⟩))
 exact⟨0,by omega,by omega,rfl,⟨fun i _ h=>absurd h (by omega),fun i t _ _ _ h=>absurd h (by omega)⟩,(ah w).alloc _,aD _ _ _⟩;obtain⟨j,hj,hg,rfl,ht,hw,hB⟩:=hrel;obtain⟨gk',rfl⟩:=bS gk (by omega);have qm:=aa ht;have hc:=hB.cell;have hBl:=hB.lt;have HW:=aa hw;have HB:=aa hB;by_cases hlt:j<f.length
 ·obtain⟨bk,o,x,ha,hbk,es,im,e0,e1,e2,e3,e4,hx⟩:=In.iF (HV.o.grow hw) j hlt;dsimp only at ha;subst ha;have HX:=aa hx;clear hw hx hB ht;go_wp2_with fail;refine(Rg f[j].1 _ im).mono ?_;rintro e w1 ⟨rfl,hg1⟩;have fB:=HB.o.grow hg1;have Nt:=aa (HW.o.trans hg1);obtain⟨R,hR⟩:∃R,V.name f[j].1=R:=⟨_,rfl⟩;rw[hR];have HR:=aa hR;clear hR hc hBl;have hc1:=fB.cell;have ak_:=fB.lt;have aQ:=aa fB;have d0:=(hg1.below.cell (p:=⟨bk,o+j*6+1,none⟩) hbk).trans e0;have d1:=(hg1.below.cell (p:=⟨bk,o+j*6+1+1,none⟩) hbk).trans e1;have d2:=(hg1.below.cell (p:=⟨bk,o+j*6+1+2,none⟩) hbk).trans e2;have d3:=(hg1.below.cell (p:=⟨bk,o+j*6+1+3,none⟩) hbk).trans e3;have d4:=(hg1.below.cell (p:=⟨bk,o+j*6+1+4,none⟩) hbk).trans e4;have QZ:=aa (HX.o.grow hg1)
  clear es e0 e1 e2 e3 e4 hg1 fB
  cases R
  ·go_wp2_with fail;go_ret;exact⟨dE (by rw[← HA.o];exact(abq hlt (.inl HR.o)).symm),Nt.o⟩
  go_wp2_with fail;refine(Hf.o _ (aW hlt) _ x QZ.o).mono ?_;rintro e w2 ⟨rfl,hg2⟩;have d_:=aQ.o.grow hg2;have kI:=aa (Nt.o.trans hg2);obtain⟨R2,xZ⟩:∃R,f[j].2.formed=R:=⟨_,rfl⟩;rw[xZ];have cE:=aa xZ;have aG:=aa d_;clear xZ d0 d1 d2 d3 d4 hc1 ak_ d_ hg2
  cases R2
  ·go_wp2_with fail;go_ret;exact⟨dE (by rw[← HA.o];exact(abq hlt (.inr cE.o)).symm),kI.o⟩
  go_wp2_with fail;go_loopg [5] (j+1) (fun gk i wr=>∃m:Nat,m≤j∧gk+m=j+1∧i=.int .i64 m∧(∀t (h:t<f.length),t<m→f[t].1≠f[j].1)∧Grow w2 wr);exact⟨0,by omega,by omega,rfl,fun t _ h=>absurd h (by omega),ah _⟩;obtain⟨m,hm,wQ,rfl,hmt,jb⟩:=hrel;have aY:=aa jb;have mF:=aa (kI.o.trans jb);have aV:=aa (aG.o.grow jb);obtain⟨gm',rfl⟩:∃g,gk=g+1:=⟨gk-1,by omega⟩;have HMT:=aa hmt;clear hmt jb;by_cases hmj:m<j
  ·have hmf:m<f.length:=by omega
   obtain⟨nW,o2,x2,ha2,hbk2,es2,_,_⟩:=In.iF (HV.o.grow mF.o) j hlt;obtain⟨bk3,o3,x3,Ds,amM,es3,_,_⟩:=In.iF (HV.o.grow mF.o) m hmf;dsimp only at ha2 Ds;injection ha2 with ha2;injection ha2 with q1 q2;subst q1 q2;injection Ds with Ds;injection Ds with q1 q2;subst q1 q2;have hc2:=aV.o.cell;have amN:=aV.o.lt;by_cases hn:f[m].1=f[j].1
   ·have tV:(f[m].1.toList==f[j].1.toList)=true:=(yU _ _).2 hn;have HN:=aa hn;clear hn;go_wp2_with fail;go_quiet (fail);go_wp2_with fail;go_ret;exact⟨dE (by rw[← HA.o];exact(ak8 hlt hmj HN.o).symm),mF.o.drewN _⟩
   have tV:(f[m].1.toList==f[j].1.toList)=false:=by
    rw[NP];exact fun h=>hn ((yU _ _).1 h)
   have HN:=aa hn;clear hn;go_wp2_with fail;go_quiet (fail);go_wp2_with fail;go_roundg gm';refine⟨m+1,by omega,by omega,by go_num,fun t h1 h2=>?_,aY.o.drewN _⟩;rcases fh t m with h | h
   ·exact HMT.o t h1 h
   obtain rfl:t=m:=by omega
   exact HN.o;omega
  obtain rfl:m=j:=by omega
  clear hmj wQ;go_wp2_with fail;go_roundg gk';refine⟨m+1,by omega,by omega,by go_num,⟨fun i h1 h2=>?_,fun i t h1 h2 h3 h4=>?_⟩,mF.o,aV.o⟩
  ·rcases fh i m with h | h
   ·exact qm.o.1 i h1 h
   obtain rfl:i=m:=by omega
   exact⟨HR.o,cE.o⟩
  rcases fh t m with h | h
  ·exact qm.o.2 i t h1 h2 h3 h
  obtain rfl:t=m:=by omega
  exact HMT.o i h1 h3;omega
 obtain rfl:j=f.length:=by omega
 have hA:iH=true:=by
  rw[← HA.o,(JU.all ht).1,rN];exact bW (JU.all ht).2
 subst hA;clear hw hB hlt hg ht;go_wp2_with fail;go_ret;exact⟨rfl,HW.o⟩
theorem ala(v:V):Ud v:=by
 induction v using V.ind with
 | h k n b l f hl hf =>
  intro w c hv;rw[rT];by_cases ho:V.own k n b l.length f.length=false
  ·rw[ho];exact ak0 k n b l f w c ho hv
  have Nl:V.own k n b l.length f.length=true:=by simpa using ho
  simp only[V.own,il,J7,iC] at Nl;obtain⟨⟨⟨⟨⟨⟨a1,a2⟩,a3⟩,a4⟩,a5⟩,a6⟩,a7⟩:=Nl;have hL:k≠7→l=[]:=fun hk=>lC (by omega)
  have hF:k≠8→f=[]:=fun hk=>lC (by omega)
  have hB:k≠5→k≠6→b=[]:=fun h1 h2=>lC (by omega)
  have hN:k≠2→k≠3→k≠4→n=0:=fun h1 h2 h3=>by omega
  have wB:V.own k n b l.length f.length=true:=by simpa using ho
  have hk:k=1∨k=2∨k=3∨k=4∨k=5∨k=6∨k=7∨k=8:=by omega
  rw[wB];rcases hk with rfl | rfl | rfl | rfl | rfl | rfl | rfl | rfl
  ·obtain rfl:=hL (by decide);obtain rfl:=hF (by decide);obtain rfl:=hB (by decide) (by decide);obtain rfl:=hN (by decide) (by decide) (by decide);simpa using ak1 w c hv
  ·obtain rfl:=hL (by decide);obtain rfl:=hF (by decide);obtain rfl:=hB (by decide) (by decide);simpa using ak2 n (a3 rfl) w c hv
  ·obtain rfl:=hL (by decide);obtain rfl:=hF (by decide);obtain rfl:=hB (by decide) (by decide);simpa using ak3 n w c hv
  ·obtain rfl:=hL (by decide);obtain rfl:=hF (by decide);obtain rfl:=hB (by decide) (by decide);simpa using ak4 n w c hv
  ·obtain rfl:=hL (by decide);obtain rfl:=hF (by decide);obtain rfl:=hN (by decide) (by decide) (by decide);simpa using ak6 b (a5.resolve_left (by decide)) w c hv
  ·obtain rfl:=hL (by decide);obtain rfl:=hF (by decide);obtain rfl:=hN (by decide) (by decide) (by decide);simpa using ak5 b w c hv
  ·obtain rfl:=hF (by decide);obtain rfl:=hB (by decide) (by decide);obtain rfl:=hN (by decide) (by decide) (by decide);have:=ak7 l (fun x hx=>hl x hx) w c hv;simpa using this
  obtain rfl:=hL (by decide);obtain rfl:=hB (by decide) (by decide);obtain rfl:=hN (by decide) (by decide) (by decide);have:=ak9 f (fun x hx=>hf x hx) w c hv;simpa using this
end
section
open Go.RowKit Go.Shelf
theorem wV(k:Int)(w:World):Calls prog 158 #[.int .i64 k] w fun e w'=>e=.returned (.int .i64 (cls k))∧w=w':=by
 by_cases h:k=4
 ·subst h;go_enter func158,ntmps158;go_wp2_with fail;go_ret;exact⟨rfl,rfl⟩
 have hq:(k==4)=false:=by simpa using h
 have HC:=aa (show cls k=k by unfold cls;rw[ai h]);clear h;go_enter func158,ntmps158;go_wp2_with fail;go_ret;exact⟨cA HC.o.symm,rfl⟩
theorem abr(a b:List UInt8)(A B:Option Addr)(c d:Nat)(w:World)(ha:bA w A a)(hb:bA w B b)(hl:a.length≤140737488355328)(hm:b.length≤140737488355328) :
 Calls prog 161 #[.slice A a.length c,.slice B b.length d] w fun e w'=>e=.returned (.int .i64 (Lib.compareBytes a b))∧Grow w w':=by
 have HA:=aa ha;have HB:=aa hb;clear ha hb;go_enter func161,ntmps161;go_wp2_with fail;go_loopg [5] (a.length+1) (fun gk i wr=>∃j:Nat,j≤a.length∧j≤b.length∧gk+j=a.length+1∧i=.int .i64 j∧a.take j=b.take j∧Grow w wr);exact⟨0,ba _,ba _,rfl,rfl,rfl,ah w⟩;obtain⟨j,hj,G9,hg,rfl,htk,hgr⟩:=hrel;obtain⟨gk',rfl⟩:=bS gk (by omega);have pU:=aa htk;have HG:=aa hgr;clear htk hgr;by_cases h1:j<a.length
 ·by_cases h2:j<b.length
  ·obtain⟨bk,o,rfl,hbk,e0⟩:=(HA.o.grow HG.o).at_ j h1;obtain⟨tU,o',rfl,vN,Dc⟩:=(HB.o.grow HG.o).at_ j h2;by_cases hx:a[j]=b[j]
   ·have alb:=aa (show a.take (j+1)=b.take (j+1) by rw[J4 h1,J4 h2,pU.o,hx]);rw[hx] at e0;clear hx;go_wp2_with fail;go_quiet (fail);go_wp2_with fail;go_roundg gk';exact⟨j+1,by omega,by omega,by omega,by go_num,alb.o,HG.o.drewN _⟩;omega
   have HC:=aa (ajA pU.o h1 h2 hx);have hxq:((a[j].toNat:Int) != (b[j].toNat:Int))=true:=by have:=toNat_ne hx;simp;omega
   have hx1:=a[j].toNat_lt;have hx2:=b[j].toNat_lt;clear hx;go_wp2_with fail;go_quiet (fail);go_wp2_with fail;go_quiet ((go_at_call 159;exact Nr (rG _ _ _)));go_wp2_with fail;go_ret;exact⟨cA HC.o.symm,(HG.o.drewN _).drewN _⟩
  obtain rfl:j=b.length:=by omega
  have HC:=aa (aa2 (show a.take (min a.length b.length)=b.take (min a.length b.length) by rw[FH (by omega)];exact pU.o));go_wp2_with (go_at_call 159;refine(rG _ _ _).mono ?_;rintro e w' ⟨rfl,rfl⟩);go_ret;exact⟨cA HC.o.symm,HG.o⟩
 obtain rfl:j=a.length:=by omega
 have HC:=aa (aa2 (show a.take (min a.length b.length)=b.take (min a.length b.length) by rw[qu (by omega)];exact pU.o));go_wp2_with (go_at_call 159;refine(rG _ _ _).mono ?_;rintro e w' ⟨rfl,rfl⟩);go_ret;exact⟨cA HC.o.symm,HG.o⟩
end
end Go.Proofs.YtndjopkdbdcmdaaGreatDoor
