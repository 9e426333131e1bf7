/- Part 7 of the proof of pgets_card. -/
import Derived.Test.YtndjopkdbdcmdaaGreatDoorPge4
import Derived.Test.YtndjopkdbdcmdaaGreatDoorPge5
import Derived.Test.YtndjopkdbdcmdaaGreatDoorPge6
import Derived.Lib.ConvBytes
import Derived.Lib.SmallJoins
import Derived.StringKeys
import Derived.Laws.OwnMore
import Derived.RegionDies
import Derived.Deep.RegionLaw
import Derived.IntWalk
import Derived.Laws.BytesString
import Derived.Laws.BytesArg
import Derived.Recover
set_option linter.unusedVariables false
set_option linter.unusedSimpArgs false
set_option maxRecDepth 100000
set_option maxHeartbeats 12800000
open Go.Proofs.Tryz
namespace Go.Proofs.YtndjopkdbdcmdaaGreatDoor
variable {A:Option Addr}{F:Func}{W W' w w' w3:World}{base g j lo m pb vb z:Nat}{cs tmps:Array Value}{s:ByteArray}{t te:TypeId}{v v':Value}
section
open Go.RowKit Go.Shelf
theorem alo(w:World)(s:ByteArray):∃c W,(convert 9 23 (.string s)).run prog w=.ok (.slice (some ⟨w.heap.size,0,none⟩) s.size c) W∧Grow w W∧bh W (some ⟨w.heap.size,0,none⟩) s.data.toList:=by
 have hg:Grow w (Lib.bytesWorld w 5 s):=Go.Joins.below_bytesWorld _ w _ s (au _);refine⟨_,_,Lib.run_convert_string_bytes w _ _ 5 s pz fk Dz,hg,?_,?_⟩
 ·simp[b_]
 intro h0;refine⟨_,_,rfl,fun j u hu=>?_⟩;have hj:j<s.data.toList.length:=by
  have:=(jd.1 hu).1;simpa [b_] using this
 have hj':j<s.size:=by simpa using hj
 rw[wE _ j hj] at hu;injection hu with hu;subst hu;refine⟨?_,by simp,by rw[Lib.bytesWorld_size];simp⟩;rw[show (0:Nat)+j=j by omega,Lib.bytesWorld_cell w _ s j hj',gy,bH hj];rfl
theorem Sk(s:ByteArray)(w:World)(hs:s.size≤140737488355328) :
 Calls prog 112 #[.string s] w fun e w'=>e=.returned (.bool (V.name s))∧Grow w w':=by
 obtain⟨iJ,eG⟩:∃A,V.name s=A:=⟨_,rfl⟩;rw[eG];have HA:=aa eG;clear eG;go_enter func112,ntmps112;go_wp2_with fail;go_loopg [3] (s.size+1) (fun gk i wr=>w=wr∧∃j:Nat,j≤s.size∧gk+j=s.size+1∧i=.int .i64 j∧(s.data.toList.take j).all np=true);exact⟨rfl,0,by omega,by omega,rfl,rfl⟩;obtain⟨rfl,j,hj,hg,rfl,hv⟩:=hrel;have HV:=aa hv;clear hv;by_cases hlt:j<s.size
 ·have hlt':j<s.data.toList.length:=by simpa using hlt
  obtain⟨x,hx⟩:∃x,s[j]=x:=⟨_,rfl⟩;have hx':s.data.toList[j]=x:=by rw[← hx];rfl
  have hnb:np x=false→iJ=false:=fun h=>by
   rw[← HA.o,V.name];have:s.data.toList.all (fun c=>decide (32≤c.toNat∧c.toNat≠46))=false:=Dj.2 ⟨x,hx' ▸ aS hlt',by rw[show decide (32≤x.toNat∧x.toNat≠46)=np x from rfl,h];exact Dh⟩;rw[this];simp
  have HX:=aa hx';have HN:=aa hnb;clear hx' hnb;by_cases h1:x.toNat<32
  ·go_wp2_with fail;go_ret;exact⟨dw (HN.o (by simp[np];omega)).symm,ah _⟩
  by_cases h2:x.toNat=46
  ·have JB:((x.toNat:Int)==46)=true:=by simp;omega
   go_wp2_with fail;go_ret;exact⟨dw (HN.o (by simp[np];omega)).symm,ah _⟩
  have JB:((x.toNat:Int)==46)=false:=by simp;omega
  go_wp2_with fail;obtain⟨g',rfl⟩:∃g,gk=g+1:=⟨gk-1,by omega⟩;go_roundg g';exact⟨rfl,j+1,by omega,by omega,by go_num,by rw[J2 hlt',FH,HV.o,HX.o];simp[np];omega⟩;omega
 obtain rfl:j=s.size:=by omega
 have hall:s.data.toList.all np=true:=by
  have:=HV.o;rwa [rB (by simp)] at this
 have hA:iJ=(decide (1≤s.size∧s.size≤32)&&Lib.validD s.data.toList):=by
  rw[← HA.o,V.name];rw[show s.data.toList.all (fun c=>decide (32≤c.toNat∧c.toNat≠46))=true from hall];simp
 have H2:=aa hA;clear hall hA hlt;by_cases n1:1≤s.size
 ·by_cases n2:s.size≤32
  ·obtain⟨c,W,hrun,hgr,hin⟩:=alo w s;have aJ:=aa hgr;have yx:=aa hin;clear hgr hin;go_wp2_with fail;refine(T7 s.data.toList (some ⟨w.heap.size,0,none⟩) c W yx.o (by simpa using hs)).mono ?_;rintro e w' ⟨rfl,rfl⟩;go_wp2_with fail;go_ret;exact⟨dw (by rw[H2.o,cj ⟨n1,n2⟩];rfl),aJ.o⟩
  go_wp2_with fail;go_ret;exact⟨dw (by rw[H2.o,cm (by omega)];rfl),ah _⟩
 go_wp2_with fail;go_ret;exact⟨dw (by rw[H2.o,cm (by omega)];rfl),ah _⟩
theorem alp(x:Nat)(w:World)(hx:x≤1114111) :
 Calls prog 132 #[.int .i32 x] w fun e w'=>e=.returned (.bool (uv x))∧w=w':=by
 by_cases h1:x<32
 ·go_enter func132,ntmps132;go_wp2_with fail;go_ret;exact⟨dw (by unfold uv;apply FA.2;simp only[iy,true_iff];omega),rfl⟩
 by_cases h2:x=46
 ·have JB:((x:Int)==46)=true:=by simp;omega
  go_enter func132,ntmps132;go_wp2_with fail;go_ret;exact⟨dw (by unfold uv;apply FA.2;simp only[iy,true_iff];omega),rfl⟩
 have JB:((x:Int)==46)=false:=by simp;omega
 go_enter func132,ntmps132;go_wp2_with fail;go_ret;exact⟨dw (by unfold uv;apply FA.2;simp only[iy];omega),rfl⟩
def dz(w:World):Prop:=Lib.Utf8Tabs 0 1 w
theorem dz.grow(h:dz w)(hg:Grow w w'):dz w':=Utf8Tabs_below h hg
theorem QP(s:ByteArray)(w:World)(hT:dz w) :
 Calls prog 89 #[.string s] w fun e w'=>e=.returned (.bool (V.name s))∧Grow w w':=by
 have hE:s.toList=s.data.toList:=ByteArray.toList_eq s;have hsz:s.data.toList.length=s.size:=rfl;obtain⟨iJ,eG⟩:∃A,V.name s=A:=⟨_,rfl⟩;rw[eG];have HA:=aa (eG.symm.trans (show V.name s=(decide (1≤s.size∧s.size≤32)&&s.data.toList.all np&&Lib.validD s.data.toList) from rfl));have HT:=aa hT;clear eG hT;by_cases h0:s.size=0
 ·have hem:s.toList.isEmpty=true:=by rw[hE];exact List.isEmpty_iff.2 (l5 (by omega))
  clear hE hsz;go_enter func89,ntmps89;go_wp2_with fail;go_ret;exact⟨dw (by rw[HA.o,cm (by omega)];rfl),ah _⟩
 have hem:s.toList.isEmpty=false:=by
  rw[hE]
  cases h:s.data.toList with
  | nil=>rw[h] at hsz;simp at hsz;omega
  | cons x xs=>rfl
 clear hE hsz;by_cases h1:s.size≤32
 ·have cV:Calls prog 130 #[.string s] w _:=Any.utf8_ValidString abk s w (by omega) HT.o;obtain⟨VD,UX⟩:∃v,Lib.validD s.data.toList=v:=⟨_,rfl⟩;rw[UX] at cV;have H1:=aa cV;have H2:=aa UX;clear cV UX
  cases VD
  ·go_enter func89,ntmps89;go_wp2_with fail;refine H1.o.mono ?_;rintro e w' ⟨rfl,hg⟩;have HG:=aa hg;clear hg;go_wp2_with fail;go_ret;exact⟨dw (by rw[HA.o,H2.o,Bool.and_false]),HG.o⟩
  go_enter func89,ntmps89;go_wp2_with fail;refine H1.o.mono ?_;rintro e w' ⟨rfl,hg⟩;have HG:=aa hg;clear hg;go_wp2_with fail;have cF:=Any.strings_ContainsFunc_grows aky 132 #[] (enters_of func132 (by kernel_rfl) rfl) uv s w' (fun W x hx hb=>(alp x W hx).mono fun _ _ h=>⟨h.1,h.2 ▸ jH _ _⟩);refine(show Calls prog 131 #[.string s,.func (.func 132) #[] #[]] w' _ from cF).mono ?_;rintro e w2 ⟨rfl,hg2⟩;have HG2:=aa hg2;clear hg2 cF;go_wp2_with fail;go_ret;exact⟨dw (by rw[HA.o,H2.o,Bool.and_true,cj (p:=1≤s.size∧s.size≤32) (by omega),pc];exact akn s H2.o),wG HG.o HG2.o⟩
 go_enter func89,ntmps89;go_wp2_with fail;go_ret;exact⟨dw (by rw[HA.o,cm (by omega)];rfl),ah _⟩
end
section
open Go.RowKit Go.Shelf Go.Maps
theorem alq(k:Int)(n:Nat)(b:List UInt8)(l:List V)(f:List (ByteArray×V))(w:World)(c:Cv)(hk:k<1∨8<k)(hT:dz w)(hv:In w (.mk k n b l f) c) :
 Calls prog 43 #[c.agg] w fun e w'=>e=.returned (.bool false)∧Grow w w':=by
 have HV:=aa hv;have HT:=aa hT;obtain⟨aB,aL,aF,cB,cL,cF,rfl,h1,h2,h3,h4,h5,h6,h7,h8,h9,hb⟩:=hv.open;have HB:=aa hb;clear hb hv hT;rcases hk with hk | hk
 all_goals
  go_enter func43,ntmps43
  go_wp2_with fail
  go_ret
  exact⟨rfl,(ah w).alloc _⟩
theorem alr(n:Nat)(b:List UInt8)(l:List V)(f:List (ByteArray×V))(w:World)(c:Cv)(ho:V.own 1 n b l.length f.length=false)(hT:dz w)(hv:In w (.mk 1 n b l f) c) :
 Calls prog 43 #[c.agg] w fun e w'=>e=.returned (.bool false)∧Grow w w':=by
 have HV:=aa hv;have HT:=aa hT;obtain⟨aB,aL,aF,cB,cL,cF,rfl,h1,h2,h3,h4,h5,h6,h7,h8,h9,hb⟩:=hv.open;have HB:=aa hb;clear hb hv hT;have HO:=aa ho;clear ho;by_cases p0:((n:Int) != 0)=true
 ·go_enter func43,ntmps43;go_wp2_with fail;go_ret;exact⟨rfl,(ah w).alloc _⟩
 have q0:((n:Int) != 0)=false:=by simpa using p0
 by_cases p1:b=[]
 rotate_left
 ·have ru:0<b.length:=eD.2 p1;have ry:(0:Int)<(b.length:Int):=by omega
  go_enter func43,ntmps43;go_wp2_with fail;go_ret;exact⟨rfl,(ah w).alloc _⟩
 subst p1;by_cases p2:l=[]
 rotate_left
 ·have qi:0<l.length:=eD.2 p2;have qj:(0:Int)<(l.length:Int):=by omega
  go_enter func43,ntmps43;go_wp2_with fail;go_ret;exact⟨rfl,(ah w).alloc _⟩
 subst p2;by_cases p3:f=[]
 rotate_left
 ·have NB:0<f.length:=eD.2 p3;have NC:(0:Int)<(f.length:Int):=by omega
  go_enter func43,ntmps43;go_wp2_with fail;go_ret;exact⟨rfl,(ah w).alloc _⟩
 subst p3;exfalso;have ho:=HO.o;simp only[V.own,l_,nz,lC] at ho
 try simp at ho
 all_goals (first | omega | simp_all)
theorem als(n:Nat)(b:List UInt8)(l:List V)(f:List (ByteArray×V))(w:World)(c:Cv)(ho:V.own 2 n b l.length f.length=false)(hT:dz w)(hv:In w (.mk 2 n b l f) c) :
 Calls prog 43 #[c.agg] w fun e w'=>e=.returned (.bool false)∧Grow w w':=by
 have HV:=aa hv;have HT:=aa hT;obtain⟨aB,aL,aF,cB,cL,cF,rfl,h1,h2,h3,h4,h5,h6,h7,h8,h9,hb⟩:=hv.open;have HB:=aa hb;clear hb hv hT;have HO:=aa ho;clear ho;by_cases p0:(1:Int)<(n:Int)
 ·go_enter func43,ntmps43;go_wp2_with fail;go_ret;exact⟨rfl,(ah w).alloc _⟩
 have q0:¬ ((1:Int)<(n:Int)):=p0;by_cases p1:b=[]
 rotate_left
 ·have ru:0<b.length:=eD.2 p1;have ry:(0:Int)<(b.length:Int):=by omega
  go_enter func43,ntmps43;go_wp2_with fail;go_ret;exact⟨rfl,(ah w).alloc _⟩
 subst p1;by_cases p2:l=[]
 rotate_left
 ·have qi:0<l.length:=eD.2 p2;have qj:(0:Int)<(l.length:Int):=by omega
  go_enter func43,ntmps43;go_wp2_with fail;go_ret;exact⟨rfl,(ah w).alloc _⟩
 subst p2;by_cases p3:f=[]
 rotate_left
 ·have NB:0<f.length:=eD.2 p3;have NC:(0:Int)<(f.length:Int):=by omega
  go_enter func43,ntmps43;go_wp2_with fail;go_ret;exact⟨rfl,(ah w).alloc _⟩
 subst p3;exfalso;have ho:=HO.o;simp only[V.own,l_,nz,lC] at ho
 try simp at ho
 all_goals (first | omega | simp_all)
theorem alu(n:Nat)(b:List UInt8)(l:List V)(f:List (ByteArray×V))(w:World)(c:Cv)(ho:V.own 3 n b l.length f.length=false)(hT:dz w)(hv:In w (.mk 3 n b l f) c) :
 Calls prog 43 #[c.agg] w fun e w'=>e=.returned (.bool false)∧Grow w w':=by
 have HV:=aa hv;have HT:=aa hT;obtain⟨aB,aL,aF,cB,cL,cF,rfl,h1,h2,h3,h4,h5,h6,h7,h8,h9,hb⟩:=hv.open;have HB:=aa hb;clear hb hv hT;have HO:=aa ho;clear ho;by_cases p0:b=[]
 rotate_left
 ·have UY:0<b.length:=eD.2 p0;have UZ:(0:Int)<(b.length:Int):=by omega
  go_enter func43,ntmps43;go_wp2_with fail;go_ret;exact⟨rfl,(ah w).alloc _⟩
 subst p0;by_cases p1:l=[]
 rotate_left
 ·have ru:0<l.length:=eD.2 p1;have ry:(0:Int)<(l.length:Int):=by omega
  go_enter func43,ntmps43;go_wp2_with fail;go_ret;exact⟨rfl,(ah w).alloc _⟩
 subst p1;by_cases p2:f=[]
 rotate_left
 ·have qi:0<f.length:=eD.2 p2;have qj:(0:Int)<(f.length:Int):=by omega
  go_enter func43,ntmps43;go_wp2_with fail;go_ret;exact⟨rfl,(ah w).alloc _⟩
 subst p2;exfalso;have ho:=HO.o;simp only[V.own,l_,nz,lC] at ho
 try simp at ho
 all_goals (first | omega | simp_all)
theorem alv(n:Nat)(b:List UInt8)(l:List V)(f:List (ByteArray×V))(w:World)(c:Cv)(ho:V.own 4 n b l.length f.length=false)(hT:dz w)(hv:In w (.mk 4 n b l f) c) :
 Calls prog 43 #[c.agg] w fun e w'=>e=.returned (.bool false)∧Grow w w':=by
 have HV:=aa hv;have HT:=aa hT;obtain⟨aB,aL,aF,cB,cL,cF,rfl,h1,h2,h3,h4,h5,h6,h7,h8,h9,hb⟩:=hv.open;have HB:=aa hb;clear hb hv hT;have HO:=aa ho;clear ho;by_cases p0:b=[]
 rotate_left
 ·have UY:0<b.length:=eD.2 p0;have UZ:(0:Int)<(b.length:Int):=by omega
  go_enter func43,ntmps43;go_wp2_with fail;go_ret;exact⟨rfl,(ah w).alloc _⟩
 subst p0;by_cases p1:l=[]
 rotate_left
 ·have ru:0<l.length:=eD.2 p1;have ry:(0:Int)<(l.length:Int):=by omega
  go_enter func43,ntmps43;go_wp2_with fail;go_ret;exact⟨rfl,(ah w).alloc _⟩
 subst p1;by_cases p2:f=[]
 rotate_left
 ·have qi:0<f.length:=eD.2 p2;have qj:(0:Int)<(f.length:Int):=by omega
  go_enter func43,ntmps43;go_wp2_with fail;go_ret;exact⟨rfl,(ah w).alloc _⟩
 subst p2;exfalso;have ho:=HO.o;simp only[V.own,l_,nz,lC] at ho
 try simp at ho
 all_goals (first | omega | simp_all)
theorem alx(n:Nat)(b:List UInt8)(l:List V)(f:List (ByteArray×V))(w:World)(c:Cv)(ho:V.own 5 n b l.length f.length=false)(hT:dz w)(hv:In w (.mk 5 n b l f) c) :
 Calls prog 43 #[c.agg] w fun e w'=>e=.returned (.bool false)∧Grow w w':=by
 have HV:=aa hv;have HT:=aa hT;obtain⟨aB,aL,aF,cB,cL,cF,rfl,h1,h2,h3,h4,h5,h6,h7,h8,h9,hb⟩:=hv.open;have HB:=aa hb;clear hb hv hT;have HO:=aa ho;clear ho;by_cases p0:((n:Int) != 0)=true
 ·go_enter func43,ntmps43;go_wp2_with fail;go_ret;exact⟨rfl,(ah w).alloc _⟩
 have q0:((n:Int) != 0)=false:=by simpa using p0
 by_cases p1:Lib.validD b=false
 ·have P:=aa p1;clear p1;go_enter func43,ntmps43;go_wp2_with fail;refine(Nl b aB cB _ (HB.o.grow ((ah w).alloc _)) (by omega) (by omega) (HT.o.grow ((ah w).alloc _))).mono ?_;rintro e w' ⟨rfl,hg⟩;rw[P.o];have HG:=aa hg;clear hg;go_wp2_with fail;go_ret;exact⟨rfl,((ah w).alloc _).trans HG.o⟩
 have P:=aa p1;clear p1;by_cases p2:l=[]
 rotate_left
 ·have qi:0<l.length:=eD.2 p2;have qj:(0:Int)<(l.length:Int):=by omega
  go_enter func43,ntmps43;go_wp2_with fail;refine(Nl b aB cB _ (HB.o.grow ((ah w).alloc _)) (by omega) (by omega) (HT.o.grow ((ah w).alloc _))).mono ?_;rintro e w' ⟨rfl,hg⟩;rw[eq_true_of_ne_false P.o];have hB:Blk w' w.heap.size 27 _:=(az _ _ _).grow hg;have hc:=hB.cell;have HG:=aa hg;clear hg hB;go_wp2_with fail;go_ret;exact⟨rfl,((ah w).alloc _).trans HG.o⟩
 subst p2;by_cases p3:f=[]
 rotate_left
 ·have NB:0<f.length:=eD.2 p3;have NC:(0:Int)<(f.length:Int):=by omega
  go_enter func43,ntmps43;go_wp2_with fail;refine(Nl b aB cB _ (HB.o.grow ((ah w).alloc _)) (by omega) (by omega) (HT.o.grow ((ah w).alloc _))).mono ?_;rintro e w' ⟨rfl,hg⟩;rw[eq_true_of_ne_false P.o];have hB:Blk w' w.heap.size 27 _:=(az _ _ _).grow hg;have hc:=hB.cell;have HG:=aa hg;clear hg hB;go_wp2_with fail;go_ret;exact⟨rfl,((ah w).alloc _).trans HG.o⟩
 subst p3;exfalso;have ho:=HO.o;simp only[V.own,l_,nz,lC] at ho;have P2:=P.o
 try simp at ho
 all_goals (first | omega | simp_all)
theorem aly(n:Nat)(b:List UInt8)(l:List V)(f:List (ByteArray×V))(w:World)(c:Cv)(ho:V.own 6 n b l.length f.length=false)(hT:dz w)(hv:In w (.mk 6 n b l f) c) :
 Calls prog 43 #[c.agg] w fun e w'=>e=.returned (.bool false)∧Grow w w':=by
 have HV:=aa hv;have HT:=aa hT;obtain⟨aB,aL,aF,cB,cL,cF,rfl,h1,h2,h3,h4,h5,h6,h7,h8,h9,hb⟩:=hv.open;have HB:=aa hb;clear hb hv hT;have HO:=aa ho;clear ho;by_cases p0:((n:Int) != 0)=true
 ·go_enter func43,ntmps43;go_wp2_with fail;go_ret;exact⟨rfl,(ah w).alloc _⟩
 have q0:((n:Int) != 0)=false:=by simpa using p0
 by_cases p1:l=[]
 rotate_left
 ·have ru:0<l.length:=eD.2 p1;have ry:(0:Int)<(l.length:Int):=by omega
  go_enter func43,ntmps43;go_wp2_with fail;go_ret;exact⟨rfl,(ah w).alloc _⟩
 subst p1;by_cases p2:f=[]
 rotate_left
 ·have qi:0<f.length:=eD.2 p2;have qj:(0:Int)<(f.length:Int):=by omega
  go_enter func43,ntmps43;go_wp2_with fail;go_ret;exact⟨rfl,(ah w).alloc _⟩
 subst p2;exfalso;have ho:=HO.o;simp only[V.own,l_,nz,lC] at ho
 try simp at ho
 all_goals (first | omega | simp_all)
theorem alz(n:Nat)(b:List UInt8)(l:List V)(f:List (ByteArray×V))(w:World)(c:Cv)(ho:V.own 7 n b l.length f.length=false)(hT:dz w)(hv:In w (.mk 7 n b l f) c) :
 Calls prog 43 #[c.agg] w fun e w'=>e=.returned (.bool false)∧Grow w w':=by
 have HV:=aa hv;have HT:=aa hT;obtain⟨aB,aL,aF,cB,cL,cF,rfl,h1,h2,h3,h4,h5,h6,h7,h8,h9,hb⟩:=hv.open;have HB:=aa hb;clear hb hv hT;have HO:=aa ho;clear ho;by_cases p0:((n:Int) != 0)=true
 ·go_enter func43,ntmps43;go_wp2_with fail;go_ret;exact⟨rfl,(ah w).alloc _⟩
 have q0:((n:Int) != 0)=false:=by simpa using p0
 by_cases p1:b=[]
 rotate_left
 ·have ru:0<b.length:=eD.2 p1;have ry:(0:Int)<(b.length:Int):=by omega
  go_enter func43,ntmps43;go_wp2_with fail;go_ret;exact⟨rfl,(ah w).alloc _⟩
 subst p1;by_cases p2:f=[]
 rotate_left
 ·have qi:0<f.length:=eD.2 p2;have qj:(0:Int)<(f.length:Int):=by omega
  go_enter func43,ntmps43;go_wp2_with fail;go_ret;exact⟨rfl,(ah w).alloc _⟩
 subst p2;exfalso;have ho:=HO.o;simp only[V.own,l_,nz,lC] at ho
 try simp at ho
 all_goals (first | omega | simp_all)
theorem alA(n:Nat)(b:List UInt8)(l:List V)(f:List (ByteArray×V))(w:World)(c:Cv)(ho:V.own 8 n b l.length f.length=false)(hT:dz w)(hv:In w (.mk 8 n b l f) c) :
 Calls prog 43 #[c.agg] w fun e w'=>e=.returned (.bool false)∧Grow w w':=by
 have HV:=aa hv;have HT:=aa hT;obtain⟨aB,aL,aF,cB,cL,cF,rfl,h1,h2,h3,h4,h5,h6,h7,h8,h9,hb⟩:=hv.open;have HB:=aa hb;clear hb hv hT;have HO:=aa ho;clear ho;by_cases p0:((n:Int) != 0)=true
 ·go_enter func43,ntmps43;go_wp2_with fail;go_ret;exact⟨rfl,(ah w).alloc _⟩
 have q0:((n:Int) != 0)=false:=by simpa using p0
 by_cases p1:b=[]
 rotate_left
 ·have ru:0<b.length:=eD.2 p1;have ry:(0:Int)<(b.length:Int):=by omega
  go_enter func43,ntmps43;go_wp2_with fail;go_ret;exact⟨rfl,(ah w).alloc _⟩
 subst p1;by_cases p2:l=[]
 rotate_left
 ·have qi:0<l.length:=eD.2 p2;have qj:(0:Int)<(l.length:Int):=by omega
  go_enter func43,ntmps43;go_wp2_with fail;go_ret;exact⟨rfl,(ah w).alloc _⟩
 subst p2;exfalso;have ho:=HO.o;simp only[V.own,l_,nz,lC] at ho
 try simp at ho
 all_goals (first | omega | simp_all)
theorem alB(k:Int)(n:Nat)(b:List UInt8)(l:List V)(f:List (ByteArray×V))(w:World)(c:Cv)(ho:V.own k n b l.length f.length=false)(hT:dz w)(hv:In w (.mk k n b l f) c) :
 Calls prog 43 #[c.agg] w fun e w'=>e=.returned (.bool false)∧Grow w w':=by
 by_cases hk:k<1∨8<k
 ·exact alq k n b l f w c hk hT hv
 have:k=1∨k=2∨k=3∨k=4∨k=5∨k=6∨k=7∨k=8:=by omega
 rcases this with rfl | rfl | rfl | rfl | rfl | rfl | rfl | rfl
 ·exact alr n b l f w c ho hT hv
 ·exact als n b l f w c ho hT hv
 ·exact alu n b l f w c ho hT hv
 ·exact alv n b l f w c ho hT hv
 ·exact alx n b l f w c ho hT hv
 ·exact aly n b l f w c ho hT hv
 ·exact alz n b l f w c ho hT hv
 exact alA n b l f w c ho hT hv
end
section
open Go.RowKit Go.Shelf Go.Maps Go.WideMaps
theorem abO:prog.underlying 137=some (.map 9 138):=by kernel_rfl
theorem abP{b n:Nat}{D:DataW Unit}(h:w.ownsMap prog 9 unitElem b n D):(Builtin.len_ #[137] 3 #[.map (some b)]).run prog w=.ok (.int .i64 (Maps.size D)) w:=h.len abO _
theorem abQ(w:World):(w.alloc (.map #[] 0)).ownsMap prog 9 unitElem w.heap.size 0 (NS []):=World.ownsMap_made _ _ _ _
theorem alC(w:World)(o:Obj):((w.alloc o).alloc (.map #[] 0)).ownsMap prog 9 unitElem (w.heap.size+1) 0 (NS []):=by
 have h:=abQ (w.alloc o);have e:(w.alloc o).heap.size=w.heap.size+1:=by simp
 rw[e] at h;exact h
theorem abR{b n:Nat}{D:DataW Unit}(h:w.ownsMap prog 9 unitElem b n D)(hg:Grow w w'):w'.ownsMap prog 9 unitElem b n D:=by
 obtain⟨es,clock,hb,r⟩:=h;have hlt:b<w.heap.size:=by
  rcases gp b w.heap.size with hlt | hge
  ·exact hlt
  exact absurd ((sN hge).symm.trans hb) (by simp)
 exact⟨es,clock,(Below.block hg b hlt).trans hb,r⟩
theorem Blk.grownBy{r:Nat}(h:Blk w g t cs)(hg:w.grownBy w' (some r))(hne:g≠r):Blk w' g t cs:=by
 unfold Blk at h ⊢;rw[hg.block g (Blk.lt h) (fun e=>hne (nZ e))];exact h
theorem U0(w:World):(Builtin.len_ #[137] 3 #[.map (some w.heap.size)]).run prog (w.alloc (.map #[] 0))=.ok (.int .i64 0) (w.alloc (.map #[] 0)):=abP (abQ w)
theorem JF(w:World)(o:Obj):(Builtin.len_ #[137] 3 #[.map (some (w.heap.size+1))]).run prog ((w.alloc o).alloc (.map #[] 0))=.ok (.int .i64 0) ((w.alloc o).alloc (.map #[] 0)):=by
 have h:=U0 (w.alloc o);have e:(w.alloc o).heap.size=w.heap.size+1:=by simp
 rw[e] at h;exact h
theorem alD(w:World)(c:Cv)(hv:In w (.mk 1 0 [] [] []) c) :
 Calls prog 43 #[c.agg] w fun e w'=>e=.returned (.bool true)∧Grow w w':=by
 obtain⟨aB,aL,aF,cB,cL,cF,rfl,h1,h2,h3,h4,h5,h6,h7,h8,h9,hb⟩:=hv.open;clear hb hv;have hmm:=@run_makeMap prog;have ir:=JF w;go_enter func43,ntmps43;go_wp2_with fail;refine fZ ?_;go_wp2_with fail;refine fZ ?_;go_wp2_with fail;go_ret;exact⟨rfl,((ah w).alloc _).alloc _⟩
theorem alE(n:Nat)(hn:n≤1)(w:World)(c:Cv)(hv:In w (.mk 2 n [] [] []) c) :
 Calls prog 43 #[c.agg] w fun e w'=>e=.returned (.bool true)∧Grow w w':=by
 obtain⟨aB,aL,aF,cB,cL,cF,rfl,h1,h2,h3,h4,h5,h6,h7,h8,h9,hb⟩:=hv.open;clear hb hv;have hmm:=@run_makeMap prog;have ir:=JF w;go_enter func43,ntmps43;go_wp2_with fail;refine fZ ?_;go_wp2_with fail;refine fZ ?_;go_wp2_with fail;go_ret;exact⟨rfl,((ah w).alloc _).alloc _⟩
theorem alF(n:Nat)(w:World)(c:Cv)(hv:In w (.mk 3 n [] [] []) c) :
 Calls prog 43 #[c.agg] w fun e w'=>e=.returned (.bool true)∧Grow w w':=by
 obtain⟨aB,aL,aF,cB,cL,cF,rfl,h1,h2,h3,h4,h5,h6,h7,h8,h9,hb⟩:=hv.open;clear hb hv;have hmm:=@run_makeMap prog;have ir:=JF w;go_enter func43,ntmps43;go_wp2_with fail;refine fZ ?_;go_wp2_with fail;refine fZ ?_;go_wp2_with fail;go_ret;exact⟨rfl,((ah w).alloc _).alloc _⟩
theorem alG(n:Nat)(w:World)(c:Cv)(hv:In w (.mk 4 n [] [] []) c) :
 Calls prog 43 #[c.agg] w fun e w'=>e=.returned (.bool true)∧Grow w w':=by
 obtain⟨aB,aL,aF,cB,cL,cF,rfl,h1,h2,h3,h4,h5,h6,h7,h8,h9,hb⟩:=hv.open;clear hb hv;have hmm:=@run_makeMap prog;have ir:=JF w;go_enter func43,ntmps43;go_wp2_with fail;refine fZ ?_;go_wp2_with fail;refine fZ ?_;go_wp2_with fail;go_ret;exact⟨rfl,((ah w).alloc _).alloc _⟩
theorem alH(b:List UInt8)(w:World)(c:Cv)(hv:In w (.mk 6 0 b [] []) c) :
 Calls prog 43 #[c.agg] w fun e w'=>e=.returned (.bool true)∧Grow w w':=by
 obtain⟨aB,aL,aF,cB,cL,cF,rfl,h1,h2,h3,h4,h5,h6,h7,h8,h9,hb⟩:=hv.open;clear hb hv;have hmm:=@run_makeMap prog;have ir:=JF w;go_enter func43,ntmps43;go_wp2_with fail;refine fZ ?_;go_wp2_with fail;refine fZ ?_;go_wp2_with fail;go_ret;exact⟨rfl,((ah w).alloc _).alloc _⟩
theorem alI(b:List UInt8)(hu:Lib.validD b=true)(w:World)(c:Cv)(hT:dz w)(hv:In w (.mk 5 0 b [] []) c) :
 Calls prog 43 #[c.agg] w fun e w'=>e=.returned (.bool true)∧Grow w w':=by
 have HT:=aa hT;have HU:=aa hu;obtain⟨aB,aL,aF,cB,cL,cF,rfl,h1,h2,h3,h4,h5,h6,h7,h8,h9,hb⟩:=hv.open;have HB:=aa hb;clear hb hv hT hu;have hmm:=@run_makeMap prog;have ir:=U0;go_enter func43,ntmps43;go_wp2_with fail;refine(Nl b aB cB _ (HB.o.grow ((ah w).alloc _)) (by omega) (by omega) (HT.o.grow ((ah w).alloc _))).mono ?_;rintro e w' ⟨rfl,hg⟩;rw[HU.o];have hB:Blk w' w.heap.size 27 _:=(az _ _ _).grow hg;have hc:=hB.cell;have hBl:=hB.lt;have HG:=aa hg;clear hg hB;go_wp2_with fail;refine fZ ?_;go_wp2_with fail;refine fZ ?_;go_wp2_with fail;go_ret;exact⟨rfl,(((ah w).alloc _).trans HG.o).alloc _⟩
theorem alJ(l:List V)(hl:∀x∈l,∀(w:World) (c:Cv),dz w→In w x c→Calls prog 43 #[c.agg] w fun e w'=>e=.returned (.bool x.formed)∧Grow w w')
 (w:World) (c:Cv) (hT:dz w) (hv:In w (.mk 7 0 [] l []) c) :
 Calls prog 43 #[c.agg] w fun e w'=>e=.returned (.bool (l.all V.formed))∧Grow w w':=by
 have HV:=aa hv;have HT:=aa hT;have Hl:=aa hl;obtain⟨iJ,eG⟩:∃A,l.all V.formed=A:=⟨_,rfl⟩;rw[eG];have HA:=aa eG;obtain⟨aB,aL,aF,cB,cL,cF,rfl,h1,h2,h3,h4,h5,h6,h7,h8,h9,hb⟩:=hv.open;clear hb h1 h2 h3 h4 h5 hv hT hl eG;have hmm:=@run_makeMap prog;have ir:=U0;go_enter func43,ntmps43;go_wp2_with fail;go_loopg [95] (l.length+1) (fun gk i wr=>∃j:Nat,j≤l.length∧gk+j=l.length+1∧i=.int .i64 j∧(l.take j).all V.formed=true ∧
  Grow w wr∧In wr (.mk 7 0 [] l []) ⟨7,0,aB,0,cB,aL,l.length,cL,aF,0,cF⟩∧Blk wr w.heap.size 27 (Cv.cells ⟨7,0,aB,0,cB,aL,l.length,cL,aF,0,cF⟩))
 exact⟨0,by omega,by omega,rfl,rfl,(ah w).alloc _,oc HV.o ((ah w).alloc _),az _ _ _⟩;obtain⟨j,hj,hg,rfl,ht,hw,hv,hB⟩:=hrel;obtain⟨gk',rfl⟩:=bz gk (by omega);have rQ:=aa ht;by_cases hlt:j<l.length
 ·obtain⟨bk,o,x,ha,hbk,e0,e1,e2,e3,e4,hx⟩:=hv.fh j hlt;dsimp only at ha;subst ha;have HW:=aa hw;have HX:=aa hx;have qf:=aa hv;have HB:=aa hB;clear hw hx hv hB ht;go_wp2_with fail;refine(Hl.o _ (aS hlt) _ x (HT.o.grow (HW.o.alloc _)) (HX.o.grow ((ah wr).alloc _))).mono ?_;rintro e w' ⟨rfl,hb'⟩;have hgr:Hid (Grow wr w'):=((ah wr).alloc _).trans hb';clear hb' e0 e1 e2 e3 e4;obtain⟨R,hR⟩:∃R,l[j].formed=R:=⟨_,rfl⟩;rw[hR];have HR:=aa hR;clear hR
  cases R
  ·go_wp2_with fail;go_ret;refine⟨dw ?_,HW.o.trans hgr.o⟩;rw[← HA.o];exact(Dj.2 ⟨l[j],aS hlt,by rw[HR.o];exact Dh⟩).symm
  go_wp2_with fail;go_roundg gk';exact⟨j+1,by omega,by omega,by go_num,by rw[py l j hlt,FH,rQ.o];simp[HR.o],HW.o.trans hgr.o,qf.o.grow hgr.o,HB.o.grow hgr.o⟩;omega
 obtain rfl:j=l.length:=by omega
 have hc:=hB.cell;have hBl:=hB.lt;have HW:=aa hw;have hA:iJ=true:=by rw[← HA.o];rw[fT] at ht;exact ht
 subst hA;clear hw hv hB hlt hg ht;go_wp2_with fail;refine fZ ?_;go_wp2_with fail;go_ret;exact⟨rfl,HW.o.alloc _⟩
theorem alK(f:List (ByteArray×V))(hf:∀x∈f,∀(w:World) (c:Cv),dz w→In w x.2 c→Calls prog 43 #[c.agg] w fun e w'=>e=.returned (.bool x.2.formed)∧Grow w w')
 (w:World) (c:Cv) (hT:dz w) (hv:In w (.mk 8 0 [] [] f) c) :
 Calls prog 43 #[c.agg] w fun e w'=>e=.returned (.bool ((f.all fun x=>V.name x.1&&x.2.formed)&&decide ((f.map Prod.fst).Nodup)))∧Grow w w':=by
 have HV:=aa hv;have HT:=aa hT;have Hf:=aa hf;obtain⟨iJ,eG⟩:∃A,((f.all fun x=>V.name x.1&&x.2.formed)&&decide ((f.map Prod.fst).Nodup))=A:=⟨_,rfl⟩;rw[eG];have HA:=aa eG;obtain⟨aB,aL,aF,cB,cL,cF,rfl,h1,h2,h3,h4,h5,h6,h7,h8,h9,hb⟩:=hv.open;clear hb h1 h2 h3 h4 h5 hv hT hf eG;have hmm:=@run_makeMap prog;have law:Keyed prog 9:=string_keyed pz;go_enter func43,ntmps43;go_wp2_with fail;refine fZ ?_;go_wp2_with fail;go_loopg [107] (f.length+1) (fun gk i wr=>∃j:Nat,j≤f.length∧gk+j=f.length+1∧i=.int .i64 j∧(f.take j).all (fun x=>V.name x.1&&x.2.formed)=true ∧
  wr.ownsMap prog 9 unitElem (w.heap.size+1) j (NS ((f.map Prod.fst).take j)) ∧
  Grow w wr∧In wr (.mk 8 0 [] [] f) ⟨8,0,aB,0,cB,aL,0,cL,aF,f.length,cF⟩∧Blk wr w.heap.size 27 (Cv.cells ⟨8,0,aB,0,cB,aL,0,cL,aF,f.length,cF⟩))
 exact⟨0,by omega,by omega,rfl,rfl,alC w _,((ah w).alloc _).alloc _,oc HV.o (((ah w).alloc _).alloc _),(az _ _ _).alloc _⟩;obtain⟨j,hj,hg,rfl,ht,hown,hw,hv,hB⟩:=hrel;obtain⟨gk',rfl⟩:=bz gk (by omega);have rQ:=aa ht;have HO:=aa hown;by_cases hlt:j<f.length
 ·obtain⟨bk,o,x,ha,hbk,es,ik,e0,e1,e2,e3,e4,hx⟩:=HV.o.gX j hlt;dsimp only at ha;subst ha;have es:=(hw.below.cell (p:=⟨bk,o+j*6,none⟩) hbk).trans es;have e0:=(hw.below.cell (p:=⟨bk,o+j*6+1,none⟩) hbk).trans e0;have e1:=(hw.below.cell (p:=⟨bk,o+j*6+1+1,none⟩) hbk).trans e1;have e2:=(hw.below.cell (p:=⟨bk,o+j*6+1+2,none⟩) hbk).trans e2;have e3:=(hw.below.cell (p:=⟨bk,o+j*6+1+3,none⟩) hbk).trans e3;have e4:=(hw.below.cell (p:=⟨bk,o+j*6+1+4,none⟩) hbk).trans e4;have og:bk<wr.heap.size:=bG hbk hw.size;have alL:=hB.lt;have aov:w.heap.size+1<wr.heap.size:=by
   obtain⟨es,clock,hb,r⟩:=hown;rcases gp (w.heap.size+1) wr.heap.size with hlt | hge
   ·exact hlt
   rw[sN hge] at hb;cases hb
  have hc:=hB.cell;have HW:=aa hw;have HX:=aa hx;have HB:=aa hB;clear hw hx hv hB ht hown;have hkey:keyOf prog 9 (.string f[j].1)=some (sJ f[j].1):=keyOf_string_mk pz (by simp only[maxLen];omega);obtain⟨nm,zZ⟩:∃nm,f[j].1=nm:=⟨_,rfl⟩;rw[zZ] at es ik hkey;go_wp2_with (first | (at_mapUpdate;refine wpList_mapUpdate_own _ rfl _ _ _ 137 rfl 9 138 law abO (unitElem (H:=Unit)) (w.heap.size+1) j _ rfl (HO.o.alloc _) (by unfold maxLen;omega) _ _ _ rfl rfl hkey _ [] unitElem_mk ?_;intro w1 hown1 hgrow1;have hF:=Blk.grownBy (az wr _ _) hgrow1 (by omega);have hFc:=hF.cell;have HF:=aa hF;have HO1:=aa hown1;have aO:=aa ((HW.o.alloc _).grown hgrow1 (fun k hk=>by cases hk;exact fJ _));have cP:=aa (Blk.grownBy (HB.o.alloc _) hgrow1 (by omega));clear hF hown1 hgrow1))
  refine(QP nm w1 (HT.o.grow aO.o)).mono ?_;rintro e w2 ⟨rfl,hg2⟩;obtain⟨R,hR⟩:∃R,V.name nm=R:=⟨_,rfl⟩;rw[hR];have HR:=aa hR;have hF2:=HF.o.grow hg2;have hFc:=hF2.cell;have HF2:=aa hF2;have HG2:=aa hg2;clear hR hg2 hF2
  cases R
  ·go_wp2_with fail;go_ret;refine⟨dw ?_,aO.o.trans HG2.o⟩;rw[← HA.o,Dj.2 ⟨f[j],aS hlt,by rw[zZ,HR.o];exact Dh⟩];rfl
  go_wp2_with fail;refine(Hf.o _ (aS hlt) _ x (HT.o.grow (aO.o.trans HG2.o)) (HX.o.grow (aO.o.trans HG2.o))).mono ?_;rintro e w3 ⟨rfl,hg3⟩;obtain⟨R,hR⟩:∃R,f[j].2.formed=R:=⟨_,rfl⟩;rw[hR];have qE:=aa hR;have aG:=aa hg3;clear hR hg3
  cases R
  ·go_wp2_with fail;go_ret;refine⟨dw ?_,(aO.o.trans HG2.o).trans aG.o⟩;rw[← HA.o,Dj.2 ⟨f[j],aS hlt,by rw[qE.o,Bool.and_false];exact Dh⟩];rfl
  go_wp2_with fail;go_roundg gk';refine⟨j+1,by omega,by omega,by go_num,by rw[py f j hlt,FH,rQ.o];simp[zZ,HR.o,qE.o],?_,(aO.o.trans HG2.o).trans aG.o,HV.o.grow ((aO.o.trans HG2.o).trans aG.o),(cP.o.grow HG2.o).grow aG.o⟩;have h1:=abR (abR HO1.o HG2.o) aG.o;rw[py (f.map Prod.fst) j (by rw[dE];exact hlt),T6,iO,zZ];exact h1;omega
 obtain rfl:j=f.length:=by omega
 have hc:=hB.cell;have alL:=hB.lt;have HW:=aa hw;rw[show (f.map Prod.fst).take f.length=f.map Prod.fst from rB (by simp)] at HO;rw[fT] at rQ;obtain⟨SZ,Jw⟩:∃s,Maps.size (NS (f.map Prod.fst))=s:=⟨_,rfl⟩;have ir:=abP HO.o;rw[Jw] at ir;have HS:=aa Jw;obtain⟨nf,ND⟩:∃nf,nf=f.length:=⟨_,rfl⟩;have HN:=aa ND;rw[← ND];rw[← ND] at hc;clear hw hv hB hlt hg ht hown Jw ND;by_cases hq:SZ=nf
 focus
  have hq1:((SZ:Int)==(nf:Int))=true:=by simp[hq]
 rotate_left
 focus
  have hq1:((SZ:Int)==(nf:Int))=false:=by simp;omega
 all_goals
  go_wp2_with fail
  go_ret
  refine⟨dw ?_,HW.o⟩
  have hval:iJ=((SZ:Int)==(nf:Int)):=by rw[← HA.o,rQ.o,pc,← akt,HS.o,dE,HN.o]
  rw[hval,hq1]
theorem alM(v:V):∀(w:World) (c:Cv),dz w→In w v c →
 Calls prog 43 #[c.agg] w fun e w'=>e=.returned (.bool v.formed)∧Grow w w':=by
 induction v using V.ind with
 | h k n b l f hl hf =>
  intro w c hT hv
  cases ho:V.own k n b l.length f.length
  ·have:(V.mk k n b l f).formed=false:=by rw[tj,ho];rfl
   rw[this];exact alB k n b l f w c ho hT hv
  have ho':=ho;simp only[V.own,ig,J3,iy] at ho';obtain⟨⟨⟨⟨⟨⟨o1,o2⟩,o3⟩,o4⟩,o5⟩,o6⟩,o7⟩:=ho';have hL:k≠7→l=[]:=fun hk=>l5 (by omega)
  have hF:k≠8→f=[]:=fun hk=>l5 (by omega)
  have hB:k≠5→k≠6→b=[]:=fun h1 h2=>l5 (by omega)
  have hN:k≠2→k≠3→k≠4→n=0:=fun h1 h2 h3=>by omega
  have hk:k=1∨k=2∨k=3∨k=4∨k=5∨k=6∨k=7∨k=8:=by omega
  rw[tj,ho];clear ho o1 o2 o4 o6 o7;rcases hk with rfl | rfl | rfl | rfl | rfl | rfl | rfl | rfl
  ·obtain rfl:=hL (by decide);obtain rfl:=hF (by decide);obtain rfl:=hB (by decide) (by decide);obtain rfl:=hN (by decide) (by decide) (by decide);exact alD w c hv
  ·obtain rfl:=hL (by decide);obtain rfl:=hF (by decide);obtain rfl:=hB (by decide) (by decide);exact alE n (o3 rfl) w c hv
  ·obtain rfl:=hL (by decide);obtain rfl:=hF (by decide);obtain rfl:=hB (by decide) (by decide);exact alF n w c hv
  ·obtain rfl:=hL (by decide);obtain rfl:=hF (by decide);obtain rfl:=hB (by decide) (by decide);exact alG n w c hv
  ·obtain rfl:=hL (by decide);obtain rfl:=hF (by decide);obtain rfl:=hN (by decide) (by decide) (by decide);exact alI b (o5.resolve_left (fun h=>h rfl)) w c hT hv
  ·obtain rfl:=hL (by decide);obtain rfl:=hF (by decide);obtain rfl:=hN (by decide) (by decide) (by decide);exact alH b w c hv
  ·obtain rfl:=hF (by decide);obtain rfl:=hB (by decide) (by decide);obtain rfl:=hN (by decide) (by decide) (by decide);refine(alJ l hl w c hT hv).mono ?_;rintro e w' ⟨rfl,hg⟩;exact⟨by simp,hg⟩
  obtain rfl:=hL (by decide);obtain rfl:=hB (by decide) (by decide);obtain rfl:=hN (by decide) (by decide) (by decide);refine(alK f hf w c hT hv).mono ?_;rintro e w' ⟨rfl,hg⟩;exact⟨by simp,hg⟩
end
section
open Go.RowKit Go.Shelf
theorem abS{α:Type}(l:List α)(p q:α→Nat)(m:Nat)(h:∀x∈l,p x≤q x*m):(l.map p).sum≤(l.map q).sum*m:=by
 induction l with
 | nil=>simp
 | cons x xs ih =>
  have h1:=h x (by simp);have h2:=ih (fun y hy=>h y (by simp[hy]));simp only[fN,qm,ki];omega
theorem abT{α:Type}(l:List α)(p q:α→Nat)(a:Nat)(h:∀x∈l,p x≤q x):(l.map p).foldl max a≤a+(l.map q).sum:=by
 induction l generalizing a with
 | nil=>simp
 | cons x xs ih =>
  have h1:=h x (by simp);have h2:=ih (max a (p x)) (fun y hy=>h y (by simp[hy]));simp only[fN,List.foldl_cons,qm];omega
theorem V.alN(k:Int)(n:Nat)(b:List UInt8)(l:List V)(f:List (ByteArray×V))(m:Nat):(V.mk k n b l f).most≤m↔l.length≤m∧f.length≤m∧(∀x∈l,x.most≤m)∧∀x∈f,x.2.most≤m:=by
 rw[V.Ol,Du,Du];simp only[mI,forall_exists_index,and_imp,forall_apply_eq_imp_iff₂];constructor
 ·rintro⟨⟨h1,h2⟩,h3⟩;exact⟨by omega,by omega,h2,h3⟩
 rintro⟨h1,h2,h3,h4⟩;exact⟨⟨by omega,h3⟩,h4⟩
theorem V.alO(v:V):v.depth≤v.count:=by
 induction v using V.ind with
 | h k n b l f hl hf =>
  rw[V.zg,sZ];have h1:=abT l V.depth V.count 0 hl;have h2:=abT f (fun x=>x.2.depth) (fun x=>x.2.count) ((l.map V.depth).foldl max 0) hf;split<;>omega
theorem V.alP(v:V):∀(w:World) (c:Cv),v.formed=true→In w v c→v.bytes.length+34≤v.count*140737488355372:=by
 induction v using V.ind with
 | h k n b l f hl hf =>
  intro w c fV hv;have hv':=hv;obtain⟨aB,aL,aF,cB,cL,cF,hc,h1,h2,h3,h4,h5,h6,h7,h8,h9,hb⟩:=hv'.open;have Bx:=fV;rw[tj] at Bx;simp only[ig,nY] at Bx;obtain⟨⟨⟨_,hfl⟩,lF⟩,_⟩:=Bx;have hl':∀x∈l,x.bytes.length≤x.count*140737488355372:=fun x hx=>by
   obtain⟨i,hi,rfl⟩:=ux.1 hx;obtain⟨bk,o,y,_,_,_,_,_,_,_,hy⟩:=hv.fh i hi;have:=hl _ hx w y (hfl _ hx) hy;omega
  have hf':∀x∈f,(V.item x.1 x.2.bytes).length≤x.2.count*140737488355372:=fun x hx=>by
   have hx0:=hx;obtain⟨i,hi,rfl⟩:=ux.1 hx;obtain⟨bk,o,y,_,_,_,_,_,_,_,_,_,hy⟩:=hv.gX i hi;have:=hf _ hx0 w y (lF _ hx0).2 hy;have hn:=(lF _ hx0).1;simp only[V.name,ig,iy] at hn;rw[Dy];omega
  have sl:=abS l (fun x=>x.bytes.length) V.count 140737488355372 hl';have sf:=abS f (fun x=>(V.item x.1 x.2.bytes).length) (fun x=>x.2.count) 140737488355372 hf';have hcm:(V.mk k n b l f).count*140737488355372=140737488355372+(l.map V.count).sum*140737488355372+(f.map fun x=>x.2.count).sum*140737488355372:=by
   rw[sZ,ki,ki,n_]
  rw[hcm];clear hcm;rcases tq fV with h | ⟨_,_,h⟩ | ⟨_,h⟩ | ⟨_,h⟩ | ⟨_,_,h⟩ | ⟨_,h⟩ | ⟨l',hl',h⟩ | ⟨f',hf',hnd,h⟩
  case inr.inr.inr.inr.inr.inr.inl =>
   cases h
   rw[Dx,aU,aU,FJ,ma];have:(l.map (List.length ∘ V.bytes)).sum=(l.map fun x=>x.bytes.length).sum:=rfl;omega
  case inr.inr.inr.inr.inr.inr.inr =>
   cases h
   rw[Bk,aU,aU,FJ,ma];have:(f.map (List.length ∘ fun x=>V.item x.1 x.2.bytes)).sum=(f.map fun x=>(V.item x.1 x.2.bytes).length).sum:=rfl;omega
  all_goals
   cases h
   rw[iP]
   simp[kW]
   try omega
theorem V.alQ{v:V}{c:Cv}(fV:v.formed=true)(hv:In w v c)(hc:v.count≤20000):v.bytes.length≤4611686018427387904:=by
 have h1:=V.alP v w c fV hv;have h2:v.count*140737488355372≤20000*140737488355372:=gq _ hc;omega
theorem V.abU{v:V}(hc:v.count≤20000):v.depth≤1099511627776:=by
 have:=V.alO v;omega
def V.yb(v:V):Prop:=v.depth≤1099511627776∧(v.formed=true→v.bytes.length≤4611686018427387904)
theorem V.abV{v:V}{c:Cv}(hc:v.count≤20000)(hv:In w v c):v.yb:=⟨V.abU hc,fun hf=>V.alQ hf hv hc⟩
theorem KQ(v:V)(w:World)(c:Cv)(hm:v.yb)(hT:dz w)(hv:In w v c) :
 Calls prog 20 #[c.agg] w fun e w'=>e=.returned (.int .i64 v.good)∧Grow w w':=by
 have HT:=aa hT;have HV:=aa hv;obtain⟨iJ,eG⟩:∃A,v.good=A:=⟨_,rfl⟩;rw[eG];have HA:=aa eG;clear hT hv eG;go_enter func20,ntmps20;go_wp2_with fail;have bO:=aa (az w 27 c.cells);have aN:=aa ((ah w).alloc (.cells c.cells 27));refine(alM v _ c (HT.o.grow aN.o) (HV.o.grow aN.o)).mono ?_;rintro e w1 ⟨rfl,hg1⟩;have fp:=bO.o.grow hg1;have hc:=fp.cell;have hBl:=fp.lt;have cP:=aa fp;have aO:=aa (aN.o.trans hg1);clear hg1 fp;obtain⟨R,hR⟩:∃R,v.formed=R:=⟨_,rfl⟩;rw[hR];have HR:=aa hR;clear hR
 cases R
 ·go_wp2_with fail;go_ret;exact⟨ij (by rw[← HA.o,V.good,aD HR.o]),aO.o⟩
 obtain⟨M,hM⟩:∃M,v.most=M:=⟨_,rfl⟩;have HM:=aa hM;go_wp2_with fail;refine(akz v _ c (HV.o.grow aO.o)).mono ?_;rintro e w2 ⟨rfl,hg2⟩;have dH:=cP.o.grow hg2;have hc:=dH.cell;have hBl:=dH.lt;have bf:=aa dH;have HG2:=aa (aO.o.trans hg2);clear hg2 dH;rw[hM];clear hM;by_cases m1:64<M
 ·go_wp2_with fail;go_ret;exact⟨ij (by rw[← HA.o,V.good,ak (by rw[HR.o];decide),aD (by rw[HM.o];exact m1)]),HG2.o⟩
 obtain⟨D,hD⟩:∃D,v.depth=D:=⟨_,rfl⟩;have HD:=aa hD;go_wp2_with fail;refine(akB v _ c HR.o hm.1 (HV.o.grow HG2.o)).mono ?_;rintro e w3 ⟨rfl,hg3⟩;have f_:=bf.o.grow hg3;have hc:=f_.cell;have hBl:=f_.lt;have bn:=aa f_;have aG:=aa (HG2.o.trans hg3);clear hg3 f_;rw[hD];clear hD;by_cases d1:16<D
 ·go_wp2_with fail;go_ret;exact⟨ij (by rw[← HA.o,V.good,ak (by rw[HR.o];decide),ak (by rw[HM.o];exact m1),aD (by rw[HD.o];exact d1)]),aG.o⟩
 obtain⟨S,hS⟩:∃S,v.bytes.length=S:=⟨_,rfl⟩;have HS:=aa hS;go_wp2_with fail;refine(akD v _ c HR.o (hm.2 HR.o) (HV.o.grow aG.o)).mono ?_;rintro e w4 ⟨rfl,hg4⟩;have hB4:=bn.o.grow hg4;have hc:=hB4.cell;have hBl:=hB4.lt;have ar:=aa hB4;have bP:=aa (aG.o.trans hg4);clear hg4 hB4;rw[hS];clear hS;by_cases s1:4096<S
 ·go_wp2_with fail;go_ret;exact⟨ij (by rw[← HA.o,V.good,ak (by rw[HR.o];decide),ak (by rw[HM.o];exact m1),ak (by rw[HD.o];exact d1),aD (by rw[HS.o];exact s1)]),bP.o⟩
 go_wp2_with fail;go_ret;exact⟨ij (by rw[← HA.o,V.good,ak (by rw[HR.o];decide),ak (by rw[HM.o];exact m1),ak (by rw[HD.o];exact d1),ak (by rw[HS.o];exact s1)]),bP.o⟩
theorem V.alR{v:V}(h:v.good=0):v.formed=true∧v.bytes.length≤4096:=by
 unfold V.good at h
 cases hf:v.formed
 ·rw[hf] at h;simp at h
 rw[hf] at h;refine⟨rfl,?_⟩;simp only[Bool.true_eq_false,jc] at h;split at h
 ·omega
 split at h
 ·omega
 split at h<;>omega
theorem Ea(v:V)(w:World)(c:Cv)(dY:v.count≤20000)(hT:dz w)(hv:In w v c) :
 Calls prog 20 #[c.agg] w fun e w'=>e=.returned (.int .i64 v.good)∧Grow w w':=KQ v w c (V.abV dY hv) hT hv
theorem OM(S:Nat)(hS:S≤140737488355328):∃cur:Array Value,cur.size=S∧∀w:World,(Instr.makeSlice 23 (.int .i64 0) (.int .i64 (S:Int))).run prog w=.ok (.slice (some ⟨w.heap.size,0,none⟩) 0 S) (w.alloc (.cells cur 5)):=by
 obtain⟨i0,hi0,hz0,hz1,hz2⟩:=info_parts F6;refine⟨madeCells (Value.int .u8 0).cells (S*i0.size),?_,fun w=>?_⟩
 ·rw[hz1];simp[madeCells]
 have h:=run_make (P:=prog) (w:=w) 23 5 i0 (.int .u8 0) fk hi0 hz0 .i64 .i64 0 (S:Int) (by omega) (by omega) (by rw[hz2];omega) (by omega);exact h
end
abbrev mP:=@V.alR
abbrev DZ:=@V.abU
abbrev D8:=@V.abV
abbrev KN:=@V.alN
section
open Go.RowKit Go.Shelf
theorem rN(w:World)(b i:Nat)(u:Value):w.grownBy (w.setCell ⟨b,i,none⟩ u) (some b):=
 ⟨rfl,rfl,rfl,by simp[World.setCell],fun k _ hk=>C_ w ⟨b,i,none⟩ u k (fun e=>hk (by rw[e]))⟩
def GB(w w':World)(pb:Nat):Prop:=w.grownBy w' (some pb)
theorem GB.trans{a b c:World}(h:GB a b pb)(k:GB b c pb):GB a c pb:=
 ⟨k.os.trans h.os,k.tape.trans h.tape,k.output.trans h.output,aV h.size k.size,fun i hi hne=>(k.block i (bG hi h.size) hne).trans (h.block i hi hne)⟩
theorem abW:(prog.info? 27).map (·.size)=some 5:=by kernel_rfl
def rL(W:World)(vb:Nat)(c:Cv):World:=
 ((((W.setCell ⟨vb,0,none⟩ (.int .i64 c.k)).setCell ⟨vb,1,none⟩ (.int .u64 c.n)).setCell ⟨vb,2,none⟩ (.slice c.aB c.nB c.cB)).setCell ⟨vb,3,none⟩ (.slice c.aL c.nL c.cL)).setCell ⟨vb,4,none⟩ (.slice c.aF c.nF c.cF)
theorem Ed{c:Cv}(h:Blk W vb t c.cells):Blk (rL W vb c) vb t c.cells:=by
 have:=((((h.aY 0 (.int .i64 c.k)).aY 1 (.int .u64 c.n)).aY 2 (.slice c.aB c.nB c.cB)).aY 3 (.slice c.aL c.nL c.cL)).aY 4 (.slice c.aF c.nF c.cF);exact this
theorem VO(W:World)(vb:Nat)(c:Cv):W.grownBy (rL W vb c) (some vb):=
 ((((rN W vb 0 _).trans (rN _ vb 1 _)).trans (rN _ vb 2 _)).trans (rN _ vb 3 _)).trans (rN _ vb 4 _)
theorem acI(W:World)(vb:Nat)(c:Cv):(rL W vb c).heap.size=W.heap.size:=by simp[rL,World.setCell]
end
section
open Go.RowKit Go.Shelf
theorem qB:(prog.info? 27).map (fun i=>(i.zero,i.size,i.bytes))=some (some (.agg #[.int .i64 0,.int .u64 0,.slice none 0 0,.slice none 0 0,.slice none 0 0]),5,88):=by kernel_rfl
theorem km:prog.underlying 24=some (.slice 27):=by kernel_rfl
theorem VN:(prog.info? 82).map (fun i=>(i.zero,i.size,i.bytes))=some (some (.agg #[.string ⟨#[]⟩,.int .i64 0,.int .u64 0,.slice none 0 0,.slice none 0 0,.slice none 0 0]),6,104):=by kernel_rfl
theorem Bu:prog.underlying 25=some (.slice 82):=by kernel_rfl
structure VE where
 s:ByteArray
 v:V
 c:Cv
 lo:Nat
 hi:Nat
abbrev Gb:ByteArray→List Value:=fun _=>[]
abbrev uJ:ByteArray→List Value:=fun s=>[.string s]
def cellsOf(hd:ByteArray→List Value)(es:List VE):List Value:=(es.map fun x=>hd x.s++x.c.cells.toList).flatten
theorem alS(hd:ByteArray→List Value)(es:List VE)(x:VE):cellsOf hd (es++[x])=cellsOf hd es++(hd x.s++x.c.cells.toList):=by simp[cellsOf]
theorem alT(c:Cv):c.cells.toList.length=5:=rfl
theorem alU{hd:ByteArray→List Value}{k:Nat}(hk:∀s,(hd s).length=k)(hz:k+5=z):∀(es:List VE) (i t:Nat) (hi:i<es.length) (_ht:t<z),(cellsOf hd es)[i*z+t]?=(hd es[i].s++es[i].c.cells.toList)[t]?:=by
 intro es
 induction es with
 | nil=>intro i t hi;simp at hi
 | cons x xs ih =>
  intro i t hi ht;have e:cellsOf hd (x::xs)=(hd x.s++x.c.cells.toList)++cellsOf hd xs:=by simp[cellsOf]
  have hl:(hd x.s++x.c.cells.toList).length=z:=by rw[bp,hk,alT];exact hz
  rw[e]
  cases i with
  | zero=>rw[FK,eo,J_ (by rw[hl];exact ht)];rfl
  | succ i =>
   rw[Ka (by rw[hl,uz];omega),hl,show (i+1)*z+t-z=i*z+t by rw[uz];omega,ih i t (by simpa using hi) ht];rfl
structure gY (w:World) (te:TypeId) (hd:ByteArray→List Value) (z lo vb base:Nat) (v:Value) (es:List VE):Prop where
 own:w.ownsRow base te z v es.length (cellsOf hd es)
 part:∀x∈es,lo≤x.lo∧vb<x.lo∧(∀g,v.ownBlock=some g→¬ (x.lo≤g∧g<x.hi))∧pE w x.lo x.hi x.v x.c
 apart:∀i j (hi:i<es.length) (hj:j<es.length),i<j→es[i].hi≤es[j].lo
theorem gY.ot{hd:ByteArray→List Value}{es:List VE}(h:gY W te hd z lo vb base v es){k:Nat}(hk:v.ownBlock=some k):base≤k∧k<W.heap.size:=bJ h.own k hk
theorem gY.cap{hd:ByteArray→List Value}{n cap:Nat}{es:List VE}(h:gY W te hd z lo vb base (.slice A n cap) es)(hn:n=es.length):n≤cap:=by
 rcases h.own.2 with ⟨hv,h0⟩ | ⟨g,cap',cur,hv,_,_,hc,_⟩
 ·omega
 injection hv with _ _ e;omega
theorem gY.cellAt{hd:ByteArray→List Value}{k n cap:Nat}{es:List VE}(h:gY W te hd z lo vb base (.slice A n cap) es)(hk:∀s,(hd s).length=k)(hz:k+5=z)(hn:n=es.length)(i:Nat)(hi:i<es.length) :
 ∃g,A=some ⟨g,0,none⟩∧base≤g∧g<W.heap.size∧∀t u,t<z→(hd es[i].s++es[i].c.cells.toList)[t]?=some u→CF W ⟨g,0+i*z+t,none⟩ u:=by
 subst hn;obtain⟨g,cap',hv,hb,hlt⟩:=World.ownsRow.form h.own (by omega);have hA:A=some ⟨g,0,none⟩:=by injection hv
 subst hA;refine⟨g,rfl,hb,hlt,fun t u ht hu=>⟨?_,FL h.own _⟩⟩;have:=FE h.own (g:=g) rfl (i*z+t) u (by rw[alU hk hz es i t hi ht];exact hu);rw[add_lit] at this;rw[← this];congr 2;omega
theorem gY.grow{hd:ByteArray→List Value}{es:List VE}(h:gY W te hd z lo vb base v es)(hg:Grow W W'):gY W' te hd z lo vb base v es:=by
 refine⟨o_ h.own (row:=none) ⟨hg.os,hg.tape,hg.output,hg.size,fun k hk _=>hg.below.block k hk⟩ (by cases v.ownBlock<;>simp),fun x hx=>?_,h.apart⟩;obtain⟨p1,p2,p3,p4⟩:=h.part x hx;exact⟨p1,p2,p3,p4.grow hg⟩
theorem gY.add{w2:World}{hd:ByteArray→List Value}{m0:Nat}{es:List VE}{x:V}{c:Cv}{o:Obj}(h:gY w2 te hd z lo vb base v es)(hv:∀k,v.ownBlock=some k→k<m0)(hvb:vb<m0)(hlo:lo≤m0)(hm:∀y∈es,y.hi≤m0)
 (hx:pE w2 m0 w2.heap.size x c) (h2:w3.ownsRow base te z v' (es.length+1) (cellsOf hd es++(hd s++c.cells.toList))) (hg:(w2.alloc o).grownBy w3 v.ownBlock)
 (iQ:v'.ownBlock=v.ownBlock∨v'.ownBlock=some (w2.alloc o).heap.size):gY w3 te hd z lo vb base v' (es++[⟨s,x,c,m0,w2.heap.size⟩]):=by
 have hsz:(w2.alloc o).heap.size=w2.heap.size+1:=by simp
 have CZ:=hg.size;have hblk:∀k,k<w2.heap.size→(∀g,v.ownBlock=some g→k≠g)→w3.heap[k]?=w2.heap[k]?:=fun k hk hne =>
  (hg.block k (by omega) (fun e=>hne k e.symm rfl)).trans (((ah w2).alloc o).below.block k hk)
 refine⟨by rw[bp,alS];exact h2,fun y hy=>?_,fun i j hi hj hij=>?_⟩
 ·rcases qo.1 hy with hy | hy
  ·obtain⟨p1,p2,p3,p4⟩:=h.part y hy;refine⟨p1,p2,fun g e=>?_,p4.blocks (by omega) (fun k hk hk'=>hblk k (bG hk' p4.1) (fun g e e'=>p3 g e (by omega)))⟩;rcases iQ with q | q
   ·exact p3 g (q ▸ e)
   rw[q] at e;injection e with e;have:=hm y hy;have:=p4.1;omega
  rw[rz] at hy;subst hy;refine⟨hlo,hvb,fun g e=>?_,hx.blocks (by omega) (fun k hk hk'=>hblk k hk' (fun g e e'=>by have:=hv g e;omega))⟩;rcases iQ with q | q
  ·have:=hv g (q ▸ e);show ¬ (m0≤g∧g<w2.heap.size);omega
  rw[q] at e;injection e with e;show ¬ (m0≤g∧g<w2.heap.size);omega
 rw[bp,FM] at hj;rcases gp j es.length with hj' | hj'
 ·rw[Kb (by omega),Kb hj'];exact h.apart i j (by omega) hj' hij
 have:j=es.length:=by omega
 subst this;rw[Kb (by omega),NU (au _)];simp only[y_,FN];exact hm _ (aS _)
end
section
open Go.RowKit Go.Shelf
theorem Blk.own{row:Option Nat}(h:Blk w g t cs)(hg:w.grownBy w' row)(hne:∀k,row=some k→k≠g):Blk w' g t cs:=
 (hg.block g h.lt (fun e=>hne g e.symm rfl)).trans h
theorem Src.OJ(c:Cv)(e:TypeId):Src prog 5 24 (.slice (some ⟨w.heap.size,0,none⟩) 1 1) 1 c.cells.toList (w.alloc (.cells c.cells e)):=
 Src.ofSlice _ km ⟨w.heap.size,0,none⟩ 1 1 _ rfl (fun j u hu=>by
  rw[add_lit,eo,(az w e c.cells).cell j,← hu,nC]) (fun u hu=>by
  simp only[jI,wu,wB] at hu;rcases hu with rfl | rfl | rfl | rfl | rfl<;>rfl)
end
abbrev qC:=@Blk.own
section
open Go.RowKit Go.Shelf Go.Maps Go.WideMaps
theorem gY.kept{hd:ByteArray→List Value}{es:List VE}{row:Option Nat}(h:gY W te hd z lo vb base v es)(hg:W.grownBy W' row)(hne:∀k,row=some k→v.ownBlock≠some k∧k≤vb):gY W' te hd z lo vb base v es:=by
 refine⟨o_ h.own hg ?_,fun x hx=>?_,h.apart⟩
 ·cases hr:row with
  | none=>cases v.ownBlock<;>simp
  | some k=>exact .inr (hne k hr).1
 obtain⟨p1,p2,p3,p4⟩:=h.part x hx;exact⟨p1,p2,p3,p4.blocks hg.size (fun k hk hk'=>hg.block k (bG hk' p4.1) (fun e=>by have:=(hne k e.symm).2;omega))⟩
theorem gY.lower{hd:ByteArray→List Value}{KF:Nat}{es:List VE}(h:gY W te hd z lo vb base v es)(hv:KF≤vb):gY W te hd z lo KF base v es:=
 ⟨h.own,fun x hx=>by obtain⟨p1,p2,p3,p4⟩:=h.part x hx;exact⟨p1,by omega,p3,p4⟩,h.apart⟩
abbrev Cv.mj(s:ByteArray)(c:Cv):Array Value:=#[.string s,.int .i64 c.k,.int .u64 c.n,.slice c.aB c.nB c.cB,.slice c.aL c.nL c.cL,.slice c.aF c.nF c.cF]
theorem Src.O3(s:ByteArray)(c:Cv)(e:TypeId):Src prog 6 25 (.slice (some ⟨w.heap.size,0,none⟩) 1 1) 1 (uJ s++c.cells.toList) (w.alloc (.cells (c.mj s) e)):=
 Src.ofSlice _ Bu ⟨w.heap.size,0,none⟩ 1 1 _ rfl (fun j u hu=>by
  rw[add_lit,eo,(az w e (c.mj s)).cell j,← hu,← nC];rfl) (fun u hu=>by
  simp only[jI,wu,wB,AR,ql] at hu;rcases hu with rfl | rfl | rfl | rfl | rfl | rfl<;>rfl)
end
section
open Go.RowKit Go.Shelf
theorem wI{c:Cv}{c0 c1 c2 c3 c4:Value}(h:Blk W vb t #[c0,c1,c2,c3,c4]):Blk (rL W vb c) vb t c.cells:=by
 have:=((((h.aY 0 (.int .i64 c.k)).aY 1 (.int .u64 c.n)).aY 2 (.slice c.aB c.nB c.cB)).aY 3 (.slice c.aL c.nL c.cL)).aY 4 (.slice c.aF c.nF c.cF);exact this
end
section
open Go.RowKit Go.Shelf
theorem BF(w:World)(s:ByteArray):∃c W,(convert 9 23 (.string s)).run prog w=.ok (.slice (some ⟨w.heap.size,0,none⟩) s.size c) W∧s.size≤c∧Grow w W∧bh W (some ⟨w.heap.size,0,none⟩) s.data.toList:=by
 have hg:Grow w (Lib.bytesWorld w 5 s):=Go.Joins.below_bytesWorld _ w _ s (au _);refine⟨_,_,Lib.run_convert_string_bytes w _ _ 5 s pz fk Dz,grownCap_ge _ _ _ _,hg,?_,?_⟩
 ·simp[b_]
 intro h0;refine⟨_,_,rfl,fun j u hu=>?_⟩;have hj:j<s.data.toList.length:=by
  have:=(jd.1 hu).1;simpa [b_] using this
 have hj':j<s.size:=by simpa using hj
 rw[wE _ j hj] at hu;injection hu with hu;subst hu;refine⟨?_,by simp,by rw[Lib.bytesWorld_size];simp⟩;rw[show (0:Nat)+j=j by omega,Lib.bytesWorld_cell w _ s j hj',gy,bH hj];rfl
theorem acQ(hF:F.results=#[ResultVar.cell 2 27])(h2:tmps.getD 2 undef=.pointer (some ⟨vb,0,none⟩))(c:Cv)(hv:Blk W vb 27 c.cells) :
 (results F tmps).run prog W=.ok c.agg W:=by
 have tC:=hv.cell;have h2':tmps[2]?.getD undef=.pointer (some ⟨vb,0,none⟩):=by simpa using h2
 simp[results,hF,go_sem,h2',tC]
theorem bh.blk{xs:List UInt8}(h:Blk w g t (b_ xs).toArray):bh w (some ⟨g,0,none⟩) xs:=
 ⟨by simp[b_],fun _=>⟨g,0,rfl,fun j u hu=>⟨by rw[eo,h.cell j];simpa using hu,aR _,h.lt⟩⟩⟩
end
section
open Go.RowKit Go.Shelf Go.WideShapes
theorem JG{v:V}{c:Cv}(h:IsV (bQ w lo w.heap.size) v c){p:Addr}(hp:p.block<lo)(u:Value):IsV (bQ (w.setCell p u) lo (w.setCell p u).heap.size) v c:=by
 refine dX (fun a x ha=>?_) v c h;have hne:a.block≠p.block:=by have:=ha.2.1;omega
 refine⟨(uy (a:=a) (C_ w p u a.block hne)).trans ha.1,ha.2.1,?_⟩;have:=ha.2.2;simpa using this
theorem Wx{v:V}{c:Cv}(h:IsV (bQ w lo w.heap.size) v c)(hp:vb<lo)(d:Cv):IsV (bQ (rL w vb d) lo (rL w vb d).heap.size) v c:=
 JG (JG (JG (JG (JG h (p:=⟨vb,0,none⟩) hp _) (p:=⟨vb,1,none⟩) hp _) (p:=⟨vb,2,none⟩) hp _) (p:=⟨vb,3,none⟩) hp _) (p:=⟨vb,4,none⟩) hp _
theorem Grow.mK{a:World}(h:Grow a W)(hb:a.heap.size≤vb)(c:Cv):Grow a (rL W vb c):=
 ((((h.setCell (p:=⟨vb,0,none⟩) hb _).setCell (p:=⟨vb,1,none⟩) hb _).setCell (p:=⟨vb,2,none⟩) hb _).setCell (p:=⟨vb,3,none⟩) hb _).setCell (p:=⟨vb,4,none⟩) hb _
theorem gY.acJ{n cap:Nat}{es:List VE}(h:gY W 27 Gb 5 lo vb base (.slice A n cap) es)(hn:n=es.length)(h1:lo≤base)(h2:vb<base)(h64:n≤140737488355328) :
 lG (fun p u=>CF W p u∧p.block≠vb) (.mk 7 0 [] (es.map VE.v) []) ⟨7,0,none,0,0,A,n,cap,none,0,0⟩ (fun q=>lo≤q∧q<W.heap.size):=by
 have hcap:=h.cap hn;rw[lG];refine⟨rfl,rfl,rfl,by rw[dE];exact hn,rfl,by omega,by omega,by omega,by simp,by simp,by show (es.map VE.v).length≤cap;rw[dE];omega,by rw[dE];omega,by simp,by simp,⟨by simp[b_],fun h=>by simp at h⟩,
  ⟨fun i q=>∃x,es[i]?=some x∧x.lo≤q∧q<x.hi,fun i hi=>?_,fun i j hij hj q hq hq'=>?_⟩,⟨fun _ _=>False,fun i hi=>absurd hi (by simp),fun _ _ _ _ _ h=>h.elim⟩⟩
 ·rw[dE] at hi;obtain⟨g,rfl,hb,hlt,hcell⟩:=h.cellAt (k:=0) (fun _=>rfl) rfl hn i hi;obtain⟨p1,p2,p3,p4⟩:=h.part es[i] (aS hi);refine⟨g,0,es[i].c,rfl,⟨aV h1 hb,hlt⟩,?_,?_,?_,?_⟩
  ·rintro⟨x,hx,q⟩;rw[bH hi] at hx;injection hx with hx;subst hx;exact p3 g rfl q
  ·rintro q ⟨x,hx,q1,q2⟩;rw[bH hi] at hx;injection hx with hx;subst hx;have:=p4.1;exact⟨aV p1 q1,by omega⟩
  ·exact⟨⟨hcell 0 _ (by omega) rfl,by show g≠vb;omega⟩,⟨hcell 1 _ (by omega) rfl,by show g≠vb;omega⟩,⟨hcell 2 _ (by omega) rfl,by show g≠vb;omega⟩,⟨hcell 3 _ (by omega) rfl,by show g≠vb;omega⟩,⟨hcell 4 _ (by omega) rfl,by show g≠vb;omega⟩⟩
  rw[iO];exact lG.mono _ _ _ _ (fun p u q s=>⟨q,by have:=s.1;omega⟩) (fun q s=>⟨_,bH hi,s⟩) p4.2
 rw[dE] at hj;have hi':i<es.length:=FO hij hj;obtain⟨x,hx,q1,q2⟩:=hq;obtain⟨y,hy,q3,q4⟩:=hq';rw[bH hi'] at hx;rw[bH hj] at hy;injection hx with hx;injection hy with hy;subst hx hy;have:=h.apart i j (by omega) hj hij;omega
theorem gY.acK{n cap:Nat}{es:List VE}(h:gY W 82 uJ 6 lo vb base (.slice A n cap) es)(hs:∀x∈es,x.s.size≤140737488355328)(hn:n=es.length)(h1:lo≤base)(h2:vb<base)(h64:n≤140737488355328) :
 lG (fun p u=>CF W p u∧p.block≠vb) (.mk 8 0 [] [] (es.map fun x=>(x.s,x.v))) ⟨8,0,none,0,0,none,0,0,A,n,cap⟩ (fun q=>lo≤q∧q<W.heap.size):=by
 have hcap:=h.cap hn;rw[lG];refine⟨rfl,rfl,rfl,rfl,by rw[dE];exact hn,by omega,by omega,by omega,by simp,by simp,by simp,by simp,by show (es.map fun x=>(x.s,x.v)).length≤cap;rw[dE];omega,by rw[dE];omega,⟨by simp[b_],fun h=>by simp at h⟩,
  ⟨fun _ _=>False,fun i hi=>absurd hi (by simp),fun _ _ _ _ _ h=>h.elim⟩,⟨fun i q=>∃x,es[i]?=some x∧x.lo≤q∧q<x.hi,fun i hi=>?_,fun i j hij hj q hq hq'=>?_⟩⟩
 ·rw[dE] at hi;obtain⟨g,rfl,hb,hlt,hcell⟩:=h.cellAt (k:=1) (fun _=>rfl) rfl hn i hi;obtain⟨p1,p2,p3,p4⟩:=h.part es[i] (aS hi);refine⟨g,0,es[i].c,rfl,⟨aV h1 hb,hlt⟩,?_,?_,?_,?_,?_,?_⟩
  ·rintro⟨x,hx,q⟩;rw[bH hi] at hx;injection hx with hx;subst hx;exact p3 g rfl q
  ·rintro q ⟨x,hx,q1,q2⟩;rw[bH hi] at hx;injection hx with hx;subst hx;have:=p4.1;exact⟨aV p1 q1,by omega⟩
  ·rw[iO];exact⟨hcell 0 _ (by omega) rfl,by show g≠vb;omega⟩
  ·rw[iO];exact hs _ (aS hi)
  ·exact⟨⟨hcell 1 _ (by omega) rfl,by show g≠vb;omega⟩,⟨hcell 2 _ (by omega) rfl,by show g≠vb;omega⟩,⟨hcell 3 _ (by omega) rfl,by show g≠vb;omega⟩,⟨hcell 4 _ (by omega) rfl,by show g≠vb;omega⟩,⟨hcell 5 _ (by omega) rfl,by show g≠vb;omega⟩⟩
  rw[iO];exact lG.mono _ _ _ _ (fun p u q s=>⟨q,by have:=s.1;omega⟩) (fun q s=>⟨_,bH hi,s⟩) p4.2
 rw[dE] at hj;have hi':i<es.length:=FO hij hj;obtain⟨x,hx,q1,q2⟩:=hq;obtain⟨y,hy,q3,q4⟩:=hq';rw[bH hi'] at hx;rw[bH hj] at hy;injection hx with hx;injection hy with hy;subst hx hy;have:=h.apart i j (by omega) hj hij;omega
def VP(w:World)(v:V)(e:Ending)(w':World):Prop:=
 ∃c:Cv,e=.returned c.agg∧pE w' w.heap.size w'.heap.size v c∧Grow w w'
def Pw(w:World)(A:Option Addr)(ts:List Bool):Prop:=Reads (bQ w 0 w.heap.size) 1 A ts.length (ts.map Value.bool)
end
section
open V
def V.nE:V→Prop
 | mk _ _ b l f=>b.length≤1000000000∧l.length≤1000000000∧f.length≤1000000000∧(∀x∈l,nE x)∧(∀x∈f,nE x.2)
termination_by v=>SizeOf.sizeOf v
decreasing_by
 ·exact sV ‹_›
 exact sW ‹_›
theorem V.OL{k:Int}{n:Nat}{b:List UInt8}{l:List V}{f:List (ByteArray×V)}:(V.mk k n b l f).nE↔b.length≤1000000000∧l.length≤1000000000∧f.length≤1000000000∧(∀x∈l,x.nE)∧(∀x∈f,x.2.nE):=by
 rw[V.nE]
end
section
open Go.Shelf Go.RowKit Go.Lib Go.Sort
structure gD where
 b:List UInt8
 A:Option Addr
 c:Nat
 sz:Int
 d:Cv
abbrev gD.cells(e:gD):Array Value:=#[.slice e.A e.b.length e.c,.int .i64 e.sz,.int .i64 e.d.k,.int .u64 e.d.n,.slice e.d.aB e.d.nB e.d.cB,.slice e.d.aL e.d.nL e.d.cL,.slice e.d.aF e.d.nF e.d.cF]
def Lv(w:World)(blk:Nat)(e:gD):Prop:=Reads (fun p u=>w.cell? p=some u∧p.block<w.heap.size∧p.block≠blk) 1 e.A e.b.length (b_ e.b)
abbrev zN(w:World)(blk:Nat):={ e:gD // Lv w blk e }
def pP{w:World}{blk:Nat}(e:zN w blk):List Value:=e.1.cells.toList
def Qs{w:World}{blk:Nat}(x y:zN w blk):Int:=Lib.compareBytes x.1.b y.1.b
theorem ae5{blk:Nat}(e:zN w blk):(pP e).length=7:=rfl
theorem ae6{blk:Nat}(e:zN w blk):∀v∈pP e,v.oneCell'=true:=by simp[pP,Value.oneCell']
theorem alV(x y:gD)(W:World)(hx:bh W x.A x.b)(hy:bh W y.A y.b) :
 Calls prog 108 #[.agg x.cells,.agg y.cells] W fun e w'=>e=.returned (.int .i64 (Lib.compareBytes x.b y.b))∧w'=(W.alloc (.cells x.cells 115)).alloc (.cells y.cells 115):=by
 have hg:=((ah W).alloc (.cells x.cells 115)).alloc (.cells y.cells 115);have HC:=aa (Oz x.b y.b x.A y.A x.c y.c _ (hx.grow hg) (hy.grow hg));clear hx hy hg;obtain⟨z,hz⟩:∃z,Lib.compareBytes x.b y.b=z:=⟨_,rfl⟩;rw[hz] at HC ⊢;clear hz;go_enter func108,ntmps108;go_wp2_with fail;refine HC.o.mono ?_;rintro e w' ⟨rfl,rfl⟩;go_wp2_with fail;go_ret;exact⟨rfl,rfl⟩
theorem Lv.Lg{blk:Nat}{α:Type}[Inhabited α]{e:gD}(h:Lv w blk e)(enc:α→List Value)(k off m:Nat)(dk:Array α)(os:Array Obj)(hz:w.heap.size≤(sortWorldK enc k w blk off m dk os).heap.size):bh (sortWorldK enc k w blk off m dk os) e.A e.b:=
 eV (fun p u hp=>by
  refine⟨?_,aR _,bG hp.2.1 hz⟩;unfold sortWorldK;rw[cell?_grow _ _ _ (by rw[size_putRowK];exact hp.2.1),cell?_putRowK_other enc k _ blk off dk p hp.2.2];exact hp.1) h
theorem ae9(w:World)(blk off size:Nat)[Inhabited (zN w blk)]:CmpLays prog 108 #[] (pP (w:=w) (blk:=blk)) 7 Qs blk off size w:=fun m os dk sw x y=>by
 refine(alV x.1 y.1 _ (x.2.Lg _ _ _ _ _ _ (size_sortWorldK_c _ _ _ _ _ _ _ _)) (y.2.Lg _ _ _ _ _ _ (size_sortWorldK_c _ _ _ _ _ _ _ _))).mono ?_;rintro e w' ⟨he,hw⟩;exact⟨he,0,#[.cells x.1.cells 115,.cells y.1.cells 115],by rw[hw,alloc_eq_grow,alloc_eq_grow,grow_grow];rfl⟩
end
section
open Go.Shelf Go.RowKit Go.Lib Go.Sort
def eI(a b:List UInt8):Bool:=decide (Lib.compareBytes a b<0)
theorem JH(a:List UInt8):eI a []=false:=by cases a<;>simp[eI,Lib.compareBytes]
theorem U2(x:UInt8)(a:List UInt8):eI [] (x::a)=true:=by simp[eI,Lib.compareBytes]
theorem U3(x y:UInt8)(a b:List UInt8):eI (x::a) (y::b)=(decide (x<y)||(x==y&&eI a b)):=by
 unfold eI;rw[Lib.compareBytes];by_cases h1:x<y
 ·simp[h1]
 by_cases h2:x=y
 ·subst h2;simp[h1]
 have h3:y<x:=by
  rcases Ki x.toNat y.toNat with h | h | h
  ·exact absurd (Bf.2 h) h1
  ·exact absurd (yZ.1 h) h2
  exact Bf.2 h
 simp[h1,h2,h3]
theorem vg:∀a:List UInt8,eI a a=false
 | []=>JH []
 | x::a=>by rw[U3,vg a];simp
theorem zI:∀a b c:List UInt8,eI a b=true→eI b c=true→eI a c=true
 | [],[],c,h,k=>by rw[JH] at h;cases h
 | [],y::b,[],h,k=>by rw[JH] at k;cases k
 | [],y::b,z::c,h,k=>U2 z c
 | x::a,[],c,h,k=>by rw[JH] at h;cases h
 | x::a,y::b,[],h,k=>by rw[JH] at k;cases k
 | x::a,y::b,z::c,h,k=>by
  rw[U3] at h k ⊢;simp only[J3,iy,ig,FI] at h k ⊢;rcases h with h | ⟨rfl,h⟩
  ·rcases k with k | ⟨rfl,k⟩
   ·exact .inl (UInt8.lt_trans h k)
   exact .inl h
  rcases k with k | ⟨rfl,k⟩
  ·exact .inl k
  exact .inr ⟨rfl,zI a b c h k⟩
theorem K0:∀a b:List UInt8,eI a b=false→eI b a=false→a=b
 | [],[],h,k=>rfl
 | [],y::b,h,k=>by rw[U2] at h;cases h
 | x::a,[],h,k=>by rw[U2] at k;cases k
 | x::a,y::b,h,k=>by
  rw[U3] at h k;simp only[nz,lC,l_,pd] at h k;have hxy:x=y:=by
   rcases Ki x.toNat y.toNat with h' | h' | h'
   ·exact absurd (Bf.2 h') h.1
   ·exact yZ.1 h'
   exact absurd (Bf.2 h') k.1
  subst hxy;rw[K0 a b (by rcases h.2 with h' | h';exact absurd rfl h';exact h') (by rcases k.2 with h' | h';exact absurd rfl h';exact h')]
theorem alW:SWO eI where
 irrefl:=vg
 trans:=zI
 ntrans:=fun x y z h k=>by
  cases hc:eI x z with
  | false=>rfl
  | true =>
   cases h1:eI y x with
   | false=>rw[K0 x y h h1] at hc;rw[hc] at k;cases k
   | true=>have:=zI _ _ _ h1 hc;rw[this] at k;cases k
theorem ae8{blk:Nat}:SWO (ltOf (Qs (w:=w) (blk:=blk))) where
 irrefl:=fun x=>vg x.1.b
 trans:=fun x y z h k=>zI x.1.b y.1.b z.1.b h k
 ntrans:=fun x y z h k=>alW.ntrans x.1.b y.1.b z.1.b h k
end
section
open Go.RowKit Go.Shelf
namespace V
end V
end


section
open Go.RowKit Go.Shelf
theorem alX(k:Int)(n:Nat)(b:List UInt8)(l:List V)(f:List (ByteArray×V))(w:World)(c:Cv)(hk:k<1∨8<k)(hv:In w (.mk k n b l f) c) :
 Calls prog 100 #[c.agg] w fun e w'=>e=.returned (.bool false)∧Grow w w':=by
 have HV:=aa hv;obtain⟨aB,aL,aF,cB,cL,cF,rfl,h1,h2,h3,h4,h5,h6,h7,h8,h9,hb⟩:=hv.open;have HB:=aa hb;clear hb hv;rcases hk with hk | hk
 all_goals
  go_enter func100,ntmps100
  go_wp2_with fail
  go_ret
  exact⟨rfl,(ah w).alloc _⟩
theorem alY(n:Nat)(b:List UInt8)(l:List V)(f:List (ByteArray×V))(w:World)(c:Cv)(ho:V.own 1 n b l.length f.length=false)(hv:In w (.mk 1 n b l f) c) :
 Calls prog 100 #[c.agg] w fun e w'=>e=.returned (.bool false)∧Grow w w':=by
 have HV:=aa hv;obtain⟨aB,aL,aF,cB,cL,cF,rfl,h1,h2,h3,h4,h5,h6,h7,h8,h9,hb⟩:=hv.open;have HB:=aa hb;clear hb hv;have HO:=aa ho;clear ho;by_cases p0:((n:Int) != 0)=true
 ·go_enter func100,ntmps100;go_wp2_with fail;go_ret;exact⟨rfl,(ah w).alloc _⟩
 have q0:((n:Int) != 0)=false:=by simpa using p0
 by_cases p1:b=[]
 rotate_left
 ·have ru:0<b.length:=eD.2 p1;have ry:(0:Int)<(b.length:Int):=by omega
  go_enter func100,ntmps100;go_wp2_with fail;go_ret;exact⟨rfl,(ah w).alloc _⟩
 subst p1;by_cases p2:l=[]
 rotate_left
 ·have qi:0<l.length:=eD.2 p2;have qj:(0:Int)<(l.length:Int):=by omega
  go_enter func100,ntmps100;go_wp2_with fail;go_ret;exact⟨rfl,(ah w).alloc _⟩
 subst p2;by_cases p3:f=[]
 rotate_left
 ·have NB:0<f.length:=eD.2 p3;have NC:(0:Int)<(f.length:Int):=by omega
  go_enter func100,ntmps100;go_wp2_with fail;go_ret;exact⟨rfl,(ah w).alloc _⟩
 subst p3;exfalso;have ho:=HO.o;simp only[V.own,l_,nz,lC] at ho
 try simp at ho
 all_goals (first | omega | simp_all)
theorem alZ(n:Nat)(b:List UInt8)(l:List V)(f:List (ByteArray×V))(w:World)(c:Cv)(ho:V.own 2 n b l.length f.length=false)(hv:In w (.mk 2 n b l f) c) :
 Calls prog 100 #[c.agg] w fun e w'=>e=.returned (.bool false)∧Grow w w':=by
 have HV:=aa hv;obtain⟨aB,aL,aF,cB,cL,cF,rfl,h1,h2,h3,h4,h5,h6,h7,h8,h9,hb⟩:=hv.open;have HB:=aa hb;clear hb hv;have HO:=aa ho;clear ho;by_cases p0:(1:Int)<(n:Int)
 ·go_enter func100,ntmps100;go_wp2_with fail;go_ret;exact⟨rfl,(ah w).alloc _⟩
 have q0:¬ ((1:Int)<(n:Int)):=p0;by_cases p1:b=[]
 rotate_left
 ·have ru:0<b.length:=eD.2 p1;have ry:(0:Int)<(b.length:Int):=by omega
  go_enter func100,ntmps100;go_wp2_with fail;go_ret;exact⟨rfl,(ah w).alloc _⟩
 subst p1;by_cases p2:l=[]
 rotate_left
 ·have qi:0<l.length:=eD.2 p2;have qj:(0:Int)<(l.length:Int):=by omega
  go_enter func100,ntmps100;go_wp2_with fail;go_ret;exact⟨rfl,(ah w).alloc _⟩
 subst p2;by_cases p3:f=[]
 rotate_left
 ·have NB:0<f.length:=eD.2 p3;have NC:(0:Int)<(f.length:Int):=by omega
  go_enter func100,ntmps100;go_wp2_with fail;go_ret;exact⟨rfl,(ah w).alloc _⟩
 subst p3;exfalso;have ho:=HO.o;simp only[V.own,l_,nz,lC] at ho
 try simp at ho
 all_goals (first | omega | simp_all)
theorem al0(n:Nat)(b:List UInt8)(l:List V)(f:List (ByteArray×V))(w:World)(c:Cv)(ho:V.own 3 n b l.length f.length=false)(hv:In w (.mk 3 n b l f) c) :
 Calls prog 100 #[c.agg] w fun e w'=>e=.returned (.bool false)∧Grow w w':=by
 have HV:=aa hv;obtain⟨aB,aL,aF,cB,cL,cF,rfl,h1,h2,h3,h4,h5,h6,h7,h8,h9,hb⟩:=hv.open;have HB:=aa hb;clear hb hv;have HO:=aa ho;clear ho;by_cases p0:b=[]
 rotate_left
 ·have UY:0<b.length:=eD.2 p0;have UZ:(0:Int)<(b.length:Int):=by omega
  go_enter func100,ntmps100;go_wp2_with fail;go_ret;exact⟨rfl,(ah w).alloc _⟩
 subst p0;by_cases p1:l=[]
 rotate_left
 ·have ru:0<l.length:=eD.2 p1;have ry:(0:Int)<(l.length:Int):=by omega
  go_enter func100,ntmps100;go_wp2_with fail;go_ret;exact⟨rfl,(ah w).alloc _⟩
 subst p1;by_cases p2:f=[]
 rotate_left
 ·have qi:0<f.length:=eD.2 p2;have qj:(0:Int)<(f.length:Int):=by omega
  go_enter func100,ntmps100;go_wp2_with fail;go_ret;exact⟨rfl,(ah w).alloc _⟩
 subst p2;exfalso;have ho:=HO.o;simp only[V.own,l_,nz,lC] at ho
 try simp at ho
 all_goals (first | omega | simp_all)
theorem al1(n:Nat)(b:List UInt8)(l:List V)(f:List (ByteArray×V))(w:World)(c:Cv)(ho:V.own 4 n b l.length f.length=false)(hv:In w (.mk 4 n b l f) c) :
 Calls prog 100 #[c.agg] w fun e w'=>e=.returned (.bool false)∧Grow w w':=by
 have HV:=aa hv;obtain⟨aB,aL,aF,cB,cL,cF,rfl,h1,h2,h3,h4,h5,h6,h7,h8,h9,hb⟩:=hv.open;have HB:=aa hb;clear hb hv;have HO:=aa ho;clear ho;by_cases p0:b=[]
 rotate_left
 ·have UY:0<b.length:=eD.2 p0;have UZ:(0:Int)<(b.length:Int):=by omega
  go_enter func100,ntmps100;go_wp2_with fail;go_ret;exact⟨rfl,(ah w).alloc _⟩
 subst p0;by_cases p1:l=[]
 rotate_left
 ·have ru:0<l.length:=eD.2 p1;have ry:(0:Int)<(l.length:Int):=by omega
  go_enter func100,ntmps100;go_wp2_with fail;go_ret;exact⟨rfl,(ah w).alloc _⟩
 subst p1;by_cases p2:f=[]
 rotate_left
 ·have qi:0<f.length:=eD.2 p2;have qj:(0:Int)<(f.length:Int):=by omega
  go_enter func100,ntmps100;go_wp2_with fail;go_ret;exact⟨rfl,(ah w).alloc _⟩
 subst p2;exfalso;have ho:=HO.o;simp only[V.own,l_,nz,lC] at ho
 try simp at ho
 all_goals (first | omega | simp_all)
theorem al2(n:Nat)(b:List UInt8)(l:List V)(f:List (ByteArray×V))(w:World)(c:Cv)(ho:V.own 5 n b l.length f.length=false)(hv:In w (.mk 5 n b l f) c) :
 Calls prog 100 #[c.agg] w fun e w'=>e=.returned (.bool false)∧Grow w w':=by
 have HV:=aa hv;obtain⟨aB,aL,aF,cB,cL,cF,rfl,h1,h2,h3,h4,h5,h6,h7,h8,h9,hb⟩:=hv.open;have HB:=aa hb;clear hb hv;have HO:=aa ho;clear ho;by_cases p0:((n:Int) != 0)=true
 ·go_enter func100,ntmps100;go_wp2_with fail;go_ret;exact⟨rfl,(ah w).alloc _⟩
 have q0:((n:Int) != 0)=false:=by simpa using p0
 by_cases p1:l=[]
 rotate_left
 ·have ru:0<l.length:=eD.2 p1;have ry:(0:Int)<(l.length:Int):=by omega
  go_enter func100,ntmps100;go_wp2_with fail;go_ret;exact⟨rfl,(ah w).alloc _⟩
 subst p1;by_cases p2:f=[]
 rotate_left
 ·have qi:0<f.length:=eD.2 p2;have qj:(0:Int)<(f.length:Int):=by omega
  go_enter func100,ntmps100;go_wp2_with fail;go_ret;exact⟨rfl,(ah w).alloc _⟩
 subst p2;by_cases p3:Lib.validD b=false
 ·have P:=aa p3;clear p3;go_enter func100,ntmps100;go_wp2_with fail;refine(T7 b aB cB _ (HB.o.grow ((ah w).alloc _)) (by omega)).mono ?_;rintro e w' ⟨rfl,rfl⟩;rw[P.o];go_wp2_with fail;go_ret;exact⟨rfl,(ah w).alloc _⟩
 have P:=aa p3;clear p3;exfalso;have ho:=HO.o;simp only[V.own,l_,nz,lC] at ho;have P2:=P.o
 try simp at ho
 all_goals (first | omega | simp_all)
theorem al3(n:Nat)(b:List UInt8)(l:List V)(f:List (ByteArray×V))(w:World)(c:Cv)(ho:V.own 6 n b l.length f.length=false)(hv:In w (.mk 6 n b l f) c) :
 Calls prog 100 #[c.agg] w fun e w'=>e=.returned (.bool false)∧Grow w w':=by
 have HV:=aa hv;obtain⟨aB,aL,aF,cB,cL,cF,rfl,h1,h2,h3,h4,h5,h6,h7,h8,h9,hb⟩:=hv.open;have HB:=aa hb;clear hb hv;have HO:=aa ho;clear ho;by_cases p0:((n:Int) != 0)=true
 ·go_enter func100,ntmps100;go_wp2_with fail;go_ret;exact⟨rfl,(ah w).alloc _⟩
 have q0:((n:Int) != 0)=false:=by simpa using p0
 by_cases p1:l=[]
 rotate_left
 ·have ru:0<l.length:=eD.2 p1;have ry:(0:Int)<(l.length:Int):=by omega
  go_enter func100,ntmps100;go_wp2_with fail;go_ret;exact⟨rfl,(ah w).alloc _⟩
 subst p1;by_cases p2:f=[]
 rotate_left
 ·have qi:0<f.length:=eD.2 p2;have qj:(0:Int)<(f.length:Int):=by omega
  go_enter func100,ntmps100;go_wp2_with fail;go_ret;exact⟨rfl,(ah w).alloc _⟩
 subst p2;exfalso;have ho:=HO.o;simp only[V.own,l_,nz,lC] at ho
 try simp at ho
 all_goals (first | omega | simp_all)
theorem al4(n:Nat)(b:List UInt8)(l:List V)(f:List (ByteArray×V))(w:World)(c:Cv)(ho:V.own 7 n b l.length f.length=false)(hv:In w (.mk 7 n b l f) c) :
 Calls prog 100 #[c.agg] w fun e w'=>e=.returned (.bool false)∧Grow w w':=by
 have HV:=aa hv;obtain⟨aB,aL,aF,cB,cL,cF,rfl,h1,h2,h3,h4,h5,h6,h7,h8,h9,hb⟩:=hv.open;have HB:=aa hb;clear hb hv;have HO:=aa ho;clear ho;by_cases p0:((n:Int) != 0)=true
 ·go_enter func100,ntmps100;go_wp2_with fail;go_ret;exact⟨rfl,(ah w).alloc _⟩
 have q0:((n:Int) != 0)=false:=by simpa using p0
 by_cases p1:b=[]
 rotate_left
 ·have ru:0<b.length:=eD.2 p1;have ry:(0:Int)<(b.length:Int):=by omega
  go_enter func100,ntmps100;go_wp2_with fail;go_ret;exact⟨rfl,(ah w).alloc _⟩
 subst p1;by_cases p2:f=[]
 rotate_left
 ·have qi:0<f.length:=eD.2 p2;have qj:(0:Int)<(f.length:Int):=by omega
  go_enter func100,ntmps100;go_wp2_with fail;go_ret;exact⟨rfl,(ah w).alloc _⟩
 subst p2;exfalso;have ho:=HO.o;simp only[V.own,l_,nz,lC] at ho
 try simp at ho
 all_goals (first | omega | simp_all)
theorem al5(n:Nat)(b:List UInt8)(l:List V)(f:List (ByteArray×V))(w:World)(c:Cv)(ho:V.own 8 n b l.length f.length=false)(hv:In w (.mk 8 n b l f) c) :
 Calls prog 100 #[c.agg] w fun e w'=>e=.returned (.bool false)∧Grow w w':=by
 have HV:=aa hv;obtain⟨aB,aL,aF,cB,cL,cF,rfl,h1,h2,h3,h4,h5,h6,h7,h8,h9,hb⟩:=hv.open;have HB:=aa hb;clear hb hv;have HO:=aa ho;clear ho;by_cases p0:((n:Int) != 0)=true
 ·go_enter func100,ntmps100;go_wp2_with fail;go_ret;exact⟨rfl,(ah w).alloc _⟩
 have q0:((n:Int) != 0)=false:=by simpa using p0
 by_cases p1:b=[]
 rotate_left
 ·have ru:0<b.length:=eD.2 p1;have ry:(0:Int)<(b.length:Int):=by omega
  go_enter func100,ntmps100;go_wp2_with fail;go_ret;exact⟨rfl,(ah w).alloc _⟩
 subst p1;by_cases p2:l=[]
 rotate_left
 ·have qi:0<l.length:=eD.2 p2;have qj:(0:Int)<(l.length:Int):=by omega
  go_enter func100,ntmps100;go_wp2_with fail;go_ret;exact⟨rfl,(ah w).alloc _⟩
 subst p2;exfalso;have ho:=HO.o;simp only[V.own,l_,nz,lC] at ho
 try simp at ho
 all_goals (first | omega | simp_all)
theorem al6(k:Int)(n:Nat)(b:List UInt8)(l:List V)(f:List (ByteArray×V))(w:World)(c:Cv)(ho:V.own k n b l.length f.length=false)(hv:In w (.mk k n b l f) c) :
 Calls prog 100 #[c.agg] w fun e w'=>e=.returned (.bool false)∧Grow w w':=by
 by_cases hk:k<1∨8<k
 ·exact alX k n b l f w c hk hv
 have:k=1∨k=2∨k=3∨k=4∨k=5∨k=6∨k=7∨k=8:=by omega
 rcases this with rfl | rfl | rfl | rfl | rfl | rfl | rfl | rfl
 ·exact alY n b l f w c ho hv
 ·exact alZ n b l f w c ho hv
 ·exact al0 n b l f w c ho hv
 ·exact al1 n b l f w c ho hv
 ·exact al2 n b l f w c ho hv
 ·exact al3 n b l f w c ho hv
 ·exact al4 n b l f w c ho hv
 exact al5 n b l f w c ho hv
theorem al7(w:World)(c:Cv)(hv:In w (.mk 1 0 [] [] []) c) :
 Calls prog 100 #[c.agg] w fun e w'=>e=.returned (.bool true)∧Grow w w':=by
 obtain⟨aB,aL,aF,cB,cL,cF,rfl,h1,h2,h3,h4,h5,h6,h7,h8,h9,hb⟩:=hv.open;clear hb hv;go_enter func100,ntmps100;go_wp2_with fail;refine fZ ?_;go_wp2_with fail;refine fZ ?_;go_wp2_with fail;go_ret;exact⟨rfl,(ah w).alloc _⟩
theorem al8(n:Nat)(hn:n≤1)(w:World)(c:Cv)(hv:In w (.mk 2 n [] [] []) c) :
 Calls prog 100 #[c.agg] w fun e w'=>e=.returned (.bool true)∧Grow w w':=by
 obtain⟨aB,aL,aF,cB,cL,cF,rfl,h1,h2,h3,h4,h5,h6,h7,h8,h9,hb⟩:=hv.open;clear hb hv;go_enter func100,ntmps100;go_wp2_with fail;refine fZ ?_;go_wp2_with fail;refine fZ ?_;go_wp2_with fail;go_ret;exact⟨rfl,(ah w).alloc _⟩
theorem al9(n:Nat)(w:World)(c:Cv)(hv:In w (.mk 3 n [] [] []) c) :
 Calls prog 100 #[c.agg] w fun e w'=>e=.returned (.bool true)∧Grow w w':=by
 obtain⟨aB,aL,aF,cB,cL,cF,rfl,h1,h2,h3,h4,h5,h6,h7,h8,h9,hb⟩:=hv.open;clear hb hv;go_enter func100,ntmps100;go_wp2_with fail;refine fZ ?_;go_wp2_with fail;refine fZ ?_;go_wp2_with fail;go_ret;exact⟨rfl,(ah w).alloc _⟩
theorem al_(n:Nat)(w:World)(c:Cv)(hv:In w (.mk 4 n [] [] []) c) :
 Calls prog 100 #[c.agg] w fun e w'=>e=.returned (.bool true)∧Grow w w':=by
 obtain⟨aB,aL,aF,cB,cL,cF,rfl,h1,h2,h3,h4,h5,h6,h7,h8,h9,hb⟩:=hv.open;clear hb hv;go_enter func100,ntmps100;go_wp2_with fail;refine fZ ?_;go_wp2_with fail;refine fZ ?_;go_wp2_with fail;go_ret;exact⟨rfl,(ah w).alloc _⟩
theorem ama(b:List UInt8)(w:World)(c:Cv)(hv:In w (.mk 6 0 b [] []) c) :
 Calls prog 100 #[c.agg] w fun e w'=>e=.returned (.bool true)∧Grow w w':=by
 obtain⟨aB,aL,aF,cB,cL,cF,rfl,h1,h2,h3,h4,h5,h6,h7,h8,h9,hb⟩:=hv.open;clear hb hv;go_enter func100,ntmps100;go_wp2_with fail;refine fZ ?_;go_wp2_with fail;refine fZ ?_;go_wp2_with fail;go_ret;exact⟨rfl,(ah w).alloc _⟩
theorem amb(b:List UInt8)(hu:Lib.validD b=true)(w:World)(c:Cv)(hv:In w (.mk 5 0 b [] []) c) :
 Calls prog 100 #[c.agg] w fun e w'=>e=.returned (.bool true)∧Grow w w':=by
 have P:=aa hu;clear hu;obtain⟨aB,aL,aF,cB,cL,cF,rfl,h1,h2,h3,h4,h5,h6,h7,h8,h9,hb⟩:=hv.open;have HB:=aa hb;clear hb hv;go_enter func100,ntmps100;go_wp2_with fail;refine(T7 b aB cB _ (HB.o.grow ((ah w).alloc _)) (by omega)).mono ?_;rintro e w' ⟨rfl,rfl⟩;rw[P.o];go_wp2_with fail;refine fZ ?_;go_wp2_with fail;refine fZ ?_;go_wp2_with fail;go_ret;exact⟨rfl,(ah w).alloc _⟩
def U4(x:V):Prop:=∀(w:World) (c:Cv),In w x c→Calls prog 100 #[c.agg] w fun e w'=>e=.returned (.bool x.formed)∧Grow w w'
theorem amc(l:List V)(hl:∀x∈l,U4 x)(w:World)(c:Cv)(hv:In w (.mk 7 0 [] l []) c) :
 Calls prog 100 #[c.agg] w fun e w'=>e=.returned (.bool (l.all V.formed))∧Grow w w':=by
 have HV:=aa hv;have Hl:=aa hl;obtain⟨iJ,eG⟩:∃A,l.all V.formed=A:=⟨_,rfl⟩;rw[eG];have HA:=aa eG;obtain⟨aB,aL,aF,cB,cL,cF,rfl,h1,h2,h3,h4,h5,h6,h7,h8,h9,hb⟩:=hv.open;clear hb h1 h2 h3 h4 h5 hv hl eG;go_enter func100,ntmps100;go_wp2_with fail;go_loopg [3] (l.length+1) (fun gk i wr=>∃j:Nat,j≤l.length∧gk+j=l.length+1∧i=.int .i64 j∧(l.take j).all V.formed=true ∧
  Grow w wr∧Blk wr w.heap.size 27 (Cv.cells ⟨7,0,aB,0,cB,aL,l.length,cL,aF,0,cF⟩))
 exact⟨0,by omega,by omega,rfl,rfl,(ah w).alloc _,az _ _ _⟩;obtain⟨j,hj,hg,rfl,ht,hw,hB⟩:=hrel;obtain⟨gk',rfl⟩:=bz gk (by omega);have rQ:=aa ht;have hc:=hB.cell;have hBl:=hB.lt;have HW:=aa hw;have HB:=aa hB;by_cases hlt:j<l.length
 ·obtain⟨bk,o,x,ha,hbk,e0,e1,e2,e3,e4,hx⟩:=In.fh (HV.o.grow hw) j hlt;dsimp only at ha;subst ha;have HX:=aa hx;clear hw hx hB ht;go_wp2_with fail;refine(Hl.o _ (aS hlt) _ x HX.o).mono ?_;rintro e w' ⟨rfl,hb'⟩;have hgr:=aa hb';clear hb' e0 e1 e2 e3 e4 hc;obtain⟨R,hR⟩:∃R,l[j].formed=R:=⟨_,rfl⟩;rw[hR];have HR:=aa hR;clear hR
  cases R
  ·go_wp2_with fail;go_ret;refine⟨dw ?_,HW.o.trans hgr.o⟩;rw[← HA.o];exact(Dj.2 ⟨l[j],aS hlt,by rw[HR.o];exact Dh⟩).symm
  go_wp2_with fail;go_roundg gk';exact⟨j+1,by omega,by omega,by go_num,by rw[py l j hlt,FH,rQ.o];simp[HR.o],HW.o.trans hgr.o,HB.o.grow hgr.o⟩;omega
 obtain rfl:j=l.length:=by omega
 have hA:iJ=true:=by rw[← HA.o];rw[fT] at ht;exact ht
 subst hA;clear hw hB hlt hg ht;go_wp2_with fail;refine fZ ?_;go_wp2_with fail;go_ret;exact⟨rfl,HW.o⟩
def JI(f:List (ByteArray×V))(j:Nat):Prop:=(∀i (h:i<f.length),i<j→V.name f[i].1=true∧f[i].2.formed=true)∧∀i t (h:i<f.length) (h':t<f.length),i<t→t<j→f[i].1≠f[t].1
theorem JI.all{f:List (ByteArray×V)}(h:JI f f.length):(f.all fun x=>V.name x.1&&x.2.formed)=true∧(f.map Prod.fst).Nodup:=by
 refine⟨nY.2 fun x hx=>?_,?_⟩
 ·obtain⟨i,hi,rfl⟩:=ux.1 hx;rw[(h.1 i hi hi).1,(h.1 i hi hi).2];rfl
 rw[List.nodup_iff_pairwise_ne,N9];intro i t hi ht hit;rw[iO,iO];exact h.2 i t (by simpa using hi) (by simpa using ht) hit (by simpa using ht)
theorem abX{f:List (ByteArray×V)}(hj:j<f.length)(h:V.name f[j].1=false∨f[j].2.formed=false):((f.all fun x=>V.name x.1&&x.2.formed)&&decide ((f.map Prod.fst).Nodup))=false:=by
 rw[l_];left;exact Dj.2 ⟨f[j],aS hj,by rcases h with h | h<;>simp[h]⟩
theorem amd{f:List (ByteArray×V)}(hj:j<f.length)(hm:m<j)(h:f[m].1=f[j].1):((f.all fun x=>V.name x.1&&x.2.formed)&&decide ((f.map Prod.fst).Nodup))=false:=by
 rw[l_];right;rw[lC];intro hn;rw[List.nodup_iff_pairwise_ne,N9] at hn;have:=hn m j (by simp;omega) (by simp;omega) hm;rw[iO,iO] at this;exact this h
theorem ame(f:List (ByteArray×V))(hf:∀x∈f,U4 x.2)(w:World)(c:Cv)(hv:In w (.mk 8 0 [] [] f) c) :
 Calls prog 100 #[c.agg] w fun e w'=>e=.returned (.bool ((f.all fun x=>V.name x.1&&x.2.formed)&&decide ((f.map Prod.fst).Nodup)))∧Grow w w':=by
 have HV:=aa hv;have Hf:=aa hf;obtain⟨iJ,eG⟩:∃A,((f.all fun x=>V.name x.1&&x.2.formed)&&decide ((f.map Prod.fst).Nodup))=A:=⟨_,rfl⟩;rw[eG];have HA:=aa eG;obtain⟨aB,aL,aF,cB,cL,cF,rfl,h1,h2,h3,h4,h5,h6,h7,h8,h9,hb⟩:=hv.open;clear hb h1 h2 h3 h4 h5 hv hf eG;go_enter func100,ntmps100;go_wp2_with fail;refine fZ ?_;go_wp2_with fail;go_loopg [4] (f.length+1) (fun gk i wr=>∃j:Nat,j≤f.length∧gk+j=f.length+1∧i=.int .i64 j∧JI f j ∧
  Grow w wr∧Blk wr w.heap.size 27 (Cv.cells ⟨8,0,aB,0,cB,aL,0,cL,aF,f.length,cF⟩))
 exact⟨0,by omega,by omega,rfl,⟨fun i _ h=>absurd h (by omega),fun i t _ _ _ h=>absurd h (by omega)⟩,(ah w).alloc _,az _ _ _⟩;obtain⟨j,hj,hg,rfl,ht,hw,hB⟩:=hrel;obtain⟨gk',rfl⟩:=bz gk (by omega);have rQ:=aa ht;have hc:=hB.cell;have hBl:=hB.lt;have HW:=aa hw;have HB:=aa hB;by_cases hlt:j<f.length
 ·obtain⟨bk,o,x,ha,hbk,es,ik,e0,e1,e2,e3,e4,hx⟩:=In.gX (HV.o.grow hw) j hlt;dsimp only at ha;subst ha;have HX:=aa hx;clear hw hx hB ht;go_wp2_with fail;refine(Sk f[j].1 _ ik).mono ?_;rintro e w1 ⟨rfl,hg1⟩;have fp:=HB.o.grow hg1;have D4:=aa (HW.o.trans hg1);obtain⟨R,hR⟩:∃R,V.name f[j].1=R:=⟨_,rfl⟩;rw[hR];have HR:=aa hR;clear hR hc hBl;have hc1:=fp.cell;have amf:=fp.lt;have cP:=aa fp;have d0:=(hg1.below.cell (p:=⟨bk,o+j*6+1,none⟩) hbk).trans e0;have d1:=(hg1.below.cell (p:=⟨bk,o+j*6+1+1,none⟩) hbk).trans e1;have d2:=(hg1.below.cell (p:=⟨bk,o+j*6+1+2,none⟩) hbk).trans e2;have d3:=(hg1.below.cell (p:=⟨bk,o+j*6+1+3,none⟩) hbk).trans e3;have d4:=(hg1.below.cell (p:=⟨bk,o+j*6+1+4,none⟩) hbk).trans e4;have nH:=aa (HX.o.grow hg1)
  clear es e0 e1 e2 e3 e4 hg1 fp
  cases R
  ·go_wp2_with fail;go_ret;exact⟨dw (by rw[← HA.o];exact(abX hlt (.inl HR.o)).symm),D4.o⟩
  go_wp2_with fail;refine(Hf.o _ (aS hlt) _ x nH.o).mono ?_;rintro e w2 ⟨rfl,hg2⟩;have dH:=cP.o.grow hg2;have lq:=aa (D4.o.trans hg2);obtain⟨R2,tE⟩:∃R,f[j].2.formed=R:=⟨_,rfl⟩;rw[tE];have bM:=aa tE;have bf:=aa dH;clear tE d0 d1 d2 d3 d4 hc1 amf dH hg2
  cases R2
  ·go_wp2_with fail;go_ret;exact⟨dw (by rw[← HA.o];exact(abX hlt (.inr bM.o)).symm),lq.o⟩
  go_wp2_with fail;go_loopg [5] (j+1) (fun gk i wr=>∃m:Nat,m≤j∧gk+m=j+1∧i=.int .i64 m∧(∀t (h:t<f.length),t<m→f[t].1≠f[j].1)∧Grow w2 wr);exact⟨0,by omega,by omega,rfl,fun t _ h=>absurd h (by omega),ah _⟩;obtain⟨m,hm,kM,rfl,hmt,jC⟩:=hrel;have bI:=aa jC;have nr:=aa (lq.o.trans jC);have bn:=aa (bf.o.grow jC);obtain⟨gm',rfl⟩:∃g,gk=g+1:=⟨gk-1,by omega⟩;have HMT:=aa hmt;clear hmt jC;by_cases hmj:m<j
  ·have hmf:m<f.length:=by omega
   obtain⟨tG,o2,x2,ha2,hbk2,V5,_,_⟩:=In.gX (HV.o.grow nr.o) j hlt;obtain⟨bk3,o3,x3,Fw,aow,es3,_,_⟩:=In.gX (HV.o.grow nr.o) m hmf;dsimp only at ha2 Fw;injection ha2 with ha2;injection ha2 with q1 q2;subst q1 q2;injection Fw with Fw;injection Fw with q1 q2;subst q1 q2;have hc2:=bn.o.cell;have aox:=bn.o.lt;by_cases hn:f[m].1=f[j].1
   ·have rH:(f[m].1.toList==f[j].1.toList)=true:=(Bl _ _).2 hn;have HN:=aa hn;clear hn;go_wp2_with fail;go_quiet (fail);go_wp2_with fail;go_ret;exact⟨dw (by rw[← HA.o];exact(amd hlt hmj HN.o).symm),nr.o.drewN _⟩
   have rH:(f[m].1.toList==f[j].1.toList)=false:=by
    rw[J7];exact fun h=>hn ((Bl _ _).1 h)
   have HN:=aa hn;clear hn;go_wp2_with fail;go_quiet (fail);go_wp2_with fail;go_roundg gm';refine⟨m+1,by omega,by omega,by go_num,fun t h1 h2=>?_,bI.o.drewN _⟩;rcases gp t m with h | h
   ·exact HMT.o t h1 h
   obtain rfl:t=m:=by omega
   exact HN.o;omega
  obtain rfl:m=j:=by omega
  clear hmj kM;go_wp2_with fail;go_roundg gk';refine⟨m+1,by omega,by omega,by go_num,⟨fun i h1 h2=>?_,fun i t h1 h2 h3 h4=>?_⟩,nr.o,bn.o⟩
  ·rcases gp i m with h | h
   ·exact rQ.o.1 i h1 h
   obtain rfl:i=m:=by omega
   exact⟨HR.o,bM.o⟩
  rcases gp t m with h | h
  ·exact rQ.o.2 i t h1 h2 h3 h
  obtain rfl:t=m:=by omega
  exact HMT.o i h1 h3;omega
 obtain rfl:j=f.length:=by omega
 have hA:iJ=true:=by
  rw[← HA.o,(JI.all ht).1,pc];exact cj (JI.all ht).2
 subst hA;clear hw hB hlt hg ht;go_wp2_with fail;go_ret;exact⟨rfl,HW.o⟩
theorem ac6(v:V):U4 v:=by
 induction v using V.ind with
 | h k n b l f hl hf =>
  intro w c hv;rw[tj];by_cases ho:V.own k n b l.length f.length=false
  ·rw[ho];exact al6 k n b l f w c ho hv
  have Nq:V.own k n b l.length f.length=true:=by simpa using ho
  simp only[V.own,ig,J3,iy] at Nq;obtain⟨⟨⟨⟨⟨⟨a1,a2⟩,a3⟩,a4⟩,a5⟩,a6⟩,a7⟩:=Nq;have hL:k≠7→l=[]:=fun hk=>l5 (by omega)
  have hF:k≠8→f=[]:=fun hk=>l5 (by omega)
  have hB:k≠5→k≠6→b=[]:=fun h1 h2=>l5 (by omega)
  have hN:k≠2→k≠3→k≠4→n=0:=fun h1 h2 h3=>by omega
  have wZ:V.own k n b l.length f.length=true:=by simpa using ho
  have hk:k=1∨k=2∨k=3∨k=4∨k=5∨k=6∨k=7∨k=8:=by omega
  rw[wZ];rcases hk with rfl | rfl | rfl | rfl | rfl | rfl | rfl | rfl
  ·obtain rfl:=hL (by decide);obtain rfl:=hF (by decide);obtain rfl:=hB (by decide) (by decide);obtain rfl:=hN (by decide) (by decide) (by decide);simpa using al7 w c hv
  ·obtain rfl:=hL (by decide);obtain rfl:=hF (by decide);obtain rfl:=hB (by decide) (by decide);simpa using al8 n (a3 rfl) w c hv
  ·obtain rfl:=hL (by decide);obtain rfl:=hF (by decide);obtain rfl:=hB (by decide) (by decide);simpa using al9 n w c hv
  ·obtain rfl:=hL (by decide);obtain rfl:=hF (by decide);obtain rfl:=hB (by decide) (by decide);simpa using al_ n w c hv
  ·obtain rfl:=hL (by decide);obtain rfl:=hF (by decide);obtain rfl:=hN (by decide) (by decide) (by decide);simpa using amb b (a5.resolve_left (by decide)) w c hv
  ·obtain rfl:=hL (by decide);obtain rfl:=hF (by decide);obtain rfl:=hN (by decide) (by decide) (by decide);simpa using ama b w c hv
  ·obtain rfl:=hF (by decide);obtain rfl:=hB (by decide) (by decide);obtain rfl:=hN (by decide) (by decide) (by decide);have:=amc l (fun x hx=>hl x hx) w c hv;simpa using this
  obtain rfl:=hL (by decide);obtain rfl:=hB (by decide) (by decide);obtain rfl:=hN (by decide) (by decide) (by decide);have:=ame f (fun x hx=>hf x hx) w c hv;simpa using this
end
end Go.Proofs.YtndjopkdbdcmdaaGreatDoor
