/- Part 6 of the proof of pfinds_card. -/
import Derived.Test.YtndjopkdbdcmdaaGreatDoorPfi2
import Derived.LoopN
set_option linter.unusedVariables false
set_option linter.unusedSimpArgs false
set_option maxRecDepth 100000
set_option maxHeartbeats 12800000
open Go.Proofs.Tryz
namespace Go.Proofs.YtndjopkdbdcmdaaGreatDoor
section
open Go.RowKit
theorem getD_drop(b:List UInt8)(i k:Nat):(b.drop i).getD k 0=b.getD (i+k) 0:=by
 simp[jf,wY]
theorem bA.Nv{w:World}{bk o:Nat}{b:List UInt8}(h:bA w (some ⟨bk,o,none⟩) b)(j:Nat)(hj:j<b.length):w.cell? ⟨bk,o+j,none⟩=some (.int .u8 ((b.getD j 0).toNat:Int)):=by
 obtain⟨tU,o',e,_,hc⟩:=h.at_ j hj;injection e with e;injection e with e1 e2;subst e1 e2;rw[hc,jf,cJ hj];rfl
theorem T4(b:List UInt8)(A:Option Addr)(cap:Nat)(w:World)(hb:bA w A b)(hl:b.length≤140737488355328) :
 Calls prog 151 #[.slice A b.length cap] w fun e w'=>e=.returned (.bool (Lib.validD b))∧w=w':=by
 have HB:=aa hb;clear hb;obtain⟨iH,eW⟩:∃A,A=Lib.validD b:=⟨_,rfl⟩;rw[← eW];have HA:=aa eW;clear eW;go_enter func151,ntmps151;go_wp2_with fail;go_loopg [3] (b.length+1) (fun gk i wr=>w=wr∧∃j:Nat,j≤b.length∧b.length<gk+j∧i=.int .i64 j∧iH=Lib.validD (b.drop j));exact⟨rfl,0,by omega,by omega,rfl,by simpa using HA.o⟩;obtain⟨rfl,j,hj,hg,rfl,hv⟩:=hrel;by_cases hlt:j<b.length
 ·obtain⟨bk,o,rfl,hbk,aj_⟩:=HB.o.at_ j hlt;clear aj_;have hne:b.drop j≠[]:=fun h=>by have:=cT List.length h;rw[iM,bz] at this;omega
  have ga:=ahp (b.drop j) hne;have gb:=ahq (b.drop j) hne;have g2:=ahs (b.drop j) hne;have g3:=ahu (b.drop j) hne;have g4:=ahw (b.drop j) hne;simp only[getD_drop,gf,iM,Ka] at ga gb g2 g3 g4;rw[← hv] at ga gb g2 g3 g4;have c0:=HB.o.Nv j hlt;have c1:=HB.o.Nv (j+1);have c2:=HB.o.Nv (j+2);have c3:=HB.o.Nv (j+3);have l0:=(b.getD j 0).toNat_lt;have l1:=(b.getD (j+1) 0).toNat_lt;have l2:=(b.getD (j+2) 0).toNat_lt;have l3:=(b.getD (j+3) 0).toNat_lt;obtain⟨x0,hx0⟩:∃x,x=(b.getD j 0).toNat:=⟨_,rfl⟩;obtain⟨x1,hx1⟩:∃x,x=(b.getD (j+1) 0).toNat:=⟨_,rfl⟩;obtain⟨x2,hx2⟩:∃x,x=(b.getD (j+2) 0).toNat:=⟨_,rfl⟩;obtain⟨x3,hx3⟩:∃x,x=(b.getD (j+3) 0).toNat:=⟨_,rfl⟩;rw[← hx0] at ga gb g2 g3 g4 c0 l0;rw[← hx1] at g2 g3 g4 c1 l1
  rw[← hx2] at g3 g4 c2 l2;rw[← hx3] at g4 c3 l3;clear hx0 hx1 hx2 hx3 hne hv;by_cases k1:x0<128
  ·have HV:=aa (ga k1);clear ga gb g2 g3 g4 c1 c2 c3;go_wp2_with fail;refine wp_loop_rounds 1 ?_;rw[rounds_succ];go_wp2_with fail;obtain⟨g',rfl⟩:∃g,gk=g+1:=⟨gk-1,by omega⟩;go_roundg g';exact⟨rfl,j+1,by omega,by omega,by go_num,HV.o⟩;omega
  by_cases k2:x0<192∨248≤x0
  ·rcases k2 with k2 | k2
   all_goals
    have HV:=aa (gb (by omega) (by omega))
    clear ga gb g2 g3 g4 c1 c2 c3
    go_wp2_with fail
    go_ret
    exact⟨dE HV.o.symm,rfl⟩
  have k2:192≤x0∧x0<248:=by omega
  obtain⟨k3,k4⟩:=k2;by_cases k5:x0<224
  ·have q:=g2 (by omega) (by omega);by_cases n0:b.length<j+2
   ·have HV:=aa (q.trans (ai (by omega)));clear q;clear ga gb g2 g3 g4 c1 c2 c3;go_wp2_with fail;go_ret;exact⟨dE HV.o.symm,rfl⟩
   by_cases m1a:x1<128
   ·have d1:=c1 (by omega);have HV:=aa (q.trans (ai (by omega)));clear q;clear ga gb g2 g3 g4 c1 c2 c3;go_wp2_with fail;refine wp_loop_rounds 1 ?_;rw[rounds_succ];go_wp2_with fail;go_ret;exact⟨dE HV.o.symm,rfl⟩
   by_cases m1b:192≤x1
   ·have d1:=c1 (by omega);have HV:=aa (q.trans (ai (by omega)));clear q;clear ga gb g2 g3 g4 c1 c2 c3;go_wp2_with fail;refine wp_loop_rounds 1 ?_;rw[rounds_succ];go_wp2_with fail;go_ret;exact⟨dE HV.o.symm,rfl⟩
   by_cases v0:(((x0:Int)-192)*64+(x1:Int)-128)<128
   ·have d1:=c1 (by omega);have HV:=aa (q.trans (ai (by omega)));clear q;clear ga gb g2 g3 g4 c1 c2 c3;go_wp2_with fail;refine wp_loop_rounds 2 ?_;rw[rounds_succ];go_wp2_with fail;rw[rounds_succ];go_wp2_with fail;go_ret;exact⟨dE HV.o.symm,rfl⟩
   have d1:=c1 (by omega);have HV:=aa (q.trans (aw (by omega)));clear q;clear ga gb g2 g3 g4 c1 c2 c3;go_wp2_with fail;refine wp_loop_rounds 2 ?_;rw[rounds_succ];go_wp2_with fail;rw[rounds_succ];go_wp2_with fail;obtain⟨g',rfl⟩:∃g,gk=g+1:=⟨gk-1,by omega⟩;go_roundg g';exact⟨rfl,j+2,by omega,by omega,by go_num,HV.o⟩;omega
  by_cases k6:x0<240
  ·have q:=g3 (by omega) (by omega);by_cases n0:b.length<j+3
   ·have HV:=aa (q.trans (ai (by omega)));clear q;clear ga gb g2 g3 g4 c1 c2 c3;go_wp2_with fail;go_ret;exact⟨dE HV.o.symm,rfl⟩
   by_cases m1a:x1<128
   ·have d1:=c1 (by omega);have HV:=aa (q.trans (ai (by omega)));clear q;clear ga gb g2 g3 g4 c1 c2 c3;go_wp2_with fail;refine wp_loop_rounds 1 ?_;rw[rounds_succ];go_wp2_with fail;go_ret;exact⟨dE HV.o.symm,rfl⟩
   by_cases m1b:192≤x1
   ·have d1:=c1 (by omega);have HV:=aa (q.trans (ai (by omega)));clear q;clear ga gb g2 g3 g4 c1 c2 c3;go_wp2_with fail;refine wp_loop_rounds 1 ?_;rw[rounds_succ];go_wp2_with fail;go_ret;exact⟨dE HV.o.symm,rfl⟩
   by_cases m2a:x2<128
   ·have d1:=c1 (by omega);have d2:=c2 (by omega);have HV:=aa (q.trans (ai (by omega)));clear q;clear ga gb g2 g3 g4 c1 c2 c3;go_wp2_with fail;refine wp_loop_rounds 2 ?_;rw[rounds_succ];go_wp2_with fail;rw[rounds_succ];go_wp2_with fail;go_ret;exact⟨dE HV.o.symm,rfl⟩
   by_cases m2b:192≤x2
   ·have d1:=c1 (by omega);have d2:=c2 (by omega);have HV:=aa (q.trans (ai (by omega)));clear q;clear ga gb g2 g3 g4 c1 c2 c3;go_wp2_with fail;refine wp_loop_rounds 2 ?_;rw[rounds_succ];go_wp2_with fail;rw[rounds_succ];go_wp2_with fail;go_ret;exact⟨dE HV.o.symm,rfl⟩
   by_cases v0:((((x0:Int)-224)*64+(x1:Int)-128)*64+(x2:Int)-128)<2048
   ·have d1:=c1 (by omega);have d2:=c2 (by omega);have HV:=aa (q.trans (ai (by omega)));clear q;clear ga gb g2 g3 g4 c1 c2 c3;go_wp2_with fail;refine wp_loop_rounds 3 ?_;rw[rounds_succ];go_wp2_with fail;rw[rounds_succ];go_wp2_with fail;rw[rounds_succ];go_wp2_with fail;go_ret;exact⟨dE HV.o.symm,rfl⟩
   by_cases v2:55296≤((((x0:Int)-224)*64+(x1:Int)-128)*64+(x2:Int)-128)
   ·by_cases v3:((((x0:Int)-224)*64+(x1:Int)-128)*64+(x2:Int)-128)≤57343
    ·have d1:=c1 (by omega);have d2:=c2 (by omega);have HV:=aa (q.trans (ai (by omega)));clear q;clear ga gb g2 g3 g4 c1 c2 c3;go_wp2_with fail;refine wp_loop_rounds 3 ?_;rw[rounds_succ];go_wp2_with fail;rw[rounds_succ];go_wp2_with fail;rw[rounds_succ];go_wp2_with fail;go_ret;exact⟨dE HV.o.symm,rfl⟩
    have d1:=c1 (by omega);have d2:=c2 (by omega);have HV:=aa (q.trans (aw (by omega)));clear q;clear ga gb g2 g3 g4 c1 c2 c3;go_wp2_with fail;refine wp_loop_rounds 3 ?_;rw[rounds_succ];go_wp2_with fail;rw[rounds_succ];go_wp2_with fail;rw[rounds_succ];go_wp2_with fail;obtain⟨g',rfl⟩:∃g,gk=g+1:=⟨gk-1,by omega⟩;go_roundg g';exact⟨rfl,j+3,by omega,by omega,by go_num,HV.o⟩;omega
   have d1:=c1 (by omega);have d2:=c2 (by omega);have HV:=aa (q.trans (aw (by omega)));clear q;clear ga gb g2 g3 g4 c1 c2 c3;go_wp2_with fail;refine wp_loop_rounds 3 ?_;rw[rounds_succ];go_wp2_with fail;rw[rounds_succ];go_wp2_with fail;rw[rounds_succ];go_wp2_with fail;obtain⟨g',rfl⟩:∃g,gk=g+1:=⟨gk-1,by omega⟩;go_roundg g';exact⟨rfl,j+3,by omega,by omega,by go_num,HV.o⟩;omega
  have q:=g4 (by omega) (by omega);by_cases n0:b.length<j+4
  ·have HV:=aa (q.trans (ai (by omega)));clear q;clear ga gb g2 g3 g4 c1 c2 c3;go_wp2_with fail;go_ret;exact⟨dE HV.o.symm,rfl⟩
  by_cases m1a:x1<128
  ·have d1:=c1 (by omega);have HV:=aa (q.trans (ai (by omega)));clear q;clear ga gb g2 g3 g4 c1 c2 c3;go_wp2_with fail;refine wp_loop_rounds 1 ?_;rw[rounds_succ];go_wp2_with fail;go_ret;exact⟨dE HV.o.symm,rfl⟩
  by_cases m1b:192≤x1
  ·have d1:=c1 (by omega);have HV:=aa (q.trans (ai (by omega)));clear q;clear ga gb g2 g3 g4 c1 c2 c3;go_wp2_with fail;refine wp_loop_rounds 1 ?_;rw[rounds_succ];go_wp2_with fail;go_ret;exact⟨dE HV.o.symm,rfl⟩
  by_cases m2a:x2<128
  ·have d1:=c1 (by omega);have d2:=c2 (by omega);have HV:=aa (q.trans (ai (by omega)));clear q;clear ga gb g2 g3 g4 c1 c2 c3;go_wp2_with fail;refine wp_loop_rounds 2 ?_;rw[rounds_succ];go_wp2_with fail;rw[rounds_succ];go_wp2_with fail;go_ret;exact⟨dE HV.o.symm,rfl⟩
  by_cases m2b:192≤x2
  ·have d1:=c1 (by omega);have d2:=c2 (by omega);have HV:=aa (q.trans (ai (by omega)));clear q;clear ga gb g2 g3 g4 c1 c2 c3;go_wp2_with fail;refine wp_loop_rounds 2 ?_;rw[rounds_succ];go_wp2_with fail;rw[rounds_succ];go_wp2_with fail;go_ret;exact⟨dE HV.o.symm,rfl⟩
  by_cases m3a:x3<128
  ·have d1:=c1 (by omega);have d2:=c2 (by omega);have d3:=c3 (by omega);have HV:=aa (q.trans (ai (by omega)));clear q;clear ga gb g2 g3 g4 c1 c2 c3;go_wp2_with fail;refine wp_loop_rounds 3 ?_;rw[rounds_succ];go_wp2_with fail;rw[rounds_succ];go_wp2_with fail;rw[rounds_succ];go_wp2_with fail;go_ret;exact⟨dE HV.o.symm,rfl⟩
  by_cases m3b:192≤x3
  ·have d1:=c1 (by omega);have d2:=c2 (by omega);have d3:=c3 (by omega);have HV:=aa (q.trans (ai (by omega)));clear q;clear ga gb g2 g3 g4 c1 c2 c3;go_wp2_with fail;refine wp_loop_rounds 3 ?_;rw[rounds_succ];go_wp2_with fail;rw[rounds_succ];go_wp2_with fail;rw[rounds_succ];go_wp2_with fail;go_ret;exact⟨dE HV.o.symm,rfl⟩
  by_cases v0:(((((x0:Int)-240)*64+(x1:Int)-128)*64+(x2:Int)-128)*64+(x3:Int)-128)<65536
  ·have d1:=c1 (by omega);have d2:=c2 (by omega);have d3:=c3 (by omega);have HV:=aa (q.trans (ai (by omega)));clear q;clear ga gb g2 g3 g4 c1 c2 c3;go_wp2_with fail;refine wp_loop_rounds 4 ?_;rw[rounds_succ];go_wp2_with fail;rw[rounds_succ];go_wp2_with fail;rw[rounds_succ];go_wp2_with fail;rw[rounds_succ];go_wp2_with fail;go_ret;exact⟨dE HV.o.symm,rfl⟩
  by_cases v1:1114111<(((((x0:Int)-240)*64+(x1:Int)-128)*64+(x2:Int)-128)*64+(x3:Int)-128)
  ·have d1:=c1 (by omega);have d2:=c2 (by omega);have d3:=c3 (by omega);have HV:=aa (q.trans (ai (by omega)));clear q;clear ga gb g2 g3 g4 c1 c2 c3;go_wp2_with fail;refine wp_loop_rounds 4 ?_;rw[rounds_succ];go_wp2_with fail;rw[rounds_succ];go_wp2_with fail;rw[rounds_succ];go_wp2_with fail;rw[rounds_succ];go_wp2_with fail;go_ret;exact⟨dE HV.o.symm,rfl⟩
  have d1:=c1 (by omega);have d2:=c2 (by omega);have d3:=c3 (by omega);have HV:=aa (q.trans (aw (by omega)));clear q;clear ga gb g2 g3 g4 c1 c2 c3;go_wp2_with fail;refine wp_loop_rounds 4 ?_;rw[rounds_succ];go_wp2_with fail;rw[rounds_succ];go_wp2_with fail;rw[rounds_succ];go_wp2_with fail;rw[rounds_succ];go_wp2_with fail;obtain⟨g',rfl⟩:∃g,gk=g+1:=⟨gk-1,by omega⟩;go_roundg g';exact⟨rfl,j+4,by omega,by omega,by go_num,HV.o⟩;omega
 obtain rfl:j=b.length:=by omega
 have HV:=aa hv;clear hv hg hlt;go_wp2_with fail;go_ret;exact⟨dE (by rw[HV.o,List.drop_length];rfl),rfl⟩
end
end Go.Proofs.YtndjopkdbdcmdaaGreatDoor
