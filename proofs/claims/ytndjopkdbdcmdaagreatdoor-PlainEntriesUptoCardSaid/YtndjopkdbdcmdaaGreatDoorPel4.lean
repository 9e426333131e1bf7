/- Part 4 of the proof of pentries_card. -/
import Derived.Test.YtndjopkdbdcmdaaGreatDoorPel1
import Derived.Lib.ValidAsc
import Derived.Shelf.Unicode.ValidAny
set_option linter.unusedVariables false
set_option linter.unusedSimpArgs false
set_option maxRecDepth 100000
set_option maxHeartbeats 12800000
open Go.Proofs.Tryz
namespace Go.Proofs.YtndjopkdbdcmdaaGreatDoor
section
open Go.RowKit Go.Shelf
theorem ba.oV{w:World}{bk o:Nat}{t:ByteArray}(h:ba w (some ⟨bk,o,none⟩) t.data.toList)(i:Nat)(hi:i<t.size):w.cell? ⟨bk,o+i,none⟩=some (.int .u8 ((t.get! i).toNat:Int)):=by
 have hi':i<t.data.toList.length:=by rw[← Lib.size_eq];exact hi
 obtain⟨wK,o',e,_,hc⟩:=h.at_ i hi';injection e with e;injection e with e1 e2;subst e1 e2;rw[hc];congr 3;rw[← Lib.getD_get!',jN,bN hi'];rfl
theorem ba.skip{w:World}{bk o:Nat}{t:ByteArray}(h:ba w (some ⟨bk,o,none⟩) t.data.toList)(k:Nat):ba w (some ⟨bk,o+k,none⟩) (t.extract k t.size).data.toList:=by
 refine⟨by simp[bw],fun h0=>⟨bk,o+k,rfl,?_⟩⟩;intro i v hv;rw[Lib.ext_list,abh,wC] at hv;have h1:0<t.data.toList.length:=by
  cases hl:t.data.toList with
  | nil=>rw[Lib.ext_list,hl] at h0;simp at h0
  | cons x xs=>simp
 obtain⟨wK,o',e,hc⟩:=h.2 h1;injection e with e;injection e with e1 e2;subst e1 e2;have:=hc (k+i) v hv;rwa [← lh] at this
theorem ba.empty{w:World}{A:Option Addr}{b:List UInt8}(h:b.length=0):ba w A b:=⟨by simp[bw],fun h0=>by omega⟩
theorem ba.drewN{w:World}{A:Option Addr}{b:List UInt8}(h:ba w A b)(q:Nat):ba (w.drewN q) A b:=h.grow ((ah w).drewN q)
theorem BR(t:ByteArray)(bk o n cap:Nat)(w:World)(h:ba w (some ⟨bk,o,none⟩) t.data.toList)(hn:n=t.size)(h8:8≤t.size)(q:Nat) :
 Calls prog 129 #[.slice (some ⟨bk,o,none⟩) n cap] (w.drewN q) fun e w'=>e=.returned (.int .u64 (Lib.leNat [t.get! 0,t.get! 1,t.get! 2,t.get! 3,t.get! 4,t.get! 5,t.get! 6,t.get! 7]))∧∃m,w'=(w.drewN q).drewN m:=
 abn _ _ _ _ _ _ _ _ bk o n cap _ (by omega) ((h.drewN q).oV 0 (by omega)) ((h.drewN q).oV 1 (by omega)) ((h.drewN q).oV 2 (by omega)) ((h.drewN q).oV 3 (by omega))
  ((h.drewN q).oV 4 (by omega)) ((h.drewN q).oV 5 (by omega)) ((h.drewN q).oV 6 (by omega)) ((h.drewN q).oV 7 (by omega))
theorem Mo(b:List UInt8)(A:Option Addr)(cap:Nat)(w:World)(hb:ba w A b)(hl:b.length≤140737488355328)(hc:b.length≤cap)
 (hT:Lib.Utf8Tabs 0 1 w) :
 Calls prog 88 #[.slice A b.length cap] w fun e w'=>e=.returned (.bool (Lib.validD b))∧Grow w w':=by
 have HB:=aa hb;have HT:=aa hT;clear hb hT;obtain⟨iD,eH⟩:∃A,Lib.validD b=A:=⟨_,rfl⟩;rw[eH];have HA:=aa eH;clear eH;go_enter func88,ntmps88;go_wp2;go_loopg [0] (b.length+1) (fun gk s0 wx=>Grow w wx∧∃(t:ByteArray) (B:Option Addr),s0=.slice B t.size t.size∧ba wx B t.data.toList∧Lib.validD t.data.toList=iD∧t.size<gk∧t.size≤140737488355328);exact⟨ah _,⟨b.toArray⟩,A,by simp[ByteArray.size],HB.o,HA.o,by simp[ByteArray.size],by simpa [ByteArray.size] using hl⟩;obtain⟨hg,t,B,rfl,hb,hv,iB,hts⟩:=hrel;have HG:=aa hg;have aQ:=aa hb;have HV:=aa hv;clear hg hb hv HA HB;by_cases h0:0<t.size
 ·obtain⟨g',rfl⟩:∃g',gk=g'+1:=⟨gk-1,by omega⟩;obtain⟨x0,hx0⟩:∃x0,t.get! 0=x0:=⟨_,rfl⟩;obtain⟨bk,o,rfl,hbk,hc0⟩:=aQ.o.at_ 0 (by rw[← Lib.size_eq];exact h0);clear hc0;have hs0:wr.cell? ⟨bk,o,none⟩=some (.int .u8 (x0.toNat:Int)):=by rw[← hx0];exact aQ.o.oV 0 h0
  have ajp:x0.toNat<256:=x0.toNat_lt;by_cases ajq:x0.toNat<128
  ·as_aux_lemma =>
    have a1:Lib.Asc t 1:=Lib.asc_one t h0 (by rw[hx0];exact ajq);obtain⟨t1,ht1⟩:∃t1,t.extract 1 t.size=t1:=⟨_,rfl⟩;have z1:t1.size=t.size-1:=by rw[← ht1,Lib.ext_size]
    have V1:=aa (show Lib.validD t1.data.toList=iD by rw[← ht1,Lib.valid_skip t 1 a1];exact HV.o);have B1:=aa (show ba wr (some ⟨bk,o+1,none⟩) t1.data.toList by rw[← ht1];exact aQ.o.skip 1);clear a1 hx0;by_cases h1:t.size=1
    ·go_wp2_with fail;go_roundg g';exact⟨HG.o,t1,some ⟨bk,o,none⟩,by rw[z1,h1],ba.empty (by rw[← Lib.size_eq];omega),V1.o,by omega,by omega⟩;omega
    by_cases c8:8<t.size-1
    ·have c8z:(8:Int)<((t.size-1:Nat):Int):=by omega
     obtain⟨A1,Sn⟩:∃A,Lib.leNat [t1.get! 0,t1.get! 1,t1.get! 2,t1.get! 3,t1.get! 4,t1.get! 5,t1.get! 6,t1.get! 7]=A:=⟨_,rfl⟩;have lA1:A1<18446744073709551616:=Sn ▸ Lib.word_lt t1;have cA1:∀q,Calls prog 129 #[.slice (some ⟨bk,o+1,none⟩) (t.size-1) (t.size-1)] (wr.drewN q) fun e w'=>e=.returned (.int .u64 (A1:Int))∧∃m,w'=(wr.drewN q).drewN m:=fun q=>by rw[← Sn];exact BR t1 bk _ _ _ wr B1.o (by omega) (by omega) q
     have Mp:=Lib.word_asc t1 (by omega);rw[Sn] at Mp;have ajr:bits .and .u64 (A1:Int) 9259542123273814144=((A1 &&& 9259542123273814144:Nat):Int):=u64_and_nat A1 9259542123273814144 lA1 (by omega);obtain⟨Z1,hZ1⟩:∃Z1,A1 &&& 9259542123273814144=Z1:=⟨_,rfl⟩;rw[hZ1] at ajr Mp;have cB:=aa cA1;clear cA1;by_cases hz1:Z1=0
     ·have ajs:((Z1:Int)==0)=true:=by simp[hz1]
      have a8:Lib.Asc t1 8:=Mp.1 hz1;obtain⟨t2,ht2⟩:∃t2,t1.extract 8 t1.size=t2:=⟨_,rfl⟩;have z2:t2.size=t.size-1-8:=by rw[← ht2,Lib.ext_size,z1]
      have V2:=aa (show Lib.validD t2.data.toList=iD by rw[← ht2,Lib.valid_skip t1 8 a8];exact V1.o);have B2:=aa (show ba wr (some ⟨bk,o+1+8,none⟩) t2.data.toList by rw[← ht2];exact B1.o.skip 8);clear Mp a8 V1;by_cases c16:16<t.size-1-8
      ·have Sq:(16:Int)<((t.size-1-8:Nat):Int):=by omega
       go_wp2_with (go_at_call 129;refine(cB.o 0).mono ?_;rintro e w' ⟨rfl,q1,rfl⟩);have aN:=aa ((HG.o.drewN 0).drewN q1);clear cB HG;have Mq:=aa (show Grow w (wr.drewN q1) from aN.o);have Bq:=aa (show ba (wr.drewN q1) (some ⟨bk,o+1+8,none⟩) t2.data.toList from (B2.o.drewN 0).drewN q1);clear aN hc B1 aQ HV hs0 B2;generalize wr.drewN q1=wq at Mq Bq ⊢;have ajt:decide ((16:Int)<((t.size-1-8:Nat):Int))=true:=bT Sq;obtain⟨oW,Sr⟩:∃oW,t2.extract 8 t2.size=oW:=⟨_,rfl⟩;have z2b:oW.size=t.size-1-8-8:=by rw[← Sr,Lib.ext_size,z2]
       have Bqb:=aa (show ba wq (some ⟨bk,o+1+8+8,none⟩) oW.data.toList by rw[← Sr];exact Bq.o.skip 8);obtain⟨A2,Ss⟩:∃A,Lib.leNat [t2.get! 0,t2.get! 1,t2.get! 2,t2.get! 3,t2.get! 4,t2.get! 5,t2.get! 6,t2.get! 7]=A:=⟨_,rfl⟩;have lA2:A2<18446744073709551616:=Ss ▸ Lib.word_lt t2;have cA2:∀q,Calls prog 129 #[.slice (some ⟨bk,o+1+8,none⟩) (t.size-1-8) (t.size-1-8)] (wq.drewN q) fun e w'=>e=.returned (.int .u64 (A2:Int))∧∃m,w'=(wq.drewN q).drewN m:=fun q=>by rw[← Ss];exact BR t2 bk _ _ _ wq Bq.o (by omega) (by omega) q
       have Su:=Lib.word_asc t2 (by omega);rw[Ss] at Su;obtain⟨A3,Sv⟩:∃A,Lib.leNat [oW.get! 0,oW.get! 1,oW.get! 2,oW.get! 3,oW.get! 4,oW.get! 5,oW.get! 6,oW.get! 7]=A:=⟨_,rfl⟩;have lA3:A3<18446744073709551616:=Sv ▸ Lib.word_lt oW;have cA3:∀q,Calls prog 129 #[.slice (some ⟨bk,o+1+8+8,none⟩) (t.size-1-8-8) (t.size-1-8-8)] (wq.drewN q) fun e w'=>e=.returned (.int .u64 (A3:Int))∧∃m,w'=(wq.drewN q).drewN m:=fun q=>by rw[← Sv];exact BR oW bk _ _ _ wq Bqb.o (by omega) (by omega) q
       have Sw:=Lib.word_asc oW (by omega);rw[Sv] at Sw;have aju:bits .or .u64 (A2:Int) (A3:Int)=((A2 ||| A3:Nat):Int):=u64_or_nat A2 A3 lA2 lA3;have aaz:A2 ||| A3<18446744073709551616:=Jo (n:=64) lA2 lA3;have aaA:bits .and .u64 ((A2 ||| A3:Nat):Int) 9259542123273814144=(((A2 ||| A3) &&& 9259542123273814144:Nat):Int):=u64_and_nat _ 9259542123273814144 aaz (by omega);have k2:(A2 ||| A3) &&& 9259542123273814144=0→Lib.Asc t2 16:=fun h0'=>by
        obtain⟨e1,e2⟩:=(Lib.or_mask A2 A3 _).1 h0';exact Lib.asc_add t2 8 8 (Su.1 e1) (by rw[Sr];exact Sw.1 e2)
       obtain⟨O2,hO2⟩:∃O2,A2 ||| A3=O2:=⟨_,rfl⟩;rw[hO2] at aju aaA k2;obtain⟨Z2,hZ2⟩:∃Z2,O2 &&& 9259542123273814144=Z2:=⟨_,rfl⟩;rw[hZ2] at aaA k2;have K2:=aa cA2;have K3:=aa cA3;clear Su Sw aaz hO2 hZ2 cA2 cA3;by_cases hz2:Z2=0
       ·have ajv:((Z2:Int)==0)=true:=by simp[hz2]
        have a16:=k2 hz2;obtain⟨t3,Sy⟩:∃t3,t2.extract 16 t2.size=t3:=⟨_,rfl⟩;have z3:t3.size=t.size-1-8-16:=by rw[← Sy,Lib.ext_size,z2]
        have V3:=aa (show Lib.validD t3.data.toList=iD by rw[← Sy,Lib.valid_skip t2 16 a16];exact V2.o);have B3:=aa (show ba wq (some ⟨bk,o+1+8+16,none⟩) t3.data.toList by rw[← Sy];exact Bq.o.skip 16);clear k2 a16 V2;have s8z:(8:Int)≤((t.size-1-8:Nat):Int):=by omega
        have s8n:¬ (t.size-1-8=8):=by omega
        have s8m:8≤t.size-1-8:=by omega
        go_big_quiet (first | (go_at_call 129;with_reducible refine Calls.quiet_of (K2.o _)) | (go_at_call 129;with_reducible refine Calls.quiet_of (K3.o _)));have HG2:=aa (Mq.o.drewN nq);have B3q:=aa (B3.o.drewN nq);clear K2 K3 Mq B3 Bq Bqb;generalize wq.drewN nq=wq2 at HG2 B3q ⊢;go_wp2_with fail;go_loopg [0] (t3.size+1) (fun g2 s0 wx=>Grow w wx∧∃(u:ByteArray) (B:Option Addr),s0=.slice B u.size u.size∧ba wx B u.data.toList∧Lib.validD u.data.toList=iD∧u.size<g2∧u.size≤t3.size);exact⟨HG2.o,t3,_,by rw[z3],B3q.o,V3.o,by omega,av _⟩;obtain⟨hgu,u,B,rfl,mA,vu,hlu,xy⟩:=hrel;have HU:=aa hgu;have BU:=aa mA;have VU:=aa vu;clear hgu mA vu;by_cases c32:32<u.size
        ·obtain⟨g3,rfl⟩:∃g3,gk=g3+1:=⟨gk-1,by omega⟩;have Sz:(32:Int)<(u.size:Int):=by omega
         have ajw:decide ((32:Int)<(u.size:Int))=true:=bT Sz;obtain⟨bu,ou,rfl,mA,Az⟩:=BU.o.at_ 0 (by rw[← Lib.size_eq];omega);clear Az;obtain⟨ub,SA⟩:∃ub,u.extract 8 u.size=ub:=⟨_,rfl⟩;have zub:ub.size=u.size-8:=by rw[← SA,Lib.ext_size]
         have Bub:=aa (show ba wr (some ⟨bu,ou+8,none⟩) ub.data.toList by rw[← SA];exact BU.o.skip 8);obtain⟨uc,Gm⟩:∃uc,u.extract 16 u.size=uc:=⟨_,rfl⟩;have zuc:uc.size=u.size-16:=by rw[← Gm,Lib.ext_size]
         have Buc:=aa (show ba wr (some ⟨bu,ou+16,none⟩) uc.data.toList by rw[← Gm];exact BU.o.skip 16);obtain⟨ud,SB⟩:∃ud,u.extract 24 u.size=ud:=⟨_,rfl⟩;have zud:ud.size=u.size-24:=by rw[← SB,Lib.ext_size]
         have Bud:=aa (show ba wr (some ⟨bu,ou+24,none⟩) ud.data.toList by rw[← SB];exact BU.o.skip 24);obtain⟨E0,SC⟩:∃A,Lib.leNat [u.get! 0,u.get! 1,u.get! 2,u.get! 3,u.get! 4,u.get! 5,u.get! 6,u.get! 7]=A:=⟨_,rfl⟩;have lE0:E0<18446744073709551616:=SC ▸ Lib.word_lt u;have cE0:∀q,Calls prog 129 #[.slice (some ⟨bu,ou,none⟩) (u.size) (u.size)] (wr.drewN q) fun e w'=>e=.returned (.int .u64 (E0:Int))∧∃m,w'=(wr.drewN q).drewN m:=fun q=>by rw[← SC];exact BR u bu _ _ _ wr BU.o (by omega) (by omega) q
         have SD:=Lib.word_asc u (by omega);rw[SC] at SD;obtain⟨E1,SE⟩:∃A,Lib.leNat [ub.get! 0,ub.get! 1,ub.get! 2,ub.get! 3,ub.get! 4,ub.get! 5,ub.get! 6,ub.get! 7]=A:=⟨_,rfl⟩;have lE1:E1<18446744073709551616:=SE ▸ Lib.word_lt ub;have cE1:∀q,Calls prog 129 #[.slice (some ⟨bu,ou+8,none⟩) (u.size-8) (u.size-8)] (wr.drewN q) fun e w'=>e=.returned (.int .u64 (E1:Int))∧∃m,w'=(wr.drewN q).drewN m:=fun q=>by rw[← SE];exact BR ub bu _ _ _ wr Bub.o (by omega) (by omega) q
         have SH:=Lib.word_asc ub (by omega);rw[SE] at SH;obtain⟨E2,SI⟩:∃A,Lib.leNat [uc.get! 0,uc.get! 1,uc.get! 2,uc.get! 3,uc.get! 4,uc.get! 5,uc.get! 6,uc.get! 7]=A:=⟨_,rfl⟩;have lE2:E2<18446744073709551616:=SI ▸ Lib.word_lt uc;have cE2:∀q,Calls prog 129 #[.slice (some ⟨bu,ou+16,none⟩) (u.size-16) (u.size-16)] (wr.drewN q) fun e w'=>e=.returned (.int .u64 (E2:Int))∧∃m,w'=(wr.drewN q).drewN m:=fun q=>by rw[← SI];exact BR uc bu _ _ _ wr Buc.o (by omega) (by omega) q
         have SJ:=Lib.word_asc uc (by omega);rw[SI] at SJ;obtain⟨E3,SK⟩:∃A,Lib.leNat [ud.get! 0,ud.get! 1,ud.get! 2,ud.get! 3,ud.get! 4,ud.get! 5,ud.get! 6,ud.get! 7]=A:=⟨_,rfl⟩;have lE3:E3<18446744073709551616:=SK ▸ Lib.word_lt ud;have cE3:∀q,Calls prog 129 #[.slice (some ⟨bu,ou+24,none⟩) (u.size-24) (u.size-24)] (wr.drewN q) fun e w'=>e=.returned (.int .u64 (E3:Int))∧∃m,w'=(wr.drewN q).drewN m:=fun q=>by rw[← SK];exact BR ud bu _ _ _ wr Bud.o (by omega) (by omega) q
         have SM:=Lib.word_asc ud (by omega);rw[SK] at SM;have Mr:bits .or .u64 (E0:Int) (E1:Int)=((E0 ||| E1:Nat):Int):=u64_or_nat E0 E1 lE0 lE1;have vN:bits .or .u64 (E2:Int) (E3:Int)=((E2 ||| E3:Nat):Int):=u64_or_nat E2 E3 lE2 lE3;have SN:E0 ||| E1<18446744073709551616:=Jo (n:=64) lE0 lE1;have SP:E2 ||| E3<18446744073709551616:=Jo (n:=64) lE2 lE3;have ho3:bits .or .u64 ((E0 ||| E1:Nat):Int) ((E2 ||| E3:Nat):Int)=(((E0 ||| E1) ||| (E2 ||| E3):Nat):Int):=u64_or_nat _ _ SN SP;have lo3:(E0 ||| E1) ||| (E2 ||| E3)<18446744073709551616:=Jo (n:=64) SN SP
         have SQ:bits .and .u64 (((E0 ||| E1) ||| (E2 ||| E3):Nat):Int) 9259542123273814144=((((E0 ||| E1) ||| (E2 ||| E3)) &&& 9259542123273814144:Nat):Int):=u64_and_nat _ 9259542123273814144 lo3 (by omega);have k3:((E0 ||| E1) ||| (E2 ||| E3)) &&& 9259542123273814144=0→Lib.Asc u 32:=fun h0'=>by
          obtain⟨e01,e23⟩:=(Lib.or_mask _ _ _).1 h0';obtain⟨e0,e1⟩:=(Lib.or_mask _ _ _).1 e01;obtain⟨e2,e3⟩:=(Lib.or_mask _ _ _).1 e23;have s16:Lib.Asc u 16:=Lib.asc_add u 8 8 (SD.1 e0) (by rw[SA];exact SH.1 e1);have s24:Lib.Asc u 24:=Lib.asc_add u 16 8 s16 (by rw[Gm];exact SJ.1 e2);exact Lib.asc_add u 24 8 s24 (by rw[SB];exact SM.1 e3)
         obtain⟨P1,SR⟩:∃P1,E0 ||| E1=P1:=⟨_,rfl⟩;obtain⟨P2,SS⟩:∃P2,E2 ||| E3=P2:=⟨_,rfl⟩;rw[SR,SS] at ho3 SQ k3;rw[SR] at Mr;rw[SS] at vN;obtain⟨P3,hP3⟩:∃P3,P1 ||| P2=P3:=⟨_,rfl⟩;rw[hP3] at ho3 SQ k3;obtain⟨Z3,hZ3⟩:∃Z3,P3 &&& 9259542123273814144=Z3:=⟨_,rfl⟩;rw[hZ3] at SQ k3;have D0:=aa cE0;have D1:=aa cE1;have D2:=aa cE2;have D3:=aa cE3;have s8z:(8:Int)≤(u.size:Int):=by omega
         have s8n:¬ (u.size=8):=by omega
         have s8m:8≤u.size:=by omega
         have amy:(16:Int)≤(u.size:Int):=by omega
         have amz:¬ (u.size=16):=by omega
         have amA:16≤u.size:=by omega
         have amB:(24:Int)≤(u.size:Int):=by omega
         have amC:¬ (u.size=24):=by omega
         have amD:24≤u.size:=by omega
         clear SD SH SJ SM SN SP lo3 SR SS hP3 hZ3 cE0 cE1 cE2 cE3;by_cases hz3:Z3=0
         ·have ajx:((Z3:Int)==0)=true:=by simp[hz3]
          have a32:=k3 hz3;obtain⟨u2,hu2⟩:∃u2,u.extract 32 u.size=u2:=⟨_,rfl⟩;have zu2:u2.size=u.size-32:=by rw[← hu2,Lib.ext_size]
          have vu2:=aa (show Lib.validD u2.data.toList=iD by rw[← hu2,Lib.valid_skip u 32 a32];exact VU.o);have Bu2:=aa (show ba wr (some ⟨bu,ou+32,none⟩) u2.data.toList by rw[← hu2];exact BU.o.skip 32);clear k3 a32;go_wp2_with fail;go_big_quiet (first | (go_at_call 129;with_reducible refine Calls.quiet_of (D0.o _)) | (go_at_call 129;with_reducible refine Calls.quiet_of (D1.o _)) | (go_at_call 129;with_reducible refine Calls.quiet_of (D2.o _)) | (go_at_call 129;with_reducible refine Calls.quiet_of (D3.o _)));go_wp2_with fail;go_roundg g3;exact⟨HU.o.drewN nq,u2,some ⟨bu,ou+32,none⟩,by rw[zu2],Bu2.o.drewN nq,vu2.o,by omega,by omega⟩;omega
         have ajx:((Z3:Int)==0)=false:=by simp;omega
         clear k3;go_wp2_with fail;go_big_quiet (first | (go_at_call 129;with_reducible refine Calls.quiet_of (D0.o _)) | (go_at_call 129;with_reducible refine Calls.quiet_of (D1.o _)) | (go_at_call 129;with_reducible refine Calls.quiet_of (D2.o _)) | (go_at_call 129;with_reducible refine Calls.quiet_of (D3.o _)));go_wp2_with fail;go_roundg g';exact⟨HU.o.drewN nq,u,some ⟨bu,ou,none⟩,rfl,BU.o.drewN nq,VU.o,by omega,by omega⟩;omega
        have Sz:¬ ((32:Int)<(u.size:Int)):=by omega
        have ajw:decide ((32:Int)<(u.size:Int))=false:=bY Sz;go_wp2_with fail;go_big_quiet (fail);go_wp2_with fail;go_roundg g';exact⟨HU.o.drewN nq,u,B,rfl,BU.o.drewN nq,VU.o,by omega,by omega⟩;omega
       have ajv:((Z2:Int)==0)=false:=by simp;omega
       have s8z:(8:Int)≤((t.size-1-8:Nat):Int):=by omega
       have s8n:¬ (t.size-1-8=8):=by omega
       have s8m:8≤t.size-1-8:=by omega
       go_big_quiet (first | (go_at_call 129;with_reducible refine Calls.quiet_of (K2.o _)) | (go_at_call 129;with_reducible refine Calls.quiet_of (K3.o _)));go_wp2_with fail;go_roundg g';exact⟨Mq.o.drewN nq,t2,some ⟨bk,o+1+8,none⟩,by rw[z2],Bq.o.drewN nq,V2.o,by omega,by omega⟩;omega
      have Sq:¬ ((16:Int)<((t.size-1-8:Nat):Int)):=by omega
      have ajt:decide ((16:Int)<((t.size-1-8:Nat):Int))=false:=bY Sq;go_wp2_with (go_at_call 129;refine(cB.o 0).mono ?_;rintro e w' ⟨rfl,q1,rfl⟩);have aN:=aa ((HG.o.drewN 0).drewN q1);clear cB HG;go_big_quiet (fail);go_wp2_with fail;go_roundg g';exact⟨aN.o.drewN nq,t2,some ⟨bk,o+1+8,none⟩,by rw[z2],((B2.o.drewN 0).drewN q1).drewN nq,V2.o,by omega,by omega⟩;omega
     have ajs:((Z1:Int)==0)=false:=by simp;omega
     go_wp2_with (go_at_call 129;refine(cB.o 0).mono ?_;rintro e w' ⟨rfl,q1,rfl⟩);have aN:=aa ((HG.o.drewN 0).drewN q1);clear cB HG;go_roundg g';exact⟨aN.o,t1,some ⟨bk,o+1,none⟩,by rw[z1],(B1.o.drewN 0).drewN q1,V1.o,by omega,by omega⟩;omega
    have c8z:¬ ((8:Int)<((t.size-1:Nat):Int)):=by omega
    go_wp2_with fail;go_roundg g';exact⟨HG.o,t1,some ⟨bk,o+1,none⟩,by rw[z1],B1.o,V1.o,by omega,by omega⟩;omega
  have hge:128≤x0.toNat:=by omega
  obtain⟨x1,hx1⟩:∃x1,t.get! 1=x1:=⟨_,rfl⟩;obtain⟨x2,hx2⟩:∃x2,t.get! 2=x2:=⟨_,rfl⟩;obtain⟨x3,hx3⟩:∃x3,t.get! 3=x3:=⟨_,rfl⟩;have l1:=x1.toNat_lt;have l2:=x2.toNat_lt;have l3:=x3.toNat_lt;have hne:t.data.toList≠[]:=fun h=>by rw[Lib.size_eq,h] at h0;simp at h0
  have hlead:=Lib.validD_lead t.data.toList hne (by rw[Lib.getD_get!',hx0];exact hge);rw[Lib.getD_get!',Lib.getD_get!',Lib.getD_get!',Lib.getD_get!',hx0,hx1,hx2,hx3,← Lib.size_eq,HV.o] at hlead;have Ms:=Utf8Tabs_below HT.o HG.o;have hc0:=Ms.1 x0.toNat ajp;have aaB:Lib.firstT x0.toNat<256:=by rcases Lib.firstT_cases x0.toNat with h | h | h | h | h | h | h | h | h<;>omega
  obtain⟨X,hX⟩:∃X,Lib.firstT x0.toNat=X:=⟨_,rfl⟩;rw[hX] at hc0 aaB hlead;have h7:=and7 ⟨X,aaB⟩;simp only at h7;have ha0:wr.cell? ⟨1,X / 16*2,none⟩=some (.int .u8 (Lib.accLo (X / 16))):=by rw[nW];exact(Ms.2 (X / 16) (by omega)).1
  have ha1:wr.cell? ⟨1,X / 16*2+1,none⟩=some (.int .u8 (Lib.accHi (X / 16))):=by rw[nW];exact(Ms.2 (X / 16) (by omega)).2
  obtain⟨LO,hLO⟩:∃LO,Lib.accLo (X / 16)=LO:=⟨_,rfl⟩;obtain⟨HI,hHI⟩:∃HI,Lib.accHi (X / 16)=HI:=⟨_,rfl⟩;rw[hLO] at ha0 hlead;rw[hHI] at ha1 hlead;obtain⟨SZ,IJ⟩:∃SZ,X % 8=SZ:=⟨_,rfl⟩;rw[IJ] at hlead;have HL:=aa hlead;clear Ms hX hLO hHI hne HV HT hlead;by_cases s2:SZ=2
  ·as_aux_lemma =>
    subst s2;have aaC:(X:Int) % 8=2:=by omega
    have hl2:=HL.o;simp only[Lib.checkN,Nat.reduceEqDiff,iK,iJ] at hl2;have pH:=aa hl2;clear hl2 HL;go_upto_region 18 with fail;go_cut [103] from 85 to 103 (fun c wx=>c=.bool (decide (t.size<2∨x1.toNat<LO∨HI<x1.toNat))∧Grow wr wx)
    case first =>
     by_cases q0:t.size<2
     ·have IK:(t.size:Int)<2:=by omega
      go_big_quiet (fail);go_wp2_with fail;go_meet;exact⟨cT Value.bool (bT (p:=t.size<2∨x1.toNat<LO∨HI<x1.toNat) (by omega)).symm,((ah wr).alloc _).drewN _⟩
     have IK:¬ ((t.size:Int)<2):=by omega
     have hz1:(1:Int)<(t.size:Int):=by omega
     have hp1:1<t.size:=by omega
     have hs1:wr.cell? ⟨bk,o+1,none⟩=some (.int .u8 (x1.toNat:Int)):=by rw[← hx1];exact aQ.o.oV 1 (by omega)
     by_cases q1:x1.toNat<LO
     ·have IL:(x1.toNat:Int)<(LO:Int):=by omega
      go_big_quiet (fail);go_wp2_with fail;go_meet;exact⟨cT Value.bool (bT (p:=t.size<2∨x1.toNat<LO∨HI<x1.toNat) (by omega)).symm,((ah wr).alloc _).drewN _⟩
     have IL:¬ ((x1.toNat:Int)<(LO:Int)):=by omega
     by_cases q2:HI<x1.toNat
     ·have IM:(HI:Int)<(x1.toNat:Int):=by omega
      go_big_quiet (fail);go_wp2_with fail;go_meet;exact⟨cT Value.bool (bT (p:=t.size<2∨x1.toNat<LO∨HI<x1.toNat) (by omega)).symm,((ah wr).alloc _).drewN _⟩
     have IM:¬ ((HI:Int)<(x1.toNat:Int)):=by omega
     go_big_quiet (fail);go_wp2_with fail;go_meet;exact⟨cT Value.bool (bY (p:=t.size<2∨x1.toNat<LO∨HI<x1.toNat) (by omega)).symm,((ah wr).alloc _).drewN _⟩
    obtain⟨rfl,hbc⟩:=hcut;have aT:=aa hbc;clear hbc;have hl2:=pH.o;by_cases hb:t.size<2∨x1.toNat<LO∨HI<x1.toNat
    ·have IP:decide (t.size<2∨x1.toNat<LO∨HI<x1.toNat)=true:=bT hb;rw[ar hb] at hl2;go_wp2_with fail
     all_goals (go_ret;exact⟨by first | rfl | rw[hl2],HG.o.trans aT.o⟩)
    have IP:decide (t.size<2∨x1.toNat<LO∨HI<x1.toNat)=false:=bY hb;rw[ai hb] at hl2;have H2:=aa hl2;clear hl2 pH;by_cases ht:t.size=2
    ·go_wp2_with fail;go_roundg g';exact⟨HG.o.trans aT.o,t.extract 2 t.size,some ⟨bk,o,none⟩,by rw[Lib.ext_size,ht],ba.empty (by rw[← Lib.size_eq,Lib.ext_size];omega),by rw[Lib.ext_list,H2.o],by rw[Lib.ext_size];omega,by rw[Lib.ext_size];omega⟩;omega
    go_wp2_with fail;go_roundg g';exact⟨HG.o.trans aT.o,t.extract 2 t.size,some ⟨bk,o+2,none⟩,by rw[Lib.ext_size],(aQ.o.grow aT.o).skip 2,by rw[Lib.ext_list,H2.o],by rw[Lib.ext_size];omega,by rw[Lib.ext_size];omega⟩;omega
  by_cases s3:SZ=3
  ·as_aux_lemma =>
    subst s3;have aaC:(X:Int) % 8=3:=by omega
    have hl2:=HL.o;simp only[Lib.checkN,Nat.reduceEqDiff,iK,iJ] at hl2;have pH:=aa hl2;clear hl2 HL;go_upto_region 22 with fail;go_cut [138] from 108 to 138 (fun c wx=>c=.bool (decide (t.size<3∨x1.toNat<LO∨HI<x1.toNat∨x2.toNat<128∨191<x2.toNat))∧Grow wr wx)
    case first =>
     by_cases q0:t.size<3
     ·have IK:(t.size:Int)<3:=by omega
      go_big_quiet (fail);go_wp2_with fail;go_meet;exact⟨cT Value.bool (bT (p:=t.size<3∨x1.toNat<LO∨HI<x1.toNat∨x2.toNat<128∨191<x2.toNat) (by omega)).symm,((ah wr).alloc _).drewN _⟩
     have IK:¬ ((t.size:Int)<3):=by omega
     have hz1:(1:Int)<(t.size:Int):=by omega
     have hp1:1<t.size:=by omega
     have hs1:wr.cell? ⟨bk,o+1,none⟩=some (.int .u8 (x1.toNat:Int)):=by rw[← hx1];exact aQ.o.oV 1 (by omega)
     have hz2:(2:Int)<(t.size:Int):=by omega
     have hp2:2<t.size:=by omega
     have hs2:wr.cell? ⟨bk,o+2,none⟩=some (.int .u8 (x2.toNat:Int)):=by rw[← hx2];exact aQ.o.oV 2 (by omega)
     by_cases q1:x1.toNat<LO
     ·have IL:(x1.toNat:Int)<(LO:Int):=by omega
      go_big_quiet (fail);go_wp2_with fail;go_meet;exact⟨cT Value.bool (bT (p:=t.size<3∨x1.toNat<LO∨HI<x1.toNat∨x2.toNat<128∨191<x2.toNat) (by omega)).symm,((ah wr).alloc _).drewN _⟩
     have IL:¬ ((x1.toNat:Int)<(LO:Int)):=by omega
     by_cases q2:HI<x1.toNat
     ·have IM:(HI:Int)<(x1.toNat:Int):=by omega
      go_big_quiet (fail);go_wp2_with fail;go_meet;exact⟨cT Value.bool (bT (p:=t.size<3∨x1.toNat<LO∨HI<x1.toNat∨x2.toNat<128∨191<x2.toNat) (by omega)).symm,((ah wr).alloc _).drewN _⟩
     have IM:¬ ((HI:Int)<(x1.toNat:Int)):=by omega
     by_cases q3:x2.toNat<128
     ·have SU:(x2.toNat:Int)<128:=by omega
      go_big_quiet (fail);go_wp2_with fail;go_meet;exact⟨cT Value.bool (bT (p:=t.size<3∨x1.toNat<LO∨HI<x1.toNat∨x2.toNat<128∨191<x2.toNat) (by omega)).symm,((ah wr).alloc _).drewN _⟩
     have SU:¬ ((x2.toNat:Int)<128):=by omega
     by_cases q4:191<x2.toNat
     ·have SV:(191:Int)<(x2.toNat:Int):=by omega
      go_big_quiet (fail);go_wp2_with fail;go_meet;exact⟨cT Value.bool (bT (p:=t.size<3∨x1.toNat<LO∨HI<x1.toNat∨x2.toNat<128∨191<x2.toNat) (by omega)).symm,((ah wr).alloc _).drewN _⟩
     have SV:¬ ((191:Int)<(x2.toNat:Int)):=by omega
     go_big_quiet (fail);go_wp2_with fail;go_meet;exact⟨cT Value.bool (bY (p:=t.size<3∨x1.toNat<LO∨HI<x1.toNat∨x2.toNat<128∨191<x2.toNat) (by omega)).symm,((ah wr).alloc _).drewN _⟩
    obtain⟨rfl,hbc⟩:=hcut;have aT:=aa hbc;clear hbc;have hl2:=pH.o;by_cases hb:t.size<3∨x1.toNat<LO∨HI<x1.toNat∨x2.toNat<128∨191<x2.toNat
    ·have IP:decide (t.size<3∨x1.toNat<LO∨HI<x1.toNat∨x2.toNat<128∨191<x2.toNat)=true:=bT hb;rw[ar hb] at hl2;go_wp2_with fail
     all_goals (go_ret;exact⟨by first | rfl | rw[hl2],HG.o.trans aT.o⟩)
    have IP:decide (t.size<3∨x1.toNat<LO∨HI<x1.toNat∨x2.toNat<128∨191<x2.toNat)=false:=bY hb;rw[ai hb] at hl2;have H2:=aa hl2;clear hl2 pH;by_cases ht:t.size=3
    ·go_wp2_with fail;go_roundg g';exact⟨HG.o.trans aT.o,t.extract 3 t.size,some ⟨bk,o,none⟩,by rw[Lib.ext_size,ht],ba.empty (by rw[← Lib.size_eq,Lib.ext_size];omega),by rw[Lib.ext_list,H2.o],by rw[Lib.ext_size];omega,by rw[Lib.ext_size];omega⟩;omega
    go_wp2_with fail;go_roundg g';exact⟨HG.o.trans aT.o,t.extract 3 t.size,some ⟨bk,o+3,none⟩,by rw[Lib.ext_size],(aQ.o.grow aT.o).skip 3,by rw[Lib.ext_list,H2.o],by rw[Lib.ext_size];omega,by rw[Lib.ext_size];omega⟩;omega
  by_cases s4:SZ=4
  ·as_aux_lemma =>
    subst s4;have aaC:(X:Int) % 8=4:=by omega
    have hl2:=HL.o;simp only[Lib.checkN,Nat.reduceEqDiff,iK,iJ] at hl2;have pH:=aa hl2;clear hl2 HL;go_upto_region 26 with fail;go_cut [185] from 143 to 185 (fun c wx=>c=.bool (decide (t.size<4∨x1.toNat<LO∨HI<x1.toNat∨x2.toNat<128∨191<x2.toNat∨x3.toNat<128∨191<x3.toNat))∧Grow wr wx)
    case first =>
     by_cases q0:t.size<4
     ·have IK:(t.size:Int)<4:=by omega
      go_big_quiet (fail);go_wp2_with fail;go_meet;exact⟨cT Value.bool (bT (p:=t.size<4∨x1.toNat<LO∨HI<x1.toNat∨x2.toNat<128∨191<x2.toNat∨x3.toNat<128∨191<x3.toNat) (by omega)).symm,((ah wr).alloc _).drewN _⟩
     have IK:¬ ((t.size:Int)<4):=by omega
     have hz1:(1:Int)<(t.size:Int):=by omega
     have hp1:1<t.size:=by omega
     have hs1:wr.cell? ⟨bk,o+1,none⟩=some (.int .u8 (x1.toNat:Int)):=by rw[← hx1];exact aQ.o.oV 1 (by omega)
     have hz2:(2:Int)<(t.size:Int):=by omega
     have hp2:2<t.size:=by omega
     have hs2:wr.cell? ⟨bk,o+2,none⟩=some (.int .u8 (x2.toNat:Int)):=by rw[← hx2];exact aQ.o.oV 2 (by omega)
     have hz3:(3:Int)<(t.size:Int):=by omega
     have Dy:3<t.size:=by omega
     have hs3:wr.cell? ⟨bk,o+3,none⟩=some (.int .u8 (x3.toNat:Int)):=by rw[← hx3];exact aQ.o.oV 3 (by omega)
     by_cases q1:x1.toNat<LO
     ·have IL:(x1.toNat:Int)<(LO:Int):=by omega
      go_big_quiet (fail);go_wp2_with fail;go_meet;exact⟨cT Value.bool (bT (p:=t.size<4∨x1.toNat<LO∨HI<x1.toNat∨x2.toNat<128∨191<x2.toNat∨x3.toNat<128∨191<x3.toNat) (by omega)).symm,((ah wr).alloc _).drewN _⟩
     have IL:¬ ((x1.toNat:Int)<(LO:Int)):=by omega
     by_cases q2:HI<x1.toNat
     ·have IM:(HI:Int)<(x1.toNat:Int):=by omega
      go_big_quiet (fail);go_wp2_with fail;go_meet;exact⟨cT Value.bool (bT (p:=t.size<4∨x1.toNat<LO∨HI<x1.toNat∨x2.toNat<128∨191<x2.toNat∨x3.toNat<128∨191<x3.toNat) (by omega)).symm,((ah wr).alloc _).drewN _⟩
     have IM:¬ ((HI:Int)<(x1.toNat:Int)):=by omega
     by_cases q3:x2.toNat<128
     ·have SU:(x2.toNat:Int)<128:=by omega
      go_big_quiet (fail);go_wp2_with fail;go_meet;exact⟨cT Value.bool (bT (p:=t.size<4∨x1.toNat<LO∨HI<x1.toNat∨x2.toNat<128∨191<x2.toNat∨x3.toNat<128∨191<x3.toNat) (by omega)).symm,((ah wr).alloc _).drewN _⟩
     have SU:¬ ((x2.toNat:Int)<128):=by omega
     by_cases q4:191<x2.toNat
     ·have SV:(191:Int)<(x2.toNat:Int):=by omega
      go_big_quiet (fail);go_wp2_with fail;go_meet;exact⟨cT Value.bool (bT (p:=t.size<4∨x1.toNat<LO∨HI<x1.toNat∨x2.toNat<128∨191<x2.toNat∨x3.toNat<128∨191<x3.toNat) (by omega)).symm,((ah wr).alloc _).drewN _⟩
     have SV:¬ ((191:Int)<(x2.toNat:Int)):=by omega
     by_cases q5:x3.toNat<128
     ·have q5z:(x3.toNat:Int)<128:=by omega
      go_big_quiet (fail);go_wp2_with fail;go_meet;exact⟨cT Value.bool (bT (p:=t.size<4∨x1.toNat<LO∨HI<x1.toNat∨x2.toNat<128∨191<x2.toNat∨x3.toNat<128∨191<x3.toNat) (by omega)).symm,((ah wr).alloc _).drewN _⟩
     have q5z:¬ ((x3.toNat:Int)<128):=by omega
     by_cases q6:191<x3.toNat
     ·have q6z:(191:Int)<(x3.toNat:Int):=by omega
      go_big_quiet (fail);go_wp2_with fail;go_meet;exact⟨cT Value.bool (bT (p:=t.size<4∨x1.toNat<LO∨HI<x1.toNat∨x2.toNat<128∨191<x2.toNat∨x3.toNat<128∨191<x3.toNat) (by omega)).symm,((ah wr).alloc _).drewN _⟩
     have q6z:¬ ((191:Int)<(x3.toNat:Int)):=by omega
     go_big_quiet (fail);go_wp2_with fail;go_meet;exact⟨cT Value.bool (bY (p:=t.size<4∨x1.toNat<LO∨HI<x1.toNat∨x2.toNat<128∨191<x2.toNat∨x3.toNat<128∨191<x3.toNat) (by omega)).symm,((ah wr).alloc _).drewN _⟩
    obtain⟨rfl,hbc⟩:=hcut;have aT:=aa hbc;clear hbc;have hl2:=pH.o;by_cases hb:t.size<4∨x1.toNat<LO∨HI<x1.toNat∨x2.toNat<128∨191<x2.toNat∨x3.toNat<128∨191<x3.toNat
    ·have IP:decide (t.size<4∨x1.toNat<LO∨HI<x1.toNat∨x2.toNat<128∨191<x2.toNat∨x3.toNat<128∨191<x3.toNat)=true:=bT hb;rw[ar hb] at hl2;go_wp2_with fail
     all_goals (go_ret;exact⟨by first | rfl | rw[hl2],HG.o.trans aT.o⟩)
    have IP:decide (t.size<4∨x1.toNat<LO∨HI<x1.toNat∨x2.toNat<128∨191<x2.toNat∨x3.toNat<128∨191<x3.toNat)=false:=bY hb;rw[ai hb] at hl2;have H2:=aa hl2;clear hl2 pH;by_cases ht:t.size=4
    ·go_wp2_with fail;go_roundg g';exact⟨HG.o.trans aT.o,t.extract 4 t.size,some ⟨bk,o,none⟩,by rw[Lib.ext_size,ht],ba.empty (by rw[← Lib.size_eq,Lib.ext_size];omega),by rw[Lib.ext_list,H2.o],by rw[Lib.ext_size];omega,by rw[Lib.ext_size];omega⟩;omega
    go_wp2_with fail;go_roundg g';exact⟨HG.o.trans aT.o,t.extract 4 t.size,some ⟨bk,o+4,none⟩,by rw[Lib.ext_size],(aQ.o.grow aT.o).skip 4,by rw[Lib.ext_list,H2.o],by rw[Lib.ext_size];omega,by rw[Lib.ext_size];omega⟩;omega
  have e2:¬ ((X:Int) % 8=2):=by omega
  have e3:¬ ((X:Int) % 8=3):=by omega
  have e4:¬ ((X:Int) % 8=4):=by omega
  have e2b:(((X:Int) % 8)==2)=false:=by simp;omega
  have e3b:(((X:Int) % 8)==3)=false:=by simp;omega
  have e4b:(((X:Int) % 8)==4)=false:=by simp;omega
  have hl2:=HL.o;simp only[Lib.checkN,s2,s3,s4,iJ] at hl2;have pH:=aa hl2;clear hl2 HL;go_wp2_with fail
  all_goals (go_ret;exact⟨dm pH.o.symm,HG.o.alloc _⟩)
 have h0z:¬ ((0:Int)<(t.size:Int)):=by omega
 have ht0:t.data.toList=[]:=j4 (by rw[← Lib.size_eq];omega);have hv:=HV.o;rw[ht0,Lib.validD_nil] at hv;subst hv;go_wp2;go_ret;exact⟨rfl,HG.o⟩
end
end Go.Proofs.YtndjopkdbdcmdaaGreatDoor
