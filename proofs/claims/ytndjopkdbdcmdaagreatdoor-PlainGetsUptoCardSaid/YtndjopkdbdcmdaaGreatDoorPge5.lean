/- Part 5 of the proof of pgets_card. -/
import Derived.Test.YtndjopkdbdcmdaaGreatDoorPge1
import Derived.Lib.ValidAsc
import Derived.Shelf.Unicode.ValidAny
set_option linter.unusedVariables false
set_option linter.unusedSimpArgs false
set_option maxRecDepth 100000
set_option maxHeartbeats 12800000
open Go.Proofs.Tryz
namespace Go.Proofs.YtndjopkdbdcmdaaGreatDoor
variable {A:Option Addr}{bk:Nat}{w:World}
section
open Go.RowKit Go.Shelf
theorem bh.qg{o:Nat}{t:ByteArray}(h:bh w (some ⟨bk,o,none⟩) t.data.toList)(i:Nat)(hi:i<t.size):w.cell? ⟨bk,o+i,none⟩=some (.int .u8 ((t.get! i).toNat:Int)):=by
 have hi':i<t.data.toList.length:=by rw[← Lib.size_eq];exact hi
 obtain⟨pD,o',e,_,hc⟩:=h.at_ i hi';injection e with e;injection e with e1 e2;subst e1 e2;rw[hc];congr 3;rw[← Lib.getD_get!',gy,bH hi'];rfl
theorem bh.skip{o:Nat}{t:ByteArray}(h:bh w (some ⟨bk,o,none⟩) t.data.toList)(k:Nat):bh w (some ⟨bk,o+k,none⟩) (t.extract k t.size).data.toList:=by
 refine⟨by simp[b_],fun h0=>⟨bk,o+k,rfl,?_⟩⟩;intro i v hv;rw[Lib.ext_list,acp,y9] at hv;have h1:0<t.data.toList.length:=by
  cases hl:t.data.toList with
  | nil=>rw[Lib.ext_list,hl] at h0;simp at h0
  | cons x xs=>simp
 obtain⟨pD,o',e,hc⟩:=h.2 h1;injection e with e;injection e with e1 e2;subst e1 e2;have:=hc (k+i) v hv;rwa [← lu] at this
theorem bh.empty{b:List UInt8}(h:b.length=0):bh w A b:=⟨by simp[b_],fun h0=>by omega⟩
theorem bh.drewN{b:List UInt8}(h:bh w A b)(q:Nat):bh (w.drewN q) A b:=h.grow ((ah w).drewN q)
theorem C7(t:ByteArray)(bk o n cap:Nat)(w:World)(h:bh w (some ⟨bk,o,none⟩) t.data.toList)(hn:n=t.size)(h8:8≤t.size)(q:Nat) :
 Calls prog 129 #[.slice (some ⟨bk,o,none⟩) n cap] (w.drewN q) fun e w'=>e=.returned (.int .u64 (Lib.leNat [t.get! 0,t.get! 1,t.get! 2,t.get! 3,t.get! 4,t.get! 5,t.get! 6,t.get! 7]))∧∃m,w'=(w.drewN q).drewN m:=
 acx _ _ _ _ _ _ _ _ bk o n cap _ (by omega) ((h.drewN q).qg 0 (by omega)) ((h.drewN q).qg 1 (by omega)) ((h.drewN q).qg 2 (by omega)) ((h.drewN q).qg 3 (by omega))
  ((h.drewN q).qg 4 (by omega)) ((h.drewN q).qg 5 (by omega)) ((h.drewN q).qg 6 (by omega)) ((h.drewN q).qg 7 (by omega))
theorem Nl(b:List UInt8)(A:Option Addr)(cap:Nat)(w:World)(hb:bh w A b)(hl:b.length≤140737488355328)(hc:b.length≤cap)
 (hT:Lib.Utf8Tabs 0 1 w) :
 Calls prog 88 #[.slice A b.length cap] w fun e w'=>e=.returned (.bool (Lib.validD b))∧Grow w w':=by
 have HB:=aa hb;have HT:=aa hT;clear hb hT;obtain⟨iJ,eG⟩:∃A,Lib.validD b=A:=⟨_,rfl⟩;rw[eG];have HA:=aa eG;clear eG;go_enter func88,ntmps88;go_wp2;go_loopg [0] (b.length+1) (fun gk s0 wx=>Grow w wx∧∃(t:ByteArray) (B:Option Addr),s0=.slice B t.size t.size∧bh wx B t.data.toList∧Lib.validD t.data.toList=iJ∧t.size<gk∧t.size≤140737488355328);exact⟨ah _,⟨b.toArray⟩,A,by simp[ByteArray.size],HB.o,HA.o,by simp[ByteArray.size],by simpa [ByteArray.size] using hl⟩;obtain⟨hg,t,B,rfl,hb,hv,ji,hts⟩:=hrel;have HG:=aa hg;have cP:=aa hb;have HV:=aa hv;clear hg hb hv HA HB;by_cases h0:0<t.size
 ·obtain⟨g',rfl⟩:∃g',gk=g'+1:=⟨gk-1,by omega⟩;obtain⟨x0,hx0⟩:∃x0,t.get! 0=x0:=⟨_,rfl⟩;obtain⟨bk,o,rfl,hbk,hc0⟩:=cP.o.at_ 0 (by rw[← Lib.size_eq];exact h0);clear hc0;have hs0:wr.cell? ⟨bk,o,none⟩=some (.int .u8 (x0.toNat:Int)):=by rw[← hx0];exact cP.o.qg 0 h0
  have akW:x0.toNat<256:=x0.toNat_lt;by_cases akX:x0.toNat<128
  ·as_aux_lemma =>
    have a1:Lib.Asc t 1:=Lib.asc_one t h0 (by rw[hx0];exact akX);obtain⟨t1,ht1⟩:∃t1,t.extract 1 t.size=t1:=⟨_,rfl⟩;have z1:t1.size=t.size-1:=by rw[← ht1,Lib.ext_size]
    have V1:=aa (show Lib.validD t1.data.toList=iJ by rw[← ht1,Lib.valid_skip t 1 a1];exact HV.o);have B1:=aa (show bh wr (some ⟨bk,o+1,none⟩) t1.data.toList by rw[← ht1];exact cP.o.skip 1);clear a1 hx0;by_cases h1:t.size=1
    ·go_wp2_with fail;go_roundg g';exact⟨HG.o,t1,some ⟨bk,o,none⟩,by rw[z1,h1],bh.empty (by rw[← Lib.size_eq];omega),V1.o,by omega,by omega⟩;omega
    by_cases c8:8<t.size-1
    ·have c8z:(8:Int)<((t.size-1:Nat):Int):=by omega
     obtain⟨A1,MJ⟩:∃A,Lib.leNat [t1.get! 0,t1.get! 1,t1.get! 2,t1.get! 3,t1.get! 4,t1.get! 5,t1.get! 6,t1.get! 7]=A:=⟨_,rfl⟩;have lA1:A1<18446744073709551616:=MJ ▸ Lib.word_lt t1;have cA1:∀q,Calls prog 129 #[.slice (some ⟨bk,o+1,none⟩) (t.size-1) (t.size-1)] (wr.drewN q) fun e w'=>e=.returned (.int .u64 (A1:Int))∧∃m,w'=(wr.drewN q).drewN m:=fun q=>by rw[← MJ];exact C7 t1 bk _ _ _ wr B1.o (by omega) (by omega) q
     have Nn:=Lib.word_asc t1 (by omega);rw[MJ] at Nn;have akY:bits .and .u64 (A1:Int) 9259542123273814144=((A1 &&& 9259542123273814144:Nat):Int):=u64_and_nat A1 9259542123273814144 lA1 (by omega);obtain⟨Z1,hZ1⟩:∃Z1,A1 &&& 9259542123273814144=Z1:=⟨_,rfl⟩;rw[hZ1] at akY Nn;have cB:=aa cA1;clear cA1;by_cases hz1:Z1=0
     ·have akZ:((Z1:Int)==0)=true:=by simp[hz1]
      have a8:Lib.Asc t1 8:=Nn.1 hz1;obtain⟨t2,ht2⟩:∃t2,t1.extract 8 t1.size=t2:=⟨_,rfl⟩;have z2:t2.size=t.size-1-8:=by rw[← ht2,Lib.ext_size,z1]
      have V2:=aa (show Lib.validD t2.data.toList=iJ by rw[← ht2,Lib.valid_skip t1 8 a8];exact V1.o);have B2:=aa (show bh wr (some ⟨bk,o+1+8,none⟩) t2.data.toList by rw[← ht2];exact B1.o.skip 8);clear Nn a8 V1;by_cases c16:16<t.size-1-8
      ·have Um:(16:Int)<((t.size-1-8:Nat):Int):=by omega
       go_wp2_with (go_at_call 129;refine(cB.o 0).mono ?_;rintro e w' ⟨rfl,q1,rfl⟩);have aO:=aa ((HG.o.drewN 0).drewN q1);clear cB HG;have Np:=aa (show Grow w (wr.drewN q1) from aO.o);have Bq:=aa (show bh (wr.drewN q1) (some ⟨bk,o+1+8,none⟩) t2.data.toList from (B2.o.drewN 0).drewN q1);clear aO hc B1 cP HV hs0 B2;generalize wr.drewN q1=wq at Np Bq ⊢;have ak0:decide ((16:Int)<((t.size-1-8:Nat):Int))=true:=cj Um;obtain⟨qh,Un⟩:∃qh,t2.extract 8 t2.size=qh:=⟨_,rfl⟩;have z2b:qh.size=t.size-1-8-8:=by rw[← Un,Lib.ext_size,z2]
       have Bqb:=aa (show bh wq (some ⟨bk,o+1+8+8,none⟩) qh.data.toList by rw[← Un];exact Bq.o.skip 8);obtain⟨A2,MK⟩:∃A,Lib.leNat [t2.get! 0,t2.get! 1,t2.get! 2,t2.get! 3,t2.get! 4,t2.get! 5,t2.get! 6,t2.get! 7]=A:=⟨_,rfl⟩;have lA2:A2<18446744073709551616:=MK ▸ Lib.word_lt t2;have cA2:∀q,Calls prog 129 #[.slice (some ⟨bk,o+1+8,none⟩) (t.size-1-8) (t.size-1-8)] (wq.drewN q) fun e w'=>e=.returned (.int .u64 (A2:Int))∧∃m,w'=(wq.drewN q).drewN m:=fun q=>by rw[← MK];exact C7 t2 bk _ _ _ wq Bq.o (by omega) (by omega) q
       have Uo:=Lib.word_asc t2 (by omega);rw[MK] at Uo;obtain⟨A3,ML⟩:∃A,Lib.leNat [qh.get! 0,qh.get! 1,qh.get! 2,qh.get! 3,qh.get! 4,qh.get! 5,qh.get! 6,qh.get! 7]=A:=⟨_,rfl⟩;have lA3:A3<18446744073709551616:=ML ▸ Lib.word_lt qh;have cA3:∀q,Calls prog 129 #[.slice (some ⟨bk,o+1+8+8,none⟩) (t.size-1-8-8) (t.size-1-8-8)] (wq.drewN q) fun e w'=>e=.returned (.int .u64 (A3:Int))∧∃m,w'=(wq.drewN q).drewN m:=fun q=>by rw[← ML];exact C7 qh bk _ _ _ wq Bqb.o (by omega) (by omega) q
       have Uq:=Lib.word_asc qh (by omega);rw[ML] at Uq;have L1:bits .or .u64 (A2:Int) (A3:Int)=((A2 ||| A3:Nat):Int):=u64_or_nat A2 A3 lA2 lA3;have abt:A2 ||| A3<18446744073709551616:=J9 (n:=64) lA2 lA3;have abu:bits .and .u64 ((A2 ||| A3:Nat):Int) 9259542123273814144=(((A2 ||| A3) &&& 9259542123273814144:Nat):Int):=u64_and_nat _ 9259542123273814144 abt (by omega);have k2:(A2 ||| A3) &&& 9259542123273814144=0→Lib.Asc t2 16:=fun h0'=>by
        obtain⟨e1,e2⟩:=(Lib.or_mask A2 A3 _).1 h0';exact Lib.asc_add t2 8 8 (Uo.1 e1) (by rw[Un];exact Uq.1 e2)
       obtain⟨O2,hO2⟩:∃O2,A2 ||| A3=O2:=⟨_,rfl⟩;rw[hO2] at L1 abu k2;obtain⟨Z2,hZ2⟩:∃Z2,O2 &&& 9259542123273814144=Z2:=⟨_,rfl⟩;rw[hZ2] at abu k2;have K2:=aa cA2;have K3:=aa cA3;clear Uo Uq abt hO2 hZ2 cA2 cA3;by_cases hz2:Z2=0
       ·have ak1:((Z2:Int)==0)=true:=by simp[hz2]
        have a16:=k2 hz2;obtain⟨t3,Ur⟩:∃t3,t2.extract 16 t2.size=t3:=⟨_,rfl⟩;have z3:t3.size=t.size-1-8-16:=by rw[← Ur,Lib.ext_size,z2]
        have V3:=aa (show Lib.validD t3.data.toList=iJ by rw[← Ur,Lib.valid_skip t2 16 a16];exact V2.o);have B3:=aa (show bh wq (some ⟨bk,o+1+8+16,none⟩) t3.data.toList by rw[← Ur];exact Bq.o.skip 16);clear k2 a16 V2;have s8z:(8:Int)≤((t.size-1-8:Nat):Int):=by omega
        have s8n:¬ (t.size-1-8=8):=by omega
        have s8m:8≤t.size-1-8:=by omega
        go_big_quiet (first | (go_at_call 129;with_reducible refine Calls.quiet_of (K2.o _)) | (go_at_call 129;with_reducible refine Calls.quiet_of (K3.o _)));have HG2:=aa (Np.o.drewN nq);have B3q:=aa (B3.o.drewN nq);clear K2 K3 Np B3 Bq Bqb;generalize wq.drewN nq=wq2 at HG2 B3q ⊢;go_wp2_with fail;go_loopg [0] (t3.size+1) (fun g2 s0 wx=>Grow w wx∧∃(u:ByteArray) (B:Option Addr),s0=.slice B u.size u.size∧bh wx B u.data.toList∧Lib.validD u.data.toList=iJ∧u.size<g2∧u.size≤t3.size);exact⟨HG2.o,t3,_,by rw[z3],B3q.o,V3.o,by omega,au _⟩;obtain⟨hgu,u,B,rfl,nk,vu,hlu,LA⟩:=hrel;have HU:=aa hgu;have BU:=aa nk;have VU:=aa vu;clear hgu nk vu;by_cases c32:32<u.size
        ·obtain⟨g3,rfl⟩:∃g3,gk=g3+1:=⟨gk-1,by omega⟩;have Us:(32:Int)<(u.size:Int):=by omega
         have ak2:decide ((32:Int)<(u.size:Int))=true:=cj Us;obtain⟨bu,ou,rfl,nk,BN⟩:=BU.o.at_ 0 (by rw[← Lib.size_eq];omega);clear BN;obtain⟨ub,Ut⟩:∃ub,u.extract 8 u.size=ub:=⟨_,rfl⟩;have zub:ub.size=u.size-8:=by rw[← Ut,Lib.ext_size]
         have Bub:=aa (show bh wr (some ⟨bu,ou+8,none⟩) ub.data.toList by rw[← Ut];exact BU.o.skip 8);obtain⟨uc,Uu⟩:∃uc,u.extract 16 u.size=uc:=⟨_,rfl⟩;have zuc:uc.size=u.size-16:=by rw[← Uu,Lib.ext_size]
         have Buc:=aa (show bh wr (some ⟨bu,ou+16,none⟩) uc.data.toList by rw[← Uu];exact BU.o.skip 16);obtain⟨ud,Uv⟩:∃ud,u.extract 24 u.size=ud:=⟨_,rfl⟩;have zud:ud.size=u.size-24:=by rw[← Uv,Lib.ext_size]
         have Bud:=aa (show bh wr (some ⟨bu,ou+24,none⟩) ud.data.toList by rw[← Uv];exact BU.o.skip 24);obtain⟨E0,Uw⟩:∃A,Lib.leNat [u.get! 0,u.get! 1,u.get! 2,u.get! 3,u.get! 4,u.get! 5,u.get! 6,u.get! 7]=A:=⟨_,rfl⟩;have lE0:E0<18446744073709551616:=Uw ▸ Lib.word_lt u;have cE0:∀q,Calls prog 129 #[.slice (some ⟨bu,ou,none⟩) (u.size) (u.size)] (wr.drewN q) fun e w'=>e=.returned (.int .u64 (E0:Int))∧∃m,w'=(wr.drewN q).drewN m:=fun q=>by rw[← Uw];exact C7 u bu _ _ _ wr BU.o (by omega) (by omega) q
         have Ux:=Lib.word_asc u (by omega);rw[Uw] at Ux;obtain⟨E1,Uy⟩:∃A,Lib.leNat [ub.get! 0,ub.get! 1,ub.get! 2,ub.get! 3,ub.get! 4,ub.get! 5,ub.get! 6,ub.get! 7]=A:=⟨_,rfl⟩;have lE1:E1<18446744073709551616:=Uy ▸ Lib.word_lt ub;have cE1:∀q,Calls prog 129 #[.slice (some ⟨bu,ou+8,none⟩) (u.size-8) (u.size-8)] (wr.drewN q) fun e w'=>e=.returned (.int .u64 (E1:Int))∧∃m,w'=(wr.drewN q).drewN m:=fun q=>by rw[← Uy];exact C7 ub bu _ _ _ wr Bub.o (by omega) (by omega) q
         have Uz:=Lib.word_asc ub (by omega);rw[Uy] at Uz;obtain⟨E2,UA⟩:∃A,Lib.leNat [uc.get! 0,uc.get! 1,uc.get! 2,uc.get! 3,uc.get! 4,uc.get! 5,uc.get! 6,uc.get! 7]=A:=⟨_,rfl⟩;have lE2:E2<18446744073709551616:=UA ▸ Lib.word_lt uc;have cE2:∀q,Calls prog 129 #[.slice (some ⟨bu,ou+16,none⟩) (u.size-16) (u.size-16)] (wr.drewN q) fun e w'=>e=.returned (.int .u64 (E2:Int))∧∃m,w'=(wr.drewN q).drewN m:=fun q=>by rw[← UA];exact C7 uc bu _ _ _ wr Buc.o (by omega) (by omega) q
         have UB:=Lib.word_asc uc (by omega);rw[UA] at UB;obtain⟨E3,UC⟩:∃A,Lib.leNat [ud.get! 0,ud.get! 1,ud.get! 2,ud.get! 3,ud.get! 4,ud.get! 5,ud.get! 6,ud.get! 7]=A:=⟨_,rfl⟩;have lE3:E3<18446744073709551616:=UC ▸ Lib.word_lt ud;have cE3:∀q,Calls prog 129 #[.slice (some ⟨bu,ou+24,none⟩) (u.size-24) (u.size-24)] (wr.drewN q) fun e w'=>e=.returned (.int .u64 (E3:Int))∧∃m,w'=(wr.drewN q).drewN m:=fun q=>by rw[← UC];exact C7 ud bu _ _ _ wr Bud.o (by omega) (by omega) q
         have UD:=Lib.word_asc ud (by omega);rw[UC] at UD;have Nq:bits .or .u64 (E0:Int) (E1:Int)=((E0 ||| E1:Nat):Int):=u64_or_nat E0 E1 lE0 lE1;have wZ:bits .or .u64 (E2:Int) (E3:Int)=((E2 ||| E3:Nat):Int):=u64_or_nat E2 E3 lE2 lE3;have UE:E0 ||| E1<18446744073709551616:=J9 (n:=64) lE0 lE1;have UF:E2 ||| E3<18446744073709551616:=J9 (n:=64) lE2 lE3;have ho3:bits .or .u64 ((E0 ||| E1:Nat):Int) ((E2 ||| E3:Nat):Int)=(((E0 ||| E1) ||| (E2 ||| E3):Nat):Int):=u64_or_nat _ _ UE UF;have lo3:(E0 ||| E1) ||| (E2 ||| E3)<18446744073709551616:=J9 (n:=64) UE UF
         have UG:bits .and .u64 (((E0 ||| E1) ||| (E2 ||| E3):Nat):Int) 9259542123273814144=((((E0 ||| E1) ||| (E2 ||| E3)) &&& 9259542123273814144:Nat):Int):=u64_and_nat _ 9259542123273814144 lo3 (by omega);have k3:((E0 ||| E1) ||| (E2 ||| E3)) &&& 9259542123273814144=0→Lib.Asc u 32:=fun h0'=>by
          obtain⟨e01,e23⟩:=(Lib.or_mask _ _ _).1 h0';obtain⟨e0,e1⟩:=(Lib.or_mask _ _ _).1 e01;obtain⟨e2,e3⟩:=(Lib.or_mask _ _ _).1 e23;have s16:Lib.Asc u 16:=Lib.asc_add u 8 8 (Ux.1 e0) (by rw[Ut];exact Uz.1 e1);have s24:Lib.Asc u 24:=Lib.asc_add u 16 8 s16 (by rw[Uu];exact UB.1 e2);exact Lib.asc_add u 24 8 s24 (by rw[Uv];exact UD.1 e3)
         obtain⟨P1,UH⟩:∃P1,E0 ||| E1=P1:=⟨_,rfl⟩;obtain⟨P2,UI⟩:∃P2,E2 ||| E3=P2:=⟨_,rfl⟩;rw[UH,UI] at ho3 UG k3;rw[UH] at Nq;rw[UI] at wZ;obtain⟨P3,hP3⟩:∃P3,P1 ||| P2=P3:=⟨_,rfl⟩;rw[hP3] at ho3 UG k3;obtain⟨Z3,hZ3⟩:∃Z3,P3 &&& 9259542123273814144=Z3:=⟨_,rfl⟩;rw[hZ3] at UG k3;have D0:=aa cE0;have D1:=aa cE1;have D2:=aa cE2;have D3:=aa cE3;have s8z:(8:Int)≤(u.size:Int):=by omega
         have s8n:¬ (u.size=8):=by omega
         have s8m:8≤u.size:=by omega
         have aon:(16:Int)≤(u.size:Int):=by omega
         have aoo:¬ (u.size=16):=by omega
         have aop:16≤u.size:=by omega
         have aoq:(24:Int)≤(u.size:Int):=by omega
         have aor:¬ (u.size=24):=by omega
         have aos:24≤u.size:=by omega
         clear Ux Uz UB UD UE UF lo3 UH UI hP3 hZ3 cE0 cE1 cE2 cE3;by_cases hz3:Z3=0
         ·have ak3:((Z3:Int)==0)=true:=by simp[hz3]
          have a32:=k3 hz3;obtain⟨u2,hu2⟩:∃u2,u.extract 32 u.size=u2:=⟨_,rfl⟩;have zu2:u2.size=u.size-32:=by rw[← hu2,Lib.ext_size]
          have vu2:=aa (show Lib.validD u2.data.toList=iJ by rw[← hu2,Lib.valid_skip u 32 a32];exact VU.o);have Bu2:=aa (show bh wr (some ⟨bu,ou+32,none⟩) u2.data.toList by rw[← hu2];exact BU.o.skip 32);clear k3 a32;go_wp2_with fail;go_big_quiet (first | (go_at_call 129;with_reducible refine Calls.quiet_of (D0.o _)) | (go_at_call 129;with_reducible refine Calls.quiet_of (D1.o _)) | (go_at_call 129;with_reducible refine Calls.quiet_of (D2.o _)) | (go_at_call 129;with_reducible refine Calls.quiet_of (D3.o _)));go_wp2_with fail;go_roundg g3;exact⟨HU.o.drewN nq,u2,some ⟨bu,ou+32,none⟩,by rw[zu2],Bu2.o.drewN nq,vu2.o,by omega,by omega⟩;omega
         have ak3:((Z3:Int)==0)=false:=by simp;omega
         clear k3;go_wp2_with fail;go_big_quiet (first | (go_at_call 129;with_reducible refine Calls.quiet_of (D0.o _)) | (go_at_call 129;with_reducible refine Calls.quiet_of (D1.o _)) | (go_at_call 129;with_reducible refine Calls.quiet_of (D2.o _)) | (go_at_call 129;with_reducible refine Calls.quiet_of (D3.o _)));go_wp2_with fail;go_roundg g';exact⟨HU.o.drewN nq,u,some ⟨bu,ou,none⟩,rfl,BU.o.drewN nq,VU.o,by omega,by omega⟩;omega
        have Us:¬ ((32:Int)<(u.size:Int)):=by omega
        have ak2:decide ((32:Int)<(u.size:Int))=false:=cm Us;go_wp2_with fail;go_big_quiet (fail);go_wp2_with fail;go_roundg g';exact⟨HU.o.drewN nq,u,B,rfl,BU.o.drewN nq,VU.o,by omega,by omega⟩;omega
       have ak1:((Z2:Int)==0)=false:=by simp;omega
       have s8z:(8:Int)≤((t.size-1-8:Nat):Int):=by omega
       have s8n:¬ (t.size-1-8=8):=by omega
       have s8m:8≤t.size-1-8:=by omega
       go_big_quiet (first | (go_at_call 129;with_reducible refine Calls.quiet_of (K2.o _)) | (go_at_call 129;with_reducible refine Calls.quiet_of (K3.o _)));go_wp2_with fail;go_roundg g';exact⟨Np.o.drewN nq,t2,some ⟨bk,o+1+8,none⟩,by rw[z2],Bq.o.drewN nq,V2.o,by omega,by omega⟩;omega
      have Um:¬ ((16:Int)<((t.size-1-8:Nat):Int)):=by omega
      have ak0:decide ((16:Int)<((t.size-1-8:Nat):Int))=false:=cm Um;go_wp2_with (go_at_call 129;refine(cB.o 0).mono ?_;rintro e w' ⟨rfl,q1,rfl⟩);have aO:=aa ((HG.o.drewN 0).drewN q1);clear cB HG;go_big_quiet (fail);go_wp2_with fail;go_roundg g';exact⟨aO.o.drewN nq,t2,some ⟨bk,o+1+8,none⟩,by rw[z2],((B2.o.drewN 0).drewN q1).drewN nq,V2.o,by omega,by omega⟩;omega
     have akZ:((Z1:Int)==0)=false:=by simp;omega
     go_wp2_with (go_at_call 129;refine(cB.o 0).mono ?_;rintro e w' ⟨rfl,q1,rfl⟩);have aO:=aa ((HG.o.drewN 0).drewN q1);clear cB HG;go_roundg g';exact⟨aO.o,t1,some ⟨bk,o+1,none⟩,by rw[z1],(B1.o.drewN 0).drewN q1,V1.o,by omega,by omega⟩;omega
    have c8z:¬ ((8:Int)<((t.size-1:Nat):Int)):=by omega
    go_wp2_with fail;go_roundg g';exact⟨HG.o,t1,some ⟨bk,o+1,none⟩,by rw[z1],B1.o,V1.o,by omega,by omega⟩;omega
  have hge:128≤x0.toNat:=by omega
  obtain⟨x1,hx1⟩:∃x1,t.get! 1=x1:=⟨_,rfl⟩;obtain⟨x2,hx2⟩:∃x2,t.get! 2=x2:=⟨_,rfl⟩;obtain⟨x3,hx3⟩:∃x3,t.get! 3=x3:=⟨_,rfl⟩;have l1:=x1.toNat_lt;have l2:=x2.toNat_lt;have l3:=x3.toNat_lt;have hne:t.data.toList≠[]:=fun h=>by rw[Lib.size_eq,h] at h0;simp at h0
  have hlead:=Lib.validD_lead t.data.toList hne (by rw[Lib.getD_get!',hx0];exact hge);rw[Lib.getD_get!',Lib.getD_get!',Lib.getD_get!',Lib.getD_get!',hx0,hx1,hx2,hx3,← Lib.size_eq,HV.o] at hlead;have Nr:=Utf8Tabs_below HT.o HG.o;have hc0:=Nr.1 x0.toNat akW;have abv:Lib.firstT x0.toNat<256:=by rcases Lib.firstT_cases x0.toNat with h | h | h | h | h | h | h | h | h<;>omega
  obtain⟨X,hX⟩:∃X,Lib.firstT x0.toNat=X:=⟨_,rfl⟩;rw[hX] at hc0 abv hlead;have h7:=and7 ⟨X,abv⟩;simp only at h7;have ha0:wr.cell? ⟨1,X / 16*2,none⟩=some (.int .u8 (Lib.accLo (X / 16))):=by rw[xL];exact(Nr.2 (X / 16) (by omega)).1
  have ha1:wr.cell? ⟨1,X / 16*2+1,none⟩=some (.int .u8 (Lib.accHi (X / 16))):=by rw[xL];exact(Nr.2 (X / 16) (by omega)).2
  obtain⟨LO,hLO⟩:∃LO,Lib.accLo (X / 16)=LO:=⟨_,rfl⟩;obtain⟨HI,hHI⟩:∃HI,Lib.accHi (X / 16)=HI:=⟨_,rfl⟩;rw[hLO] at ha0 hlead;rw[hHI] at ha1 hlead;obtain⟨SZ,Jw⟩:∃SZ,X % 8=SZ:=⟨_,rfl⟩;rw[Jw] at hlead;have HL:=aa hlead;clear Nr hX hLO hHI hne HV HT hlead;by_cases s2:SZ=2
  ·as_aux_lemma =>
    subst s2;have abw:(X:Int) % 8=2:=by omega
    have hl2:=HL.o;simp only[Lib.checkN,Nat.reduceEqDiff,ly,jc] at hl2;have qI:=aa hl2;clear hl2 HL;go_upto_region 18 with fail;go_cut [103] from 85 to 103 (fun c wx=>c=.bool (decide (t.size<2∨x1.toNat<LO∨HI<x1.toNat))∧Grow wr wx)
    case first =>
     by_cases q0:t.size<2
     ·have Jx:(t.size:Int)<2:=by omega
      go_big_quiet (fail);go_wp2_with fail;go_meet;exact⟨dJ Value.bool (cj (p:=t.size<2∨x1.toNat<LO∨HI<x1.toNat) (by omega)).symm,((ah wr).alloc _).drewN _⟩
     have Jx:¬ ((t.size:Int)<2):=by omega
     have hz1:(1:Int)<(t.size:Int):=by omega
     have hp1:1<t.size:=by omega
     have hs1:wr.cell? ⟨bk,o+1,none⟩=some (.int .u8 (x1.toNat:Int)):=by rw[← hx1];exact cP.o.qg 1 (by omega)
     by_cases q1:x1.toNat<LO
     ·have Jy:(x1.toNat:Int)<(LO:Int):=by omega
      go_big_quiet (fail);go_wp2_with fail;go_meet;exact⟨dJ Value.bool (cj (p:=t.size<2∨x1.toNat<LO∨HI<x1.toNat) (by omega)).symm,((ah wr).alloc _).drewN _⟩
     have Jy:¬ ((x1.toNat:Int)<(LO:Int)):=by omega
     by_cases q2:HI<x1.toNat
     ·have Jz:(HI:Int)<(x1.toNat:Int):=by omega
      go_big_quiet (fail);go_wp2_with fail;go_meet;exact⟨dJ Value.bool (cj (p:=t.size<2∨x1.toNat<LO∨HI<x1.toNat) (by omega)).symm,((ah wr).alloc _).drewN _⟩
     have Jz:¬ ((HI:Int)<(x1.toNat:Int)):=by omega
     go_big_quiet (fail);go_wp2_with fail;go_meet;exact⟨dJ Value.bool (cm (p:=t.size<2∨x1.toNat<LO∨HI<x1.toNat) (by omega)).symm,((ah wr).alloc _).drewN _⟩
    obtain⟨rfl,hbc⟩:=hcut;have aQ:=aa hbc;clear hbc;have hl2:=qI.o;by_cases hb:t.size<2∨x1.toNat<LO∨HI<x1.toNat
    ·have JA:decide (t.size<2∨x1.toNat<LO∨HI<x1.toNat)=true:=cj hb;rw[aD hb] at hl2;go_wp2_with fail
     all_goals (go_ret;exact⟨by first | rfl | rw[hl2],HG.o.trans aQ.o⟩)
    have JA:decide (t.size<2∨x1.toNat<LO∨HI<x1.toNat)=false:=cm hb;rw[ak hb] at hl2;have H2:=aa hl2;clear hl2 qI;by_cases ht:t.size=2
    ·go_wp2_with fail;go_roundg g';exact⟨HG.o.trans aQ.o,t.extract 2 t.size,some ⟨bk,o,none⟩,by rw[Lib.ext_size,ht],bh.empty (by rw[← Lib.size_eq,Lib.ext_size];omega),by rw[Lib.ext_list,H2.o],by rw[Lib.ext_size];omega,by rw[Lib.ext_size];omega⟩;omega
    go_wp2_with fail;go_roundg g';exact⟨HG.o.trans aQ.o,t.extract 2 t.size,some ⟨bk,o+2,none⟩,by rw[Lib.ext_size],(cP.o.grow aQ.o).skip 2,by rw[Lib.ext_list,H2.o],by rw[Lib.ext_size];omega,by rw[Lib.ext_size];omega⟩;omega
  by_cases s3:SZ=3
  ·as_aux_lemma =>
    subst s3;have abw:(X:Int) % 8=3:=by omega
    have hl2:=HL.o;simp only[Lib.checkN,Nat.reduceEqDiff,ly,jc] at hl2;have qI:=aa hl2;clear hl2 HL;go_upto_region 22 with fail;go_cut [138] from 108 to 138 (fun c wx=>c=.bool (decide (t.size<3∨x1.toNat<LO∨HI<x1.toNat∨x2.toNat<128∨191<x2.toNat))∧Grow wr wx)
    case first =>
     by_cases q0:t.size<3
     ·have Jx:(t.size:Int)<3:=by omega
      go_big_quiet (fail);go_wp2_with fail;go_meet;exact⟨dJ Value.bool (cj (p:=t.size<3∨x1.toNat<LO∨HI<x1.toNat∨x2.toNat<128∨191<x2.toNat) (by omega)).symm,((ah wr).alloc _).drewN _⟩
     have Jx:¬ ((t.size:Int)<3):=by omega
     have hz1:(1:Int)<(t.size:Int):=by omega
     have hp1:1<t.size:=by omega
     have hs1:wr.cell? ⟨bk,o+1,none⟩=some (.int .u8 (x1.toNat:Int)):=by rw[← hx1];exact cP.o.qg 1 (by omega)
     have hz2:(2:Int)<(t.size:Int):=by omega
     have hp2:2<t.size:=by omega
     have hs2:wr.cell? ⟨bk,o+2,none⟩=some (.int .u8 (x2.toNat:Int)):=by rw[← hx2];exact cP.o.qg 2 (by omega)
     by_cases q1:x1.toNat<LO
     ·have Jy:(x1.toNat:Int)<(LO:Int):=by omega
      go_big_quiet (fail);go_wp2_with fail;go_meet;exact⟨dJ Value.bool (cj (p:=t.size<3∨x1.toNat<LO∨HI<x1.toNat∨x2.toNat<128∨191<x2.toNat) (by omega)).symm,((ah wr).alloc _).drewN _⟩
     have Jy:¬ ((x1.toNat:Int)<(LO:Int)):=by omega
     by_cases q2:HI<x1.toNat
     ·have Jz:(HI:Int)<(x1.toNat:Int):=by omega
      go_big_quiet (fail);go_wp2_with fail;go_meet;exact⟨dJ Value.bool (cj (p:=t.size<3∨x1.toNat<LO∨HI<x1.toNat∨x2.toNat<128∨191<x2.toNat) (by omega)).symm,((ah wr).alloc _).drewN _⟩
     have Jz:¬ ((HI:Int)<(x1.toNat:Int)):=by omega
     by_cases q3:x2.toNat<128
     ·have UJ:(x2.toNat:Int)<128:=by omega
      go_big_quiet (fail);go_wp2_with fail;go_meet;exact⟨dJ Value.bool (cj (p:=t.size<3∨x1.toNat<LO∨HI<x1.toNat∨x2.toNat<128∨191<x2.toNat) (by omega)).symm,((ah wr).alloc _).drewN _⟩
     have UJ:¬ ((x2.toNat:Int)<128):=by omega
     by_cases q4:191<x2.toNat
     ·have UK:(191:Int)<(x2.toNat:Int):=by omega
      go_big_quiet (fail);go_wp2_with fail;go_meet;exact⟨dJ Value.bool (cj (p:=t.size<3∨x1.toNat<LO∨HI<x1.toNat∨x2.toNat<128∨191<x2.toNat) (by omega)).symm,((ah wr).alloc _).drewN _⟩
     have UK:¬ ((191:Int)<(x2.toNat:Int)):=by omega
     go_big_quiet (fail);go_wp2_with fail;go_meet;exact⟨dJ Value.bool (cm (p:=t.size<3∨x1.toNat<LO∨HI<x1.toNat∨x2.toNat<128∨191<x2.toNat) (by omega)).symm,((ah wr).alloc _).drewN _⟩
    obtain⟨rfl,hbc⟩:=hcut;have aQ:=aa hbc;clear hbc;have hl2:=qI.o;by_cases hb:t.size<3∨x1.toNat<LO∨HI<x1.toNat∨x2.toNat<128∨191<x2.toNat
    ·have JA:decide (t.size<3∨x1.toNat<LO∨HI<x1.toNat∨x2.toNat<128∨191<x2.toNat)=true:=cj hb;rw[aD hb] at hl2;go_wp2_with fail
     all_goals (go_ret;exact⟨by first | rfl | rw[hl2],HG.o.trans aQ.o⟩)
    have JA:decide (t.size<3∨x1.toNat<LO∨HI<x1.toNat∨x2.toNat<128∨191<x2.toNat)=false:=cm hb;rw[ak hb] at hl2;have H2:=aa hl2;clear hl2 qI;by_cases ht:t.size=3
    ·go_wp2_with fail;go_roundg g';exact⟨HG.o.trans aQ.o,t.extract 3 t.size,some ⟨bk,o,none⟩,by rw[Lib.ext_size,ht],bh.empty (by rw[← Lib.size_eq,Lib.ext_size];omega),by rw[Lib.ext_list,H2.o],by rw[Lib.ext_size];omega,by rw[Lib.ext_size];omega⟩;omega
    go_wp2_with fail;go_roundg g';exact⟨HG.o.trans aQ.o,t.extract 3 t.size,some ⟨bk,o+3,none⟩,by rw[Lib.ext_size],(cP.o.grow aQ.o).skip 3,by rw[Lib.ext_list,H2.o],by rw[Lib.ext_size];omega,by rw[Lib.ext_size];omega⟩;omega
  by_cases s4:SZ=4
  ·as_aux_lemma =>
    subst s4;have abw:(X:Int) % 8=4:=by omega
    have hl2:=HL.o;simp only[Lib.checkN,Nat.reduceEqDiff,ly,jc] at hl2;have qI:=aa hl2;clear hl2 HL;go_upto_region 26 with fail;go_cut [185] from 143 to 185 (fun c wx=>c=.bool (decide (t.size<4∨x1.toNat<LO∨HI<x1.toNat∨x2.toNat<128∨191<x2.toNat∨x3.toNat<128∨191<x3.toNat))∧Grow wr wx)
    case first =>
     by_cases q0:t.size<4
     ·have Jx:(t.size:Int)<4:=by omega
      go_big_quiet (fail);go_wp2_with fail;go_meet;exact⟨dJ Value.bool (cj (p:=t.size<4∨x1.toNat<LO∨HI<x1.toNat∨x2.toNat<128∨191<x2.toNat∨x3.toNat<128∨191<x3.toNat) (by omega)).symm,((ah wr).alloc _).drewN _⟩
     have Jx:¬ ((t.size:Int)<4):=by omega
     have hz1:(1:Int)<(t.size:Int):=by omega
     have hp1:1<t.size:=by omega
     have hs1:wr.cell? ⟨bk,o+1,none⟩=some (.int .u8 (x1.toNat:Int)):=by rw[← hx1];exact cP.o.qg 1 (by omega)
     have hz2:(2:Int)<(t.size:Int):=by omega
     have hp2:2<t.size:=by omega
     have hs2:wr.cell? ⟨bk,o+2,none⟩=some (.int .u8 (x2.toNat:Int)):=by rw[← hx2];exact cP.o.qg 2 (by omega)
     have hz3:(3:Int)<(t.size:Int):=by omega
     have Eu:3<t.size:=by omega
     have hs3:wr.cell? ⟨bk,o+3,none⟩=some (.int .u8 (x3.toNat:Int)):=by rw[← hx3];exact cP.o.qg 3 (by omega)
     by_cases q1:x1.toNat<LO
     ·have Jy:(x1.toNat:Int)<(LO:Int):=by omega
      go_big_quiet (fail);go_wp2_with fail;go_meet;exact⟨dJ Value.bool (cj (p:=t.size<4∨x1.toNat<LO∨HI<x1.toNat∨x2.toNat<128∨191<x2.toNat∨x3.toNat<128∨191<x3.toNat) (by omega)).symm,((ah wr).alloc _).drewN _⟩
     have Jy:¬ ((x1.toNat:Int)<(LO:Int)):=by omega
     by_cases q2:HI<x1.toNat
     ·have Jz:(HI:Int)<(x1.toNat:Int):=by omega
      go_big_quiet (fail);go_wp2_with fail;go_meet;exact⟨dJ Value.bool (cj (p:=t.size<4∨x1.toNat<LO∨HI<x1.toNat∨x2.toNat<128∨191<x2.toNat∨x3.toNat<128∨191<x3.toNat) (by omega)).symm,((ah wr).alloc _).drewN _⟩
     have Jz:¬ ((HI:Int)<(x1.toNat:Int)):=by omega
     by_cases q3:x2.toNat<128
     ·have UJ:(x2.toNat:Int)<128:=by omega
      go_big_quiet (fail);go_wp2_with fail;go_meet;exact⟨dJ Value.bool (cj (p:=t.size<4∨x1.toNat<LO∨HI<x1.toNat∨x2.toNat<128∨191<x2.toNat∨x3.toNat<128∨191<x3.toNat) (by omega)).symm,((ah wr).alloc _).drewN _⟩
     have UJ:¬ ((x2.toNat:Int)<128):=by omega
     by_cases q4:191<x2.toNat
     ·have UK:(191:Int)<(x2.toNat:Int):=by omega
      go_big_quiet (fail);go_wp2_with fail;go_meet;exact⟨dJ Value.bool (cj (p:=t.size<4∨x1.toNat<LO∨HI<x1.toNat∨x2.toNat<128∨191<x2.toNat∨x3.toNat<128∨191<x3.toNat) (by omega)).symm,((ah wr).alloc _).drewN _⟩
     have UK:¬ ((191:Int)<(x2.toNat:Int)):=by omega
     by_cases q5:x3.toNat<128
     ·have q5z:(x3.toNat:Int)<128:=by omega
      go_big_quiet (fail);go_wp2_with fail;go_meet;exact⟨dJ Value.bool (cj (p:=t.size<4∨x1.toNat<LO∨HI<x1.toNat∨x2.toNat<128∨191<x2.toNat∨x3.toNat<128∨191<x3.toNat) (by omega)).symm,((ah wr).alloc _).drewN _⟩
     have q5z:¬ ((x3.toNat:Int)<128):=by omega
     by_cases q6:191<x3.toNat
     ·have q6z:(191:Int)<(x3.toNat:Int):=by omega
      go_big_quiet (fail);go_wp2_with fail;go_meet;exact⟨dJ Value.bool (cj (p:=t.size<4∨x1.toNat<LO∨HI<x1.toNat∨x2.toNat<128∨191<x2.toNat∨x3.toNat<128∨191<x3.toNat) (by omega)).symm,((ah wr).alloc _).drewN _⟩
     have q6z:¬ ((191:Int)<(x3.toNat:Int)):=by omega
     go_big_quiet (fail);go_wp2_with fail;go_meet;exact⟨dJ Value.bool (cm (p:=t.size<4∨x1.toNat<LO∨HI<x1.toNat∨x2.toNat<128∨191<x2.toNat∨x3.toNat<128∨191<x3.toNat) (by omega)).symm,((ah wr).alloc _).drewN _⟩
    obtain⟨rfl,hbc⟩:=hcut;have aQ:=aa hbc;clear hbc;have hl2:=qI.o;by_cases hb:t.size<4∨x1.toNat<LO∨HI<x1.toNat∨x2.toNat<128∨191<x2.toNat∨x3.toNat<128∨191<x3.toNat
    ·have JA:decide (t.size<4∨x1.toNat<LO∨HI<x1.toNat∨x2.toNat<128∨191<x2.toNat∨x3.toNat<128∨191<x3.toNat)=true:=cj hb;rw[aD hb] at hl2;go_wp2_with fail
     all_goals (go_ret;exact⟨by first | rfl | rw[hl2],HG.o.trans aQ.o⟩)
    have JA:decide (t.size<4∨x1.toNat<LO∨HI<x1.toNat∨x2.toNat<128∨191<x2.toNat∨x3.toNat<128∨191<x3.toNat)=false:=cm hb;rw[ak hb] at hl2;have H2:=aa hl2;clear hl2 qI;by_cases ht:t.size=4
    ·go_wp2_with fail;go_roundg g';exact⟨HG.o.trans aQ.o,t.extract 4 t.size,some ⟨bk,o,none⟩,by rw[Lib.ext_size,ht],bh.empty (by rw[← Lib.size_eq,Lib.ext_size];omega),by rw[Lib.ext_list,H2.o],by rw[Lib.ext_size];omega,by rw[Lib.ext_size];omega⟩;omega
    go_wp2_with fail;go_roundg g';exact⟨HG.o.trans aQ.o,t.extract 4 t.size,some ⟨bk,o+4,none⟩,by rw[Lib.ext_size],(cP.o.grow aQ.o).skip 4,by rw[Lib.ext_list,H2.o],by rw[Lib.ext_size];omega,by rw[Lib.ext_size];omega⟩;omega
  have e2:¬ ((X:Int) % 8=2):=by omega
  have e3:¬ ((X:Int) % 8=3):=by omega
  have e4:¬ ((X:Int) % 8=4):=by omega
  have e2b:(((X:Int) % 8)==2)=false:=by simp;omega
  have e3b:(((X:Int) % 8)==3)=false:=by simp;omega
  have e4b:(((X:Int) % 8)==4)=false:=by simp;omega
  have hl2:=HL.o;simp only[Lib.checkN,s2,s3,s4,jc] at hl2;have qI:=aa hl2;clear hl2 HL;go_wp2_with fail
  all_goals (go_ret;exact⟨dw qI.o.symm,HG.o.alloc _⟩)
 have h0z:¬ ((0:Int)<(t.size:Int)):=by omega
 have ht0:t.data.toList=[]:=l5 (by rw[← Lib.size_eq];omega);have hv:=HV.o;rw[ht0,Lib.validD_nil] at hv;subst hv;go_wp2;go_ret;exact⟨rfl,HG.o⟩
end
end Go.Proofs.YtndjopkdbdcmdaaGreatDoor
