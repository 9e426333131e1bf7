/- Part 7 of the proof of pindexes_card. -/
import Derived.Test.YtndjopkdbdcmdaaGreatDoorPix1
import Derived.Lib.ValidAsc
import Derived.Shelf.Unicode.ValidAny
set_option linter.unusedVariables false
set_option linter.unusedSimpArgs false
set_option maxRecDepth 100000
set_option maxHeartbeats 12800000
namespace Go.Proofs.YtndjopkdbdcmdaaGreatDoor
section
open Go.RowKit Go.Shelf
theorem InB.cellG {w : World} {bk o : Nat} {t : ByteArray} (h : InB w (some ⟨bk,o,none⟩) t.data.toList) (i : Nat) (hi : i < t.size) : w.cell? ⟨bk,o + i,none⟩ = some (.int .u8 ((t.get! i).toNat : Int)) := by
 have hi' : i < t.data.toList.length := by rw [← Lib.size_eq];exact hi
 obtain ⟨bk',o',e,_,hc⟩ := h.at_ i hi';injection e with e;injection e with e1 e2;subst e1 e2;rw [hc];congr 3;rw [← Lib.getD_get!',List.getD_eq_getElem?_getD,List.getElem?_eq_getElem hi'];rfl
theorem InB.skip {w : World} {bk o : Nat} {t : ByteArray} (h : InB w (some ⟨bk,o,none⟩) t.data.toList) (k : Nat) : InB w (some ⟨bk,o + k,none⟩) (t.extract k t.size).data.toList := by
 refine ⟨by simp [u8s],fun h0 => ⟨bk,o + k,rfl,?_⟩⟩;intro i v hv;rw [Lib.ext_list,u8s_drop,List.getElem?_drop] at hv;have h1 : 0 < t.data.toList.length := by
  cases hl : t.data.toList with
  | nil => rw [Lib.ext_list,hl] at h0;simp at h0
  | cons x xs => simp
 obtain ⟨bk',o',e,hc⟩ := h.2 h1;injection e with e;injection e with e1 e2;subst e1 e2;have := hc (k + i) v hv;rwa [← Nat.add_assoc] at this
theorem InB.empty {w : World} {A : Option Addr} {b : List UInt8} (h : b.length = 0) : InB w A b := ⟨by simp [u8s],fun h0 => by omega⟩
theorem InB.drewN {w : World} {A : Option Addr} {b : List UInt8} (h : InB w A b) (q : Nat) : InB (w.drewN q) A b := h.grow ((Grow.refl w).drewN q)
theorem utf8word_at (t : ByteArray) (bk o n cap : Nat) (w : World) (h : InB w (some ⟨bk,o,none⟩) t.data.toList) (hn : n = t.size) (h8 : 8 ≤ t.size) (q : Nat) :
 Calls Tryz.prog 129 #[.slice (some ⟨bk,o,none⟩) n cap] (w.drewN q) fun e w' => e = .returned (.int .u64 (Lib.leNat [t.get! 0,t.get! 1,t.get! 2,t.get! 3,t.get! 4,t.get! 5,t.get! 6,t.get! 7])) ∧ ∃ m,w' = (w.drewN q).drewN m :=
 utf8word_any _ _ _ _ _ _ _ _ bk o n cap _ (by omega) ((h.drewN q).cellG 0 (by omega)) ((h.drewN q).cellG 1 (by omega)) ((h.drewN q).cellG 2 (by omega)) ((h.drewN q).cellG 3 (by omega))
  ((h.drewN q).cellG 4 (by omega)) ((h.drewN q).cellG 5 (by omega)) ((h.drewN q).cellG 6 (by omega)) ((h.drewN q).cellG 7 (by omega))
theorem valid_any (b : List UInt8) (A : Option Addr) (cap : Nat) (w : World) (hb : InB w A b) (hl : b.length ≤ 140737488355328) (hc : b.length ≤ cap)
 (hT : Lib.Utf8Tabs 0 1 w) :
 Calls Tryz.prog 88 #[.slice A b.length cap] w fun e w' => e = .returned (.bool (Lib.validD b)) ∧ Grow w w' := by
 have HB := hide hb;have HT := hide hT;clear hb hT;obtain ⟨ANS,hANS⟩ : ∃ A,Lib.validD b = A := ⟨_,rfl⟩;rw [hANS];have HA := hide hANS;clear hANS;go_enter Tryz.func88,Tryz.ntmps88;go_wp2;go_loopg [0] (b.length + 1) (fun gk s0 wx => Grow w wx ∧ ∃ (t : ByteArray) (B : Option Addr),s0 = .slice B t.size t.size ∧ InB wx B t.data.toList ∧ Lib.validD t.data.toList = ANS ∧ t.size < gk ∧ t.size ≤ 140737488355328)
 case atStart => exact ⟨Grow.refl _,⟨b.toArray⟩,A,by simp [ByteArray.size],HB.out,HA.out,by simp [ByteArray.size],by simpa [ByteArray.size] using hl⟩
 case round =>
  obtain ⟨hg,t,B,rfl,hb,hv,hgk,hts⟩ := hrel;have HG := hide hg;have HB1 := hide hb;have HV := hide hv;clear hg hb hv HA HB;by_cases h0 : 0 < t.size
  ·obtain ⟨g',rfl⟩ : ∃ g',gk = g' + 1 := ⟨gk - 1,by omega⟩;obtain ⟨x0,hx0⟩ : ∃ x0,t.get! 0 = x0 := ⟨_,rfl⟩;obtain ⟨bk,o,rfl,hbk,hc0⟩ := HB1.out.at_ 0 (by rw [← Lib.size_eq];exact h0);clear hc0;have hs0 : wr.cell? ⟨bk,o,none⟩ = some (.int .u8 (x0.toNat : Int)) := by rw [← hx0];exact HB1.out.cellG 0 h0
   have hx0lt : x0.toNat < 256 := x0.toNat_lt;by_cases hasc : x0.toNat < 128
   ·as_aux_lemma =>
     have a1 : Lib.Asc t 1 := Lib.asc_one t h0 (by rw [hx0];exact hasc);obtain ⟨t1,ht1⟩ : ∃ t1,t.extract 1 t.size = t1 := ⟨_,rfl⟩;have z1 : t1.size = t.size - 1 := by rw [← ht1,Lib.ext_size]
     have V1 := hide (show Lib.validD t1.data.toList = ANS by rw [← ht1,Lib.valid_skip t 1 a1];exact HV.out);have B1 := hide (show InB wr (some ⟨bk,o + 1,none⟩) t1.data.toList by rw [← ht1];exact HB1.out.skip 1);clear a1 hx0;by_cases h1 : t.size = 1
     ·go_wp2_with fail;go_roundg g'
      case measure => omega
      case rel => exact ⟨HG.out,t1,some ⟨bk,o,none⟩,by rw [z1,h1],InB.empty (by rw [← Lib.size_eq];omega),V1.out,by omega,by omega⟩
     by_cases c8 : 8 < t.size - 1
     ·have c8z : (8 : Int) < ((t.size - 1 : Nat) : Int) := by omega
      obtain ⟨A1,hA1⟩ : ∃ A,Lib.leNat [t1.get! 0,t1.get! 1,t1.get! 2,t1.get! 3,t1.get! 4,t1.get! 5,t1.get! 6,t1.get! 7] = A := ⟨_,rfl⟩;have lA1 : A1 < 18446744073709551616 := hA1 ▸ Lib.word_lt t1;have cA1 : ∀ q,Calls Tryz.prog 129 #[.slice (some ⟨bk,o + 1,none⟩) (t.size - 1) (t.size - 1)] (wr.drewN q) fun e w' => e = .returned (.int .u64 (A1 : Int)) ∧ ∃ m,w' = (wr.drewN q).drewN m := fun q => by rw [← hA1];exact utf8word_at t1 bk _ _ _ wr B1.out (by omega) (by omega) q
      have kA1 := Lib.word_asc t1 (by omega);rw [hA1] at kA1;have hand1 : bits .and .u64 (A1 : Int) 9259542123273814144 = ((A1 &&& 9259542123273814144 : Nat) : Int) := u64_and_nat A1 9259542123273814144 lA1 (by omega);obtain ⟨Z1,hZ1⟩ : ∃ Z1,A1 &&& 9259542123273814144 = Z1 := ⟨_,rfl⟩;rw [hZ1] at hand1 kA1;have cB := hide cA1;clear cA1;by_cases hz1 : Z1 = 0
      ·have hz1b : ((Z1 : Int) == 0) = true := by simp [hz1]
       have a8 : Lib.Asc t1 8 := kA1.1 hz1;obtain ⟨t2,ht2⟩ : ∃ t2,t1.extract 8 t1.size = t2 := ⟨_,rfl⟩;have z2 : t2.size = t.size - 1 - 8 := by rw [← ht2,Lib.ext_size,z1]
       have V2 := hide (show Lib.validD t2.data.toList = ANS by rw [← ht2,Lib.valid_skip t1 8 a8];exact V1.out);have B2 := hide (show InB wr (some ⟨bk,o + 1 + 8,none⟩) t2.data.toList by rw [← ht2];exact B1.out.skip 8);clear kA1 a8 V1;by_cases c16 : 16 < t.size - 1 - 8
       ·have c16z : (16 : Int) < ((t.size - 1 - 8 : Nat) : Int) := by omega
        go_wp2_with (go_at_call 129;refine (cB.out 0).mono ?_;rintro e w' ⟨rfl,q1,rfl⟩);have HG1 := hide ((HG.out.drewN 0).drewN q1);clear cB HG;have HGq := hide (show Grow w (wr.drewN q1) from HG1.out);have Bq := hide (show InB (wr.drewN q1) (some ⟨bk,o + 1 + 8,none⟩) t2.data.toList from (B2.out.drewN 0).drewN q1);clear HG1 hc B1 HB1 HV hs0 B2;generalize wr.drewN q1 = wq at HGq Bq ⊢;have c16b : decide ((16 : Int) < ((t.size - 1 - 8 : Nat) : Int)) = true := decide_eq_true c16z;obtain ⟨t2b,ht2b⟩ : ∃ t2b,t2.extract 8 t2.size = t2b := ⟨_,rfl⟩;have z2b : t2b.size = t.size - 1 - 8 - 8 := by rw [← ht2b,Lib.ext_size,z2]
        have Bqb := hide (show InB wq (some ⟨bk,o + 1 + 8 + 8,none⟩) t2b.data.toList by rw [← ht2b];exact Bq.out.skip 8);obtain ⟨A2,hA2⟩ : ∃ A,Lib.leNat [t2.get! 0,t2.get! 1,t2.get! 2,t2.get! 3,t2.get! 4,t2.get! 5,t2.get! 6,t2.get! 7] = A := ⟨_,rfl⟩;have lA2 : A2 < 18446744073709551616 := hA2 ▸ Lib.word_lt t2;have cA2 : ∀ q,Calls Tryz.prog 129 #[.slice (some ⟨bk,o + 1 + 8,none⟩) (t.size - 1 - 8) (t.size - 1 - 8)] (wq.drewN q) fun e w' => e = .returned (.int .u64 (A2 : Int)) ∧ ∃ m,w' = (wq.drewN q).drewN m := fun q => by rw [← hA2];exact utf8word_at t2 bk _ _ _ wq Bq.out (by omega) (by omega) q
        have kA2 := Lib.word_asc t2 (by omega);rw [hA2] at kA2;obtain ⟨A3,hA3⟩ : ∃ A,Lib.leNat [t2b.get! 0,t2b.get! 1,t2b.get! 2,t2b.get! 3,t2b.get! 4,t2b.get! 5,t2b.get! 6,t2b.get! 7] = A := ⟨_,rfl⟩;have lA3 : A3 < 18446744073709551616 := hA3 ▸ Lib.word_lt t2b;have cA3 : ∀ q,Calls Tryz.prog 129 #[.slice (some ⟨bk,o + 1 + 8 + 8,none⟩) (t.size - 1 - 8 - 8) (t.size - 1 - 8 - 8)] (wq.drewN q) fun e w' => e = .returned (.int .u64 (A3 : Int)) ∧ ∃ m,w' = (wq.drewN q).drewN m := fun q => by rw [← hA3];exact utf8word_at t2b bk _ _ _ wq Bqb.out (by omega) (by omega) q
        have kA3 := Lib.word_asc t2b (by omega);rw [hA3] at kA3;have hor2 : bits .or .u64 (A2 : Int) (A3 : Int) = ((A2 ||| A3 : Nat) : Int) := u64_or_nat A2 A3 lA2 lA3;have lor2 : A2 ||| A3 < 18446744073709551616 := Nat.or_lt_two_pow (n := 64) lA2 lA3;have hand2 : bits .and .u64 ((A2 ||| A3 : Nat) : Int) 9259542123273814144 = (((A2 ||| A3) &&& 9259542123273814144 : Nat) : Int) := u64_and_nat _ 9259542123273814144 lor2 (by omega);have k2 : (A2 ||| A3) &&& 9259542123273814144 = 0 → Lib.Asc t2 16 := fun h0' => by
         obtain ⟨e1,e2⟩ := (Lib.or_mask A2 A3 _).1 h0';exact Lib.asc_add t2 8 8 (kA2.1 e1) (by rw [ht2b];exact kA3.1 e2)
        obtain ⟨O2,hO2⟩ : ∃ O2,A2 ||| A3 = O2 := ⟨_,rfl⟩;rw [hO2] at hor2 hand2 k2;obtain ⟨Z2,hZ2⟩ : ∃ Z2,O2 &&& 9259542123273814144 = Z2 := ⟨_,rfl⟩;rw [hZ2] at hand2 k2;have K2 := hide cA2;have K3 := hide cA3;clear kA2 kA3 lor2 hO2 hZ2 cA2 cA3;by_cases hz2 : Z2 = 0
        ·have hz2b : ((Z2 : Int) == 0) = true := by simp [hz2]
         have a16 := k2 hz2;obtain ⟨t3,ht3⟩ : ∃ t3,t2.extract 16 t2.size = t3 := ⟨_,rfl⟩;have z3 : t3.size = t.size - 1 - 8 - 16 := by rw [← ht3,Lib.ext_size,z2]
         have V3 := hide (show Lib.validD t3.data.toList = ANS by rw [← ht3,Lib.valid_skip t2 16 a16];exact V2.out);have B3 := hide (show InB wq (some ⟨bk,o + 1 + 8 + 16,none⟩) t3.data.toList by rw [← ht3];exact Bq.out.skip 16);clear k2 a16 V2;have s8z : (8 : Int) ≤ ((t.size - 1 - 8 : Nat) : Int) := by omega
         have s8n : ¬ (t.size - 1 - 8 = 8) := by omega
         have s8m : 8 ≤ t.size - 1 - 8 := by omega
         go_big_quiet (first | (go_at_call 129;with_reducible refine Calls.quiet_of (K2.out _)) | (go_at_call 129;with_reducible refine Calls.quiet_of (K3.out _)));have HG2 := hide (HGq.out.drewN nq);have B3q := hide (B3.out.drewN nq);clear K2 K3 HGq B3 Bq Bqb;generalize wq.drewN nq = wq2 at HG2 B3q ⊢;go_wp2_with fail;go_loopg [0] (t3.size + 1) (fun g2 s0 wx => Grow w wx ∧ ∃ (u : ByteArray) (B : Option Addr),s0 = .slice B u.size u.size ∧ InB wx B u.data.toList ∧ Lib.validD u.data.toList = ANS ∧ u.size < g2 ∧ u.size ≤ t3.size)
         case atStart => exact ⟨HG2.out,t3,_,by rw [z3],B3q.out,V3.out,by omega,Nat.le_refl _⟩
         case round =>
          obtain ⟨hgu,u,B,rfl,hbu,vu,hlu,hut⟩ := hrel;have HU := hide hgu;have BU := hide hbu;have VU := hide vu;clear hgu hbu vu;by_cases c32 : 32 < u.size
          ·obtain ⟨g3,rfl⟩ : ∃ g3,gk = g3 + 1 := ⟨gk - 1,by omega⟩;have c32z : (32 : Int) < (u.size : Int) := by omega
           have c32b : decide ((32 : Int) < (u.size : Int)) = true := decide_eq_true c32z;obtain ⟨bu,ou,rfl,hbu,hcu⟩ := BU.out.at_ 0 (by rw [← Lib.size_eq];omega);clear hcu;obtain ⟨ub,hub⟩ : ∃ ub,u.extract 8 u.size = ub := ⟨_,rfl⟩;have zub : ub.size = u.size - 8 := by rw [← hub,Lib.ext_size]
           have Bub := hide (show InB wr (some ⟨bu,ou + 8,none⟩) ub.data.toList by rw [← hub];exact BU.out.skip 8);obtain ⟨uc,huc⟩ : ∃ uc,u.extract 16 u.size = uc := ⟨_,rfl⟩;have zuc : uc.size = u.size - 16 := by rw [← huc,Lib.ext_size]
           have Buc := hide (show InB wr (some ⟨bu,ou + 16,none⟩) uc.data.toList by rw [← huc];exact BU.out.skip 16);obtain ⟨ud,hud⟩ : ∃ ud,u.extract 24 u.size = ud := ⟨_,rfl⟩;have zud : ud.size = u.size - 24 := by rw [← hud,Lib.ext_size]
           have Bud := hide (show InB wr (some ⟨bu,ou + 24,none⟩) ud.data.toList by rw [← hud];exact BU.out.skip 24);obtain ⟨E0,hE0⟩ : ∃ A,Lib.leNat [u.get! 0,u.get! 1,u.get! 2,u.get! 3,u.get! 4,u.get! 5,u.get! 6,u.get! 7] = A := ⟨_,rfl⟩;have lE0 : E0 < 18446744073709551616 := hE0 ▸ Lib.word_lt u;have cE0 : ∀ q,Calls Tryz.prog 129 #[.slice (some ⟨bu,ou,none⟩) (u.size) (u.size)] (wr.drewN q) fun e w' => e = .returned (.int .u64 (E0 : Int)) ∧ ∃ m,w' = (wr.drewN q).drewN m := fun q => by rw [← hE0];exact utf8word_at u bu _ _ _ wr BU.out (by omega) (by omega) q
           have kE0 := Lib.word_asc u (by omega);rw [hE0] at kE0;obtain ⟨E1,hE1⟩ : ∃ A,Lib.leNat [ub.get! 0,ub.get! 1,ub.get! 2,ub.get! 3,ub.get! 4,ub.get! 5,ub.get! 6,ub.get! 7] = A := ⟨_,rfl⟩;have lE1 : E1 < 18446744073709551616 := hE1 ▸ Lib.word_lt ub;have cE1 : ∀ q,Calls Tryz.prog 129 #[.slice (some ⟨bu,ou + 8,none⟩) (u.size - 8) (u.size - 8)] (wr.drewN q) fun e w' => e = .returned (.int .u64 (E1 : Int)) ∧ ∃ m,w' = (wr.drewN q).drewN m := fun q => by rw [← hE1];exact utf8word_at ub bu _ _ _ wr Bub.out (by omega) (by omega) q
           have kE1 := Lib.word_asc ub (by omega);rw [hE1] at kE1;obtain ⟨E2,hE2⟩ : ∃ A,Lib.leNat [uc.get! 0,uc.get! 1,uc.get! 2,uc.get! 3,uc.get! 4,uc.get! 5,uc.get! 6,uc.get! 7] = A := ⟨_,rfl⟩;have lE2 : E2 < 18446744073709551616 := hE2 ▸ Lib.word_lt uc;have cE2 : ∀ q,Calls Tryz.prog 129 #[.slice (some ⟨bu,ou + 16,none⟩) (u.size - 16) (u.size - 16)] (wr.drewN q) fun e w' => e = .returned (.int .u64 (E2 : Int)) ∧ ∃ m,w' = (wr.drewN q).drewN m := fun q => by rw [← hE2];exact utf8word_at uc bu _ _ _ wr Buc.out (by omega) (by omega) q
           have kE2 := Lib.word_asc uc (by omega);rw [hE2] at kE2;obtain ⟨E3,hE3⟩ : ∃ A,Lib.leNat [ud.get! 0,ud.get! 1,ud.get! 2,ud.get! 3,ud.get! 4,ud.get! 5,ud.get! 6,ud.get! 7] = A := ⟨_,rfl⟩;have lE3 : E3 < 18446744073709551616 := hE3 ▸ Lib.word_lt ud;have cE3 : ∀ q,Calls Tryz.prog 129 #[.slice (some ⟨bu,ou + 24,none⟩) (u.size - 24) (u.size - 24)] (wr.drewN q) fun e w' => e = .returned (.int .u64 (E3 : Int)) ∧ ∃ m,w' = (wr.drewN q).drewN m := fun q => by rw [← hE3];exact utf8word_at ud bu _ _ _ wr Bud.out (by omega) (by omega) q
           have kE3 := Lib.word_asc ud (by omega);rw [hE3] at kE3;have ho1 : bits .or .u64 (E0 : Int) (E1 : Int) = ((E0 ||| E1 : Nat) : Int) := u64_or_nat E0 E1 lE0 lE1;have ho2 : bits .or .u64 (E2 : Int) (E3 : Int) = ((E2 ||| E3 : Nat) : Int) := u64_or_nat E2 E3 lE2 lE3;have lo1 : E0 ||| E1 < 18446744073709551616 := Nat.or_lt_two_pow (n := 64) lE0 lE1;have lo2 : E2 ||| E3 < 18446744073709551616 := Nat.or_lt_two_pow (n := 64) lE2 lE3;have ho3 : bits .or .u64 ((E0 ||| E1 : Nat) : Int) ((E2 ||| E3 : Nat) : Int) = (((E0 ||| E1) ||| (E2 ||| E3) : Nat) : Int) := u64_or_nat _ _ lo1 lo2;have lo3 : (E0 ||| E1) ||| (E2 ||| E3) < 18446744073709551616 := Nat.or_lt_two_pow (n := 64) lo1 lo2
           have hand3 : bits .and .u64 (((E0 ||| E1) ||| (E2 ||| E3) : Nat) : Int) 9259542123273814144 = ((((E0 ||| E1) ||| (E2 ||| E3)) &&& 9259542123273814144 : Nat) : Int) := u64_and_nat _ 9259542123273814144 lo3 (by omega);have k3 : ((E0 ||| E1) ||| (E2 ||| E3)) &&& 9259542123273814144 = 0 → Lib.Asc u 32 := fun h0' => by
            obtain ⟨e01,e23⟩ := (Lib.or_mask _ _ _).1 h0';obtain ⟨e0,e1⟩ := (Lib.or_mask _ _ _).1 e01;obtain ⟨e2,e3⟩ := (Lib.or_mask _ _ _).1 e23;have s16 : Lib.Asc u 16 := Lib.asc_add u 8 8 (kE0.1 e0) (by rw [hub];exact kE1.1 e1);have s24 : Lib.Asc u 24 := Lib.asc_add u 16 8 s16 (by rw [huc];exact kE2.1 e2);exact Lib.asc_add u 24 8 s24 (by rw [hud];exact kE3.1 e3)
           obtain ⟨P1,hP1⟩ : ∃ P1,E0 ||| E1 = P1 := ⟨_,rfl⟩;obtain ⟨P2,hP2⟩ : ∃ P2,E2 ||| E3 = P2 := ⟨_,rfl⟩;rw [hP1,hP2] at ho3 hand3 k3;rw [hP1] at ho1;rw [hP2] at ho2;obtain ⟨P3,hP3⟩ : ∃ P3,P1 ||| P2 = P3 := ⟨_,rfl⟩;rw [hP3] at ho3 hand3 k3;obtain ⟨Z3,hZ3⟩ : ∃ Z3,P3 &&& 9259542123273814144 = Z3 := ⟨_,rfl⟩;rw [hZ3] at hand3 k3;have D0 := hide cE0;have D1 := hide cE1;have D2 := hide cE2;have D3 := hide cE3;have s8z : (8 : Int) ≤ (u.size : Int) := by omega
           have s8n : ¬ (u.size = 8) := by omega
           have s8m : 8 ≤ u.size := by omega
           have s16z : (16 : Int) ≤ (u.size : Int) := by omega
           have s16n : ¬ (u.size = 16) := by omega
           have s16m : 16 ≤ u.size := by omega
           have s24z : (24 : Int) ≤ (u.size : Int) := by omega
           have s24n : ¬ (u.size = 24) := by omega
           have s24m : 24 ≤ u.size := by omega
           clear kE0 kE1 kE2 kE3 lo1 lo2 lo3 hP1 hP2 hP3 hZ3 cE0 cE1 cE2 cE3;by_cases hz3 : Z3 = 0
           ·have hz3b : ((Z3 : Int) == 0) = true := by simp [hz3]
            have a32 := k3 hz3;obtain ⟨u2,hu2⟩ : ∃ u2,u.extract 32 u.size = u2 := ⟨_,rfl⟩;have zu2 : u2.size = u.size - 32 := by rw [← hu2,Lib.ext_size]
            have vu2 := hide (show Lib.validD u2.data.toList = ANS by rw [← hu2,Lib.valid_skip u 32 a32];exact VU.out);have Bu2 := hide (show InB wr (some ⟨bu,ou + 32,none⟩) u2.data.toList by rw [← hu2];exact BU.out.skip 32);clear k3 a32;go_wp2_with fail;go_big_quiet (first | (go_at_call 129;with_reducible refine Calls.quiet_of (D0.out _)) | (go_at_call 129;with_reducible refine Calls.quiet_of (D1.out _)) | (go_at_call 129;with_reducible refine Calls.quiet_of (D2.out _)) | (go_at_call 129;with_reducible refine Calls.quiet_of (D3.out _)));go_wp2_with fail;go_roundg g3
            case measure => omega
            case rel => exact ⟨HU.out.drewN nq,u2,some ⟨bu,ou + 32,none⟩,by rw [zu2],Bu2.out.drewN nq,vu2.out,by omega,by omega⟩
           have hz3b : ((Z3 : Int) == 0) = false := by simp;omega
           clear k3;go_wp2_with fail;go_big_quiet (first | (go_at_call 129;with_reducible refine Calls.quiet_of (D0.out _)) | (go_at_call 129;with_reducible refine Calls.quiet_of (D1.out _)) | (go_at_call 129;with_reducible refine Calls.quiet_of (D2.out _)) | (go_at_call 129;with_reducible refine Calls.quiet_of (D3.out _)));go_wp2_with fail;go_roundg g'
           case measure => omega
           case rel => exact ⟨HU.out.drewN nq,u,some ⟨bu,ou,none⟩,rfl,BU.out.drewN nq,VU.out,by omega,by omega⟩
          have c32z : ¬ ((32 : Int) < (u.size : Int)) := by omega
          have c32b : decide ((32 : Int) < (u.size : Int)) = false := decide_eq_false c32z;go_wp2_with fail;go_big_quiet (fail);go_wp2_with fail;go_roundg g'
          case measure => omega
          case rel => exact ⟨HU.out.drewN nq,u,B,rfl,BU.out.drewN nq,VU.out,by omega,by omega⟩
        have hz2b : ((Z2 : Int) == 0) = false := by simp;omega
        have s8z : (8 : Int) ≤ ((t.size - 1 - 8 : Nat) : Int) := by omega
        have s8n : ¬ (t.size - 1 - 8 = 8) := by omega
        have s8m : 8 ≤ t.size - 1 - 8 := by omega
        go_big_quiet (first | (go_at_call 129;with_reducible refine Calls.quiet_of (K2.out _)) | (go_at_call 129;with_reducible refine Calls.quiet_of (K3.out _)));go_wp2_with fail;go_roundg g'
        case measure => omega
        case rel => exact ⟨HGq.out.drewN nq,t2,some ⟨bk,o + 1 + 8,none⟩,by rw [z2],Bq.out.drewN nq,V2.out,by omega,by omega⟩
       have c16z : ¬ ((16 : Int) < ((t.size - 1 - 8 : Nat) : Int)) := by omega
       have c16b : decide ((16 : Int) < ((t.size - 1 - 8 : Nat) : Int)) = false := decide_eq_false c16z;go_wp2_with (go_at_call 129;refine (cB.out 0).mono ?_;rintro e w' ⟨rfl,q1,rfl⟩);have HG1 := hide ((HG.out.drewN 0).drewN q1);clear cB HG;go_big_quiet (fail);go_wp2_with fail;go_roundg g'
       case measure => omega
       case rel => exact ⟨HG1.out.drewN nq,t2,some ⟨bk,o + 1 + 8,none⟩,by rw [z2],((B2.out.drewN 0).drewN q1).drewN nq,V2.out,by omega,by omega⟩
      have hz1b : ((Z1 : Int) == 0) = false := by simp;omega
      go_wp2_with (go_at_call 129;refine (cB.out 0).mono ?_;rintro e w' ⟨rfl,q1,rfl⟩);have HG1 := hide ((HG.out.drewN 0).drewN q1);clear cB HG;go_roundg g'
      case measure => omega
      case rel => exact ⟨HG1.out,t1,some ⟨bk,o + 1,none⟩,by rw [z1],(B1.out.drewN 0).drewN q1,V1.out,by omega,by omega⟩
     have c8z : ¬ ((8 : Int) < ((t.size - 1 : Nat) : Int)) := by omega
     go_wp2_with fail;go_roundg g'
     case measure => omega
     case rel => exact ⟨HG.out,t1,some ⟨bk,o + 1,none⟩,by rw [z1],B1.out,V1.out,by omega,by omega⟩
   have hge : 128 ≤ x0.toNat := by omega
   obtain ⟨x1,hx1⟩ : ∃ x1,t.get! 1 = x1 := ⟨_,rfl⟩;obtain ⟨x2,hx2⟩ : ∃ x2,t.get! 2 = x2 := ⟨_,rfl⟩;obtain ⟨x3,hx3⟩ : ∃ x3,t.get! 3 = x3 := ⟨_,rfl⟩;have l1 := x1.toNat_lt;have l2 := x2.toNat_lt;have l3 := x3.toNat_lt;have hne : t.data.toList ≠ [] := fun h => by rw [Lib.size_eq,h] at h0;simp at h0
   have hlead := Lib.validD_lead t.data.toList hne (by rw [Lib.getD_get!',hx0];exact hge);rw [Lib.getD_get!',Lib.getD_get!',Lib.getD_get!',Lib.getD_get!',hx0,hx1,hx2,hx3,← Lib.size_eq,HV.out] at hlead;have hTr := Utf8Tabs_below HT.out HG.out;have hc0 := hTr.1 x0.toNat hx0lt;have hXlt : Lib.firstT x0.toNat < 256 := by rcases Lib.firstT_cases x0.toNat with h | h | h | h | h | h | h | h | h <;> omega
   obtain ⟨X,hX⟩ : ∃ X,Lib.firstT x0.toNat = X := ⟨_,rfl⟩;rw [hX] at hc0 hXlt hlead;have h7 := and7 ⟨X,hXlt⟩;simp only at h7;have ha0 : wr.cell? ⟨1,X / 16 * 2,none⟩ = some (.int .u8 (Lib.accLo (X / 16))) := by rw [Nat.mul_comm];exact (hTr.2 (X / 16) (by omega)).1
   have ha1 : wr.cell? ⟨1,X / 16 * 2 + 1,none⟩ = some (.int .u8 (Lib.accHi (X / 16))) := by rw [Nat.mul_comm];exact (hTr.2 (X / 16) (by omega)).2
   obtain ⟨LO,hLO⟩ : ∃ LO,Lib.accLo (X / 16) = LO := ⟨_,rfl⟩;obtain ⟨HI,hHI⟩ : ∃ HI,Lib.accHi (X / 16) = HI := ⟨_,rfl⟩;rw [hLO] at ha0 hlead;rw [hHI] at ha1 hlead;obtain ⟨SZ,hSZ⟩ : ∃ SZ,X % 8 = SZ := ⟨_,rfl⟩;rw [hSZ] at hlead;have HL := hide hlead;clear hTr hX hLO hHI hne HV HT hlead;by_cases s2 : SZ = 2
   ·as_aux_lemma =>
     subst s2;have hSZz : (X : Int) % 8 = 2 := by omega
     have hl2 := HL.out;simp only [Lib.checkN,Nat.reduceEqDiff,if_true,if_false] at hl2;have HL2 := hide hl2;clear hl2 HL;go_upto_region 18 with fail;go_cut [103] from 85 to 103 (fun c wx => c = .bool (decide (t.size < 2 ∨ x1.toNat < LO ∨ HI < x1.toNat)) ∧ Grow wr wx)
     case first =>
      by_cases q0 : t.size < 2
      ·have q0z : (t.size : Int) < 2 := by omega
       go_big_quiet (fail);go_wp2_with fail;go_meet;exact ⟨congrArg Value.bool (decide_eq_true (p := t.size < 2 ∨ x1.toNat < LO ∨ HI < x1.toNat) (by omega)).symm,((Grow.refl wr).alloc _).drewN _⟩
      have q0z : ¬ ((t.size : Int) < 2) := by omega
      have hz1 : (1 : Int) < (t.size : Int) := by omega
      have hp1 : 1 < t.size := by omega
      have hs1 : wr.cell? ⟨bk,o + 1,none⟩ = some (.int .u8 (x1.toNat : Int)) := by rw [← hx1];exact HB1.out.cellG 1 (by omega)
      by_cases q1 : x1.toNat < LO
      ·have q1z : (x1.toNat : Int) < (LO : Int) := by omega
       go_big_quiet (fail);go_wp2_with fail;go_meet;exact ⟨congrArg Value.bool (decide_eq_true (p := t.size < 2 ∨ x1.toNat < LO ∨ HI < x1.toNat) (by omega)).symm,((Grow.refl wr).alloc _).drewN _⟩
      have q1z : ¬ ((x1.toNat : Int) < (LO : Int)) := by omega
      by_cases q2 : HI < x1.toNat
      ·have q2z : (HI : Int) < (x1.toNat : Int) := by omega
       go_big_quiet (fail);go_wp2_with fail;go_meet;exact ⟨congrArg Value.bool (decide_eq_true (p := t.size < 2 ∨ x1.toNat < LO ∨ HI < x1.toNat) (by omega)).symm,((Grow.refl wr).alloc _).drewN _⟩
      have q2z : ¬ ((HI : Int) < (x1.toNat : Int)) := by omega
      go_big_quiet (fail);go_wp2_with fail;go_meet;exact ⟨congrArg Value.bool (decide_eq_false (p := t.size < 2 ∨ x1.toNat < LO ∨ HI < x1.toNat) (by omega)).symm,((Grow.refl wr).alloc _).drewN _⟩
     case rest =>
      obtain ⟨rfl,hbc⟩ := hcut;have HBC := hide hbc;clear hbc;have hl2 := HL2.out;by_cases hb : t.size < 2 ∨ x1.toNat < LO ∨ HI < x1.toNat
      ·have hbd : decide (t.size < 2 ∨ x1.toNat < LO ∨ HI < x1.toNat) = true := decide_eq_true hb;rw [if_pos hb] at hl2;go_wp2_with fail
       all_goals (go_ret;exact ⟨by first | rfl | rw [hl2],HG.out.trans HBC.out⟩)
      have hbd : decide (t.size < 2 ∨ x1.toNat < LO ∨ HI < x1.toNat) = false := decide_eq_false hb;rw [if_neg hb] at hl2;have H2 := hide hl2;clear hl2 HL2;by_cases ht : t.size = 2
      ·go_wp2_with fail;go_roundg g'
       case measure => omega
       case rel => exact ⟨HG.out.trans HBC.out,t.extract 2 t.size,some ⟨bk,o,none⟩,by rw [Lib.ext_size,ht],InB.empty (by rw [← Lib.size_eq,Lib.ext_size];omega),by rw [Lib.ext_list,H2.out],by rw [Lib.ext_size];omega,by rw [Lib.ext_size];omega⟩
      go_wp2_with fail;go_roundg g'
      case measure => omega
      case rel => exact ⟨HG.out.trans HBC.out,t.extract 2 t.size,some ⟨bk,o + 2,none⟩,by rw [Lib.ext_size],(HB1.out.grow HBC.out).skip 2,by rw [Lib.ext_list,H2.out],by rw [Lib.ext_size];omega,by rw [Lib.ext_size];omega⟩
   by_cases s3 : SZ = 3
   ·as_aux_lemma =>
     subst s3;have hSZz : (X : Int) % 8 = 3 := by omega
     have hl2 := HL.out;simp only [Lib.checkN,Nat.reduceEqDiff,if_true,if_false] at hl2;have HL2 := hide hl2;clear hl2 HL;go_upto_region 22 with fail;go_cut [138] from 108 to 138 (fun c wx => c = .bool (decide (t.size < 3 ∨ x1.toNat < LO ∨ HI < x1.toNat ∨ x2.toNat < 128 ∨ 191 < x2.toNat)) ∧ Grow wr wx)
     case first =>
      by_cases q0 : t.size < 3
      ·have q0z : (t.size : Int) < 3 := by omega
       go_big_quiet (fail);go_wp2_with fail;go_meet;exact ⟨congrArg Value.bool (decide_eq_true (p := t.size < 3 ∨ x1.toNat < LO ∨ HI < x1.toNat ∨ x2.toNat < 128 ∨ 191 < x2.toNat) (by omega)).symm,((Grow.refl wr).alloc _).drewN _⟩
      have q0z : ¬ ((t.size : Int) < 3) := by omega
      have hz1 : (1 : Int) < (t.size : Int) := by omega
      have hp1 : 1 < t.size := by omega
      have hs1 : wr.cell? ⟨bk,o + 1,none⟩ = some (.int .u8 (x1.toNat : Int)) := by rw [← hx1];exact HB1.out.cellG 1 (by omega)
      have hz2 : (2 : Int) < (t.size : Int) := by omega
      have hp2 : 2 < t.size := by omega
      have hs2 : wr.cell? ⟨bk,o + 2,none⟩ = some (.int .u8 (x2.toNat : Int)) := by rw [← hx2];exact HB1.out.cellG 2 (by omega)
      by_cases q1 : x1.toNat < LO
      ·have q1z : (x1.toNat : Int) < (LO : Int) := by omega
       go_big_quiet (fail);go_wp2_with fail;go_meet;exact ⟨congrArg Value.bool (decide_eq_true (p := t.size < 3 ∨ x1.toNat < LO ∨ HI < x1.toNat ∨ x2.toNat < 128 ∨ 191 < x2.toNat) (by omega)).symm,((Grow.refl wr).alloc _).drewN _⟩
      have q1z : ¬ ((x1.toNat : Int) < (LO : Int)) := by omega
      by_cases q2 : HI < x1.toNat
      ·have q2z : (HI : Int) < (x1.toNat : Int) := by omega
       go_big_quiet (fail);go_wp2_with fail;go_meet;exact ⟨congrArg Value.bool (decide_eq_true (p := t.size < 3 ∨ x1.toNat < LO ∨ HI < x1.toNat ∨ x2.toNat < 128 ∨ 191 < x2.toNat) (by omega)).symm,((Grow.refl wr).alloc _).drewN _⟩
      have q2z : ¬ ((HI : Int) < (x1.toNat : Int)) := by omega
      by_cases q3 : x2.toNat < 128
      ·have q3z : (x2.toNat : Int) < 128 := by omega
       go_big_quiet (fail);go_wp2_with fail;go_meet;exact ⟨congrArg Value.bool (decide_eq_true (p := t.size < 3 ∨ x1.toNat < LO ∨ HI < x1.toNat ∨ x2.toNat < 128 ∨ 191 < x2.toNat) (by omega)).symm,((Grow.refl wr).alloc _).drewN _⟩
      have q3z : ¬ ((x2.toNat : Int) < 128) := by omega
      by_cases q4 : 191 < x2.toNat
      ·have q4z : (191 : Int) < (x2.toNat : Int) := by omega
       go_big_quiet (fail);go_wp2_with fail;go_meet;exact ⟨congrArg Value.bool (decide_eq_true (p := t.size < 3 ∨ x1.toNat < LO ∨ HI < x1.toNat ∨ x2.toNat < 128 ∨ 191 < x2.toNat) (by omega)).symm,((Grow.refl wr).alloc _).drewN _⟩
      have q4z : ¬ ((191 : Int) < (x2.toNat : Int)) := by omega
      go_big_quiet (fail);go_wp2_with fail;go_meet;exact ⟨congrArg Value.bool (decide_eq_false (p := t.size < 3 ∨ x1.toNat < LO ∨ HI < x1.toNat ∨ x2.toNat < 128 ∨ 191 < x2.toNat) (by omega)).symm,((Grow.refl wr).alloc _).drewN _⟩
     case rest =>
      obtain ⟨rfl,hbc⟩ := hcut;have HBC := hide hbc;clear hbc;have hl2 := HL2.out;by_cases hb : t.size < 3 ∨ x1.toNat < LO ∨ HI < x1.toNat ∨ x2.toNat < 128 ∨ 191 < x2.toNat
      ·have hbd : decide (t.size < 3 ∨ x1.toNat < LO ∨ HI < x1.toNat ∨ x2.toNat < 128 ∨ 191 < x2.toNat) = true := decide_eq_true hb;rw [if_pos hb] at hl2;go_wp2_with fail
       all_goals (go_ret;exact ⟨by first | rfl | rw [hl2],HG.out.trans HBC.out⟩)
      have hbd : decide (t.size < 3 ∨ x1.toNat < LO ∨ HI < x1.toNat ∨ x2.toNat < 128 ∨ 191 < x2.toNat) = false := decide_eq_false hb;rw [if_neg hb] at hl2;have H2 := hide hl2;clear hl2 HL2;by_cases ht : t.size = 3
      ·go_wp2_with fail;go_roundg g'
       case measure => omega
       case rel => exact ⟨HG.out.trans HBC.out,t.extract 3 t.size,some ⟨bk,o,none⟩,by rw [Lib.ext_size,ht],InB.empty (by rw [← Lib.size_eq,Lib.ext_size];omega),by rw [Lib.ext_list,H2.out],by rw [Lib.ext_size];omega,by rw [Lib.ext_size];omega⟩
      go_wp2_with fail;go_roundg g'
      case measure => omega
      case rel => exact ⟨HG.out.trans HBC.out,t.extract 3 t.size,some ⟨bk,o + 3,none⟩,by rw [Lib.ext_size],(HB1.out.grow HBC.out).skip 3,by rw [Lib.ext_list,H2.out],by rw [Lib.ext_size];omega,by rw [Lib.ext_size];omega⟩
   by_cases s4 : SZ = 4
   ·as_aux_lemma =>
     subst s4;have hSZz : (X : Int) % 8 = 4 := by omega
     have hl2 := HL.out;simp only [Lib.checkN,Nat.reduceEqDiff,if_true,if_false] at hl2;have HL2 := hide hl2;clear hl2 HL;go_upto_region 26 with fail;go_cut [185] from 143 to 185 (fun c wx => c = .bool (decide (t.size < 4 ∨ x1.toNat < LO ∨ HI < x1.toNat ∨ x2.toNat < 128 ∨ 191 < x2.toNat ∨ x3.toNat < 128 ∨ 191 < x3.toNat)) ∧ Grow wr wx)
     case first =>
      by_cases q0 : t.size < 4
      ·have q0z : (t.size : Int) < 4 := by omega
       go_big_quiet (fail);go_wp2_with fail;go_meet;exact ⟨congrArg Value.bool (decide_eq_true (p := t.size < 4 ∨ x1.toNat < LO ∨ HI < x1.toNat ∨ x2.toNat < 128 ∨ 191 < x2.toNat ∨ x3.toNat < 128 ∨ 191 < x3.toNat) (by omega)).symm,((Grow.refl wr).alloc _).drewN _⟩
      have q0z : ¬ ((t.size : Int) < 4) := by omega
      have hz1 : (1 : Int) < (t.size : Int) := by omega
      have hp1 : 1 < t.size := by omega
      have hs1 : wr.cell? ⟨bk,o + 1,none⟩ = some (.int .u8 (x1.toNat : Int)) := by rw [← hx1];exact HB1.out.cellG 1 (by omega)
      have hz2 : (2 : Int) < (t.size : Int) := by omega
      have hp2 : 2 < t.size := by omega
      have hs2 : wr.cell? ⟨bk,o + 2,none⟩ = some (.int .u8 (x2.toNat : Int)) := by rw [← hx2];exact HB1.out.cellG 2 (by omega)
      have hz3 : (3 : Int) < (t.size : Int) := by omega
      have hp3 : 3 < t.size := by omega
      have hs3 : wr.cell? ⟨bk,o + 3,none⟩ = some (.int .u8 (x3.toNat : Int)) := by rw [← hx3];exact HB1.out.cellG 3 (by omega)
      by_cases q1 : x1.toNat < LO
      ·have q1z : (x1.toNat : Int) < (LO : Int) := by omega
       go_big_quiet (fail);go_wp2_with fail;go_meet;exact ⟨congrArg Value.bool (decide_eq_true (p := t.size < 4 ∨ x1.toNat < LO ∨ HI < x1.toNat ∨ x2.toNat < 128 ∨ 191 < x2.toNat ∨ x3.toNat < 128 ∨ 191 < x3.toNat) (by omega)).symm,((Grow.refl wr).alloc _).drewN _⟩
      have q1z : ¬ ((x1.toNat : Int) < (LO : Int)) := by omega
      by_cases q2 : HI < x1.toNat
      ·have q2z : (HI : Int) < (x1.toNat : Int) := by omega
       go_big_quiet (fail);go_wp2_with fail;go_meet;exact ⟨congrArg Value.bool (decide_eq_true (p := t.size < 4 ∨ x1.toNat < LO ∨ HI < x1.toNat ∨ x2.toNat < 128 ∨ 191 < x2.toNat ∨ x3.toNat < 128 ∨ 191 < x3.toNat) (by omega)).symm,((Grow.refl wr).alloc _).drewN _⟩
      have q2z : ¬ ((HI : Int) < (x1.toNat : Int)) := by omega
      by_cases q3 : x2.toNat < 128
      ·have q3z : (x2.toNat : Int) < 128 := by omega
       go_big_quiet (fail);go_wp2_with fail;go_meet;exact ⟨congrArg Value.bool (decide_eq_true (p := t.size < 4 ∨ x1.toNat < LO ∨ HI < x1.toNat ∨ x2.toNat < 128 ∨ 191 < x2.toNat ∨ x3.toNat < 128 ∨ 191 < x3.toNat) (by omega)).symm,((Grow.refl wr).alloc _).drewN _⟩
      have q3z : ¬ ((x2.toNat : Int) < 128) := by omega
      by_cases q4 : 191 < x2.toNat
      ·have q4z : (191 : Int) < (x2.toNat : Int) := by omega
       go_big_quiet (fail);go_wp2_with fail;go_meet;exact ⟨congrArg Value.bool (decide_eq_true (p := t.size < 4 ∨ x1.toNat < LO ∨ HI < x1.toNat ∨ x2.toNat < 128 ∨ 191 < x2.toNat ∨ x3.toNat < 128 ∨ 191 < x3.toNat) (by omega)).symm,((Grow.refl wr).alloc _).drewN _⟩
      have q4z : ¬ ((191 : Int) < (x2.toNat : Int)) := by omega
      by_cases q5 : x3.toNat < 128
      ·have q5z : (x3.toNat : Int) < 128 := by omega
       go_big_quiet (fail);go_wp2_with fail;go_meet;exact ⟨congrArg Value.bool (decide_eq_true (p := t.size < 4 ∨ x1.toNat < LO ∨ HI < x1.toNat ∨ x2.toNat < 128 ∨ 191 < x2.toNat ∨ x3.toNat < 128 ∨ 191 < x3.toNat) (by omega)).symm,((Grow.refl wr).alloc _).drewN _⟩
      have q5z : ¬ ((x3.toNat : Int) < 128) := by omega
      by_cases q6 : 191 < x3.toNat
      ·have q6z : (191 : Int) < (x3.toNat : Int) := by omega
       go_big_quiet (fail);go_wp2_with fail;go_meet;exact ⟨congrArg Value.bool (decide_eq_true (p := t.size < 4 ∨ x1.toNat < LO ∨ HI < x1.toNat ∨ x2.toNat < 128 ∨ 191 < x2.toNat ∨ x3.toNat < 128 ∨ 191 < x3.toNat) (by omega)).symm,((Grow.refl wr).alloc _).drewN _⟩
      have q6z : ¬ ((191 : Int) < (x3.toNat : Int)) := by omega
      go_big_quiet (fail);go_wp2_with fail;go_meet;exact ⟨congrArg Value.bool (decide_eq_false (p := t.size < 4 ∨ x1.toNat < LO ∨ HI < x1.toNat ∨ x2.toNat < 128 ∨ 191 < x2.toNat ∨ x3.toNat < 128 ∨ 191 < x3.toNat) (by omega)).symm,((Grow.refl wr).alloc _).drewN _⟩
     case rest =>
      obtain ⟨rfl,hbc⟩ := hcut;have HBC := hide hbc;clear hbc;have hl2 := HL2.out;by_cases hb : t.size < 4 ∨ x1.toNat < LO ∨ HI < x1.toNat ∨ x2.toNat < 128 ∨ 191 < x2.toNat ∨ x3.toNat < 128 ∨ 191 < x3.toNat
      ·have hbd : decide (t.size < 4 ∨ x1.toNat < LO ∨ HI < x1.toNat ∨ x2.toNat < 128 ∨ 191 < x2.toNat ∨ x3.toNat < 128 ∨ 191 < x3.toNat) = true := decide_eq_true hb;rw [if_pos hb] at hl2;go_wp2_with fail
       all_goals (go_ret;exact ⟨by first | rfl | rw [hl2],HG.out.trans HBC.out⟩)
      have hbd : decide (t.size < 4 ∨ x1.toNat < LO ∨ HI < x1.toNat ∨ x2.toNat < 128 ∨ 191 < x2.toNat ∨ x3.toNat < 128 ∨ 191 < x3.toNat) = false := decide_eq_false hb;rw [if_neg hb] at hl2;have H2 := hide hl2;clear hl2 HL2;by_cases ht : t.size = 4
      ·go_wp2_with fail;go_roundg g'
       case measure => omega
       case rel => exact ⟨HG.out.trans HBC.out,t.extract 4 t.size,some ⟨bk,o,none⟩,by rw [Lib.ext_size,ht],InB.empty (by rw [← Lib.size_eq,Lib.ext_size];omega),by rw [Lib.ext_list,H2.out],by rw [Lib.ext_size];omega,by rw [Lib.ext_size];omega⟩
      go_wp2_with fail;go_roundg g'
      case measure => omega
      case rel => exact ⟨HG.out.trans HBC.out,t.extract 4 t.size,some ⟨bk,o + 4,none⟩,by rw [Lib.ext_size],(HB1.out.grow HBC.out).skip 4,by rw [Lib.ext_list,H2.out],by rw [Lib.ext_size];omega,by rw [Lib.ext_size];omega⟩
   have e2 : ¬ ((X : Int) % 8 = 2) := by omega
   have e3 : ¬ ((X : Int) % 8 = 3) := by omega
   have e4 : ¬ ((X : Int) % 8 = 4) := by omega
   have e2b : (((X : Int) % 8) == 2) = false := by simp;omega
   have e3b : (((X : Int) % 8) == 3) = false := by simp;omega
   have e4b : (((X : Int) % 8) == 4) = false := by simp;omega
   have hl2 := HL.out;simp only [Lib.checkN,s2,s3,s4,if_false] at hl2;have HL2 := hide hl2;clear hl2 HL;go_wp2_with fail
   all_goals (go_ret;exact ⟨ret_bool HL2.out.symm,HG.out.alloc _⟩)
  have h0z : ¬ ((0 : Int) < (t.size : Int)) := by omega
  have ht0 : t.data.toList = [] := List.eq_nil_of_length_eq_zero (by rw [← Lib.size_eq];omega);have hv := HV.out;rw [ht0,Lib.validD_nil] at hv;subst hv;go_wp2;go_ret;exact ⟨rfl,HG.out⟩
end
end Go.Proofs.YtndjopkdbdcmdaaGreatDoor
