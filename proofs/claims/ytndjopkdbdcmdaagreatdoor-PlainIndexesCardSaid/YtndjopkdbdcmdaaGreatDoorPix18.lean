/- Part 18 of the proof of pindexes_card. -/
import Derived.Test.YtndjopkdbdcmdaaGreatDoorPix16
import Derived.Deep.Onto
set_option linter.unusedVariables false
set_option linter.unusedSimpArgs false
set_option maxRecDepth 100000
set_option maxHeartbeats 12800000
namespace Go.Proofs.YtndjopkdbdcmdaaGreatDoor
section
open Go.RowKit
theorem drop_any (N B mb cap : Nat) (A : Option Addr) (es : List Cc) (st : List Co) (q : Rq) (ck cl ch cx : Cv) (w : World) (h : Mach w B mb A cap es st q ck cl ch cx) (hok : StOk N st) (hN : N ≤ 1000000) :
 Calls Tryz.prog 80 #[.pointer (some ⟨mb,0,none⟩)] w (MethC w B mb (dropP st q)) := by
 have hs : st.length ≤ 140737488355328 := Mach.short hok;have HM := hide h;have HOK := hide hok
 cases hf : plF (cnm st) q.coll with
 | false =>
  have HC := hide (coll_m_no h hs hf);have HF := hide hf;clear h hok hf;go_enter Tryz.func80,Tryz.ntmps80;go_wp2_with fail;refine HC.out.mono ?_;rintro e w1 ⟨rfl,hg⟩;go_wp2_with fail;exact ⟨rfl,MethC.err (hg.below.mono HM.out.le) (by unfold dropP;rw [if_pos HF.out])⟩
 | true =>
  obtain ⟨gb,hA,hgb,hgl,hne⟩ := h.gb hf;have HC := hide (coll_m h hs hf hA);have hlt := (coAt_mem hf).2.2.2;have h16 := hok.n;have HF := hide hf;have HGB := hide hgb;have HNE := hide hne;have HHA := hide hA;have HAT := hide (fun w1 (hg : Grow w w1) => mat_m (h.grow hg) hs);rw [hf] at HAT;have HDEL := hide (fun w1 (hg : Grow w w1) => deleteC_any B st.length (plN (cnm st) q.coll) cap A (cellsC es) w1 (cellsC_one es) (ownG h.own.row hg) hlt (by omega));obtain ⟨P,hP⟩ : ∃ P,plN (cnm st) q.coll = P := ⟨_,rfl⟩;have HP := hide hP;rw [hP] at HC HAT HDEL hlt;have HLT := hide hlt;clear h hok hf hP hgl hlt hA hgb hne;go_enter Tryz.func80,Tryz.ntmps80;go_wp2_with fail;refine HC.out.mono ?_;rintro e w1 ⟨rfl,hg⟩;have HG := hide hg;clear hg;go_wp2_with fail;refine (HAT.out w1 HG.out).mono ?_;rintro e w2 ⟨rfl,hg2⟩;have HG2 := hide (HG.out.trans hg2);have HM2 := hide (HM.out.grow HG2.out)
  have hm := HM2.out.blk.cell;have hPi : IntKind.i64.wrap ((P : Int) + 1) = (P : Int) + 1 := by have := HLT.out;rw [IntKind.wrap_i64];omega
  clear hg2;go_wp2_with fail;refine (HDEL.out w2 HG2.out).mono ?_;rintro e w3 ⟨rfl,hown,hgr⟩;have hb3 := HM2.out.blk.own hgr (fun k hk e => by rw [ownBlock_slice,e] at hk;exact HM2.out.neA hk);have HB3 := hide hb3;have HOWN := hide hown;have HGR := hide hgr;have hm3 := hb3.cell;have hf3 := hb3.frozen;clear hown hgr hb3 hm;go_wp2_with fail;go_end0;have hlen : (delAt st P).length = st.length - 1 := del_len HLT.out;have HB := HB3.out.set_ 0 (.slice A (st.length - 1) cap);have hkS : Kept (fun q => q = mb ∨ q = gb) w2 (w3.setCell ⟨mb,0,none⟩ (.slice A (st.length - 1) cap)) :=
   ((Kept.of_grown HGR.out).mono (fun k hk => .inr (by rw [ownBlock_slice,HHA.out] at hk;cases hk;rfl))).set (p := ⟨mb,0,none⟩) (.inl rfl) _
  have hle2 : B ≤ w2.heap.size := HM2.out.le;have hbS : ∀ k,(k = mb ∨ k = gb) → B ≤ k := fun k hk => by rcases hk with rfl | rfl;exact HM.out.lo;exact HGB.out
  refine MethC.ok (docs := []) (st' := delAt st P) ((HG2.out.below.mono HM.out.le).trans (hkS.below hle2 hbS)) (by unfold dropP;rw [if_neg (by rw [HF.out];decide),HP.out]) HB.lt (A := A) (cap := cap) (dA := none) (dc := 0) ((HB.cell 0).trans (by rw [hlen];rfl)) ?_ (HB.cell 28) (HB.cell 29) (InL.nil _);refine rows_stIn (HM2.out.own.two.del P) hkS hle2 hbS (HM2.out.alien HHA.out (by have := HLT.out;omega)) (fun c hc => HOK.out.dl hN c (mem_del hc)) ?_;have hrow := own_kept HOWN.out (Kept.set (S := fun q => q = mb) (Kept.refl _ w3) (p := ⟨mb,0,none⟩) rfl (.slice A (st.length - 1) cap)) (fun g hg e => HM2.out.neA (e ▸ hg));rw [hlen];rw [show cellsC (delAt es P) = (cellsC es).take (P * 3) ++ (cellsC es).drop ((P + 1) * 3) from (fz_del _ 3 (fun _ => rfl) es P).symm];exact hrow
theorem make_close {N B mb cap P c5 : Nat} {A A5 : Option Addr} {es : List Cc} {st : List Co} {q : Rq} {ck cl ch cx : Cv} {w W w5 : World} (h0 : Mach w B mb A cap es st q ck cl ch cx) (h : Mach W B mb A cap es st q ck cl ch cx) (hP : plN (cnm st) q.coll = P) (hg : Grow w W) (hok : StOk N st) (hN : N ≤ 1000000)
 (hE : makeP st q = .ok (insAt st (plN (cnm st) q.coll) ⟨q.coll,[],[]⟩,0,[])) (hle : P ≤ st.length)
 (hb5 : Blk w5 mb 96 (mcells A st.length cap q.do_ q.coll q.index q.path q.unique ck cl ch cx q.n))
 (hown : w5.ownsRow B 48 3 (.slice A5 (st.length + 1) c5) (st.length + 1) ((cellsC es).take (P * 3) ++ (Cc.cells ⟨q.coll,none,0,0,none,0,0⟩).toList ++ (cellsC es).drop (P * 3)))
 (hgr : (W.alloc (.cells (Cc.cells ⟨q.coll,none,0,0,none,0,0⟩) 48)).grownBy w5 (Value.ownBlock (.slice A st.length cap)))
 (hat : Value.ownBlock (.slice A5 (st.length + 1) c5) = Value.ownBlock (.slice A st.length cap) ∨ Value.ownBlock (.slice A5 (st.length + 1) c5) = some (W.alloc (.cells (Cc.cells ⟨q.coll,none,0,0,none,0,0⟩) 48)).heap.size) :
 MethC w B mb (makeP st q) (.returned (.tuple #[])) (w5.setCell ⟨mb,0,none⟩ (.slice A5 (st.length + 1) c5)) := by
 have hga := (Grow.refl W).alloc (.cells (Cc.cells ⟨q.coll,none,0,0,none,0,0⟩) 48);have hA := h.grow hga;have hlen : (insAt st P (⟨q.coll,[],[]⟩ : Co)).length = st.length + 1 := ins_len;have HB := hb5.set_ 0 (.slice A5 (st.length + 1) c5);rw [ownBlock_slice] at hgr;rw [ownBlock_slice,ownBlock_slice] at hat
 have hkS : Kept (fun k => k = mb ∨ ablk A = some k) (W.alloc (.cells (Cc.cells ⟨q.coll,none,0,0,none,0,0⟩) 48)) (w5.setCell ⟨mb,0,none⟩ (.slice A5 (st.length + 1) c5)) :=
  ((Kept.of_grown hgr).mono (fun k hk => .inr hk)).set (p := ⟨mb,0,none⟩) (.inl rfl) _
 have hbS : ∀ k,(k = mb ∨ ablk A = some k) → B ≤ k := fun k hk => by
  rcases hk with rfl | hk
  ·exact h.lo
  exact (World.ownsRow.lt h.own.row k (by rw [ownBlock_slice];exact hk)).1
 have hne5 : ablk A5 ≠ some mb := fun e => by
  rcases hat with hat | hat
  ·rw [hat] at e;exact h.neA e
  rw [hat] at e;injection e with e;have := hA.lt;omega
 refine MethC.ok (docs := []) (st' := insAt st P ⟨q.coll,[],[]⟩) (((hg.trans hga).below.mono h0.le).trans (hkS.below hA.le hbS)) (by rw [hE,hP]) HB.lt (A := A5) (cap := c5) (dA := none) (dc := 0) ((HB.cell 0).trans (by rw [hlen];rfl)) ?_ (HB.cell 28) (HB.cell 29) (InL.nil _);refine rows_stIn (S := fun k => k = mb ∨ ablk A = some k) ((hA.own.two).ins P (a := ⟨q.coll,none,0,0,none,0,0⟩) ⟨rfl,rfl,rfl,⟨[],World.ownsRow_nil _ _ _ _,Two.nil⟩,World.ownsRow_nil _ _ _ _⟩) hkS hA.le hbS ?_ (fun c hc => ?_) ?_
 ·rintro k (rfl | hk)
  ·exact ⟨_,_,hA.blk,by decide,by decide⟩
  rcases hA.own.row.2 with ⟨e,-⟩ | ⟨g,cp,cur,e,-,hgg,-⟩
  ·injection e with e;rw [e] at hk;cases hk
  injection e with e;rw [e] at hk;cases hk;exact ⟨_,_,hgg,by decide,by decide⟩
 ·rcases mem_ins.1 hc with rfl | hc
  ·exact Nat.zero_le _
  exact hok.dl hN c hc
 have hrow := own_kept hown (Kept.set (S := fun q => q = mb) (Kept.refl _ w5) (p := ⟨mb,0,none⟩) rfl (.slice A5 (st.length + 1) c5)) (fun g hg e => hne5 (e ▸ hg));rw [hlen];rw [show cellsC (insAt es P ⟨q.coll,none,0,0,none,0,0⟩) = (cellsC es).take (P * 3) ++ (Cc.cells ⟨q.coll,none,0,0,none,0,0⟩).toList ++ (cellsC es).drop (P * 3) from (fz_ins _ 3 (fun _ => rfl) es P _).symm];exact hrow
theorem make_any (N B mb cap : Nat) (A : Option Addr) (es : List Cc) (st : List Co) (q : Rq) (ck cl ch cx : Cv) (w : World) (h : Mach w B mb A cap es st q ck cl ch cx) (hok : StOk N st) (hN : N ≤ 1000000) (hT : Tabs w) :
 Calls Tryz.prog 79 #[.pointer (some ⟨mb,0,none⟩)] w (MethC w B mb (makeP st q)) := by
 have hs : st.length ≤ 140737488355328 := Mach.short hok;have HM := hide h;have HOK := hide hok;have H16 := hide hok.n;have HNAME := hide (name_any q.coll w hT);have HAT := hide (fun w1 (hg : Grow w w1) => mat_m (h.grow hg) hs);have hm := h.blk.cell;have HLEP := hide (show plN (cnm st) q.coll ≤ st.length from by have := plN_le (cnm st) q.coll;rwa [List.length_map] at this);obtain ⟨NM,hNM⟩ : ∃ b,V.name q.coll = b := ⟨_,rfl⟩;obtain ⟨FF,hFF⟩ : ∃ b,plF (cnm st) q.coll = b := ⟨_,rfl⟩;rw [hNM] at HNAME;rw [hFF] at HAT;have HNM := hide hNM;have HFF := hide hFF;obtain ⟨P,hP⟩ : ∃ P,plN (cnm st) q.coll = P := ⟨_,rfl⟩;rw [hP] at HAT HLEP;have HP := hide hP;clear h hok hT hNM hFF hP;go_enter Tryz.func79,Tryz.ntmps79;go_wp2_with fail;refine HNAME.out.mono ?_;rintro e w1 ⟨rfl,hg⟩;have HG := hide hg;clear hg hm
 cases NM with
 | false =>
  go_wp2_with fail;refine (pmust_no 4 w1).mono ?_;rintro e w2 ⟨rfl,rfl⟩;go_wp2_with fail;exact ⟨rfl,MethC.err (HG.out.below.mono HM.out.le) (by unfold makeP;rw [if_pos HNM.out])⟩
 | true =>
  go_wp2_with fail;refine (pmust_yes 4 w1).mono ?_;rintro e w2 ⟨rfl,rfl⟩;go_wp2_with fail;refine (HAT.out w1 HG.out).mono ?_;rintro e w3 ⟨rfl,hg3⟩;have HG3 := hide (HG.out.trans hg3);have HM3 := hide (HM.out.grow HG3.out);clear hg3
  cases FF with
  | true =>
   go_wp2_with fail;refine (pmust_no 6 w3).mono ?_;rintro e w4 ⟨rfl,rfl⟩;go_wp2_with fail;exact ⟨rfl,MethC.err (HG3.out.below.mono HM.out.le) (by unfold makeP;rw [if_neg (by rw [HNM.out];decide),if_pos HFF.out])⟩
  | false =>
   have hm := HM3.out.blk.cell;by_cases h16 : st.length < 16
   ·have h16i : (st.length : Int) < 16 := by omega
    go_wp2_with fail;refine (pmust_yes 6 w3).mono ?_;rintro e w4 ⟨rfl,rfl⟩;go_wp2_with fail;refine (pmust_yes 19 w3).mono ?_;rintro e w4 ⟨rfl,rfl⟩;have HE := hide (show makeP st q = .ok (insAt st (plN (cnm st) q.coll) ⟨q.coll,[],[]⟩,0,[]) by unfold makeP;rw [if_neg (by rw [HNM.out];decide),if_neg (by rw [HFF.out];decide),if_neg (by omega)]);have h0 := HM.out;have HLE := HLEP;have HNB := hide (show Value.ownBlock (.slice A st.length cap) ≠ some w3.heap.size from fun e => by have := (World.ownsRow.lt HM3.out.own.row _ e).2;omega);clear hm;go_wp2_with fail;refine wp_region_noPanic ?_;refine wp_region_held_drew (S := fun w' => w'.cell? ⟨mb,2,none⟩ = some (.string q.coll)) (by kernel_rfl) (HM3.out.blk.cell 2) (fun hHeld => ?_);replace HM3 := hide (HM3.out.grow ((Grow.refl w3).drew));replace HG3 := hide (HG3.out.drew)
    replace HNB := hide (show Value.ownBlock (.slice A st.length cap) ≠ some w3.drew.heap.size from HNB.out);generalize w3.drew = W at HM3 HG3 HNB hHeld ⊢;refine tk_ 0 ?_;refine tk_ 1 ?_;refine tk_ 2 ?_;refine tk_ 3 ?_;refine tk_ 4 ?_;refine tk_ 6 ?_;refine tk_ 7 ?_;refine tk_ 8 ?_;refine tk_ 9 ?_;refine tk_ 10 ?_;refine tk_ 11 ?_;refine tk_ 12 ?_;refine rr_ [5,13] ?_;refine rd1_ (fun K hK => ?_) (rd1_ (fun K hK => ?_) AllReadyH.nil)
    ·have hm := HM3.out.blk.cell;go_simp;refine hK.out _ _ (HM3.out.blk.cell 2) (fun hHeld => ?_);clear hK K hm
     try simp only [ly_]
     refine r1_ 13 (fun K hK => ?_);go_simp;have HMA := hide (HM3.out.grow ((Grow.refl W).alloc (.cells (Cc.cells ⟨q.coll,none,0,0,none,0,0⟩) 48)));have HGA := hide (HG3.out.alloc (.cells (Cc.cells ⟨q.coll,none,0,0,none,0,0⟩) 48));refine hk_ hK (HMA.out.blk.cell 2) (fun hHeld => ?_);clear hK K;refine r1_ 14 (fun K hK => ?_);go_simp;go_at_call 116;refine (insertC_any B st.length P cap W.heap.size A (cellsC es) (Cc.cells ⟨q.coll,none,0,0,none,0,0⟩).toList _ 48 (cellsC_one es) (by simp [Value.oneCell']) HMA.out.own.row HLE.out (by have := H16.out;omega) rfl (Blk.new W 48 (Cc.cells ⟨q.coll,none,0,0,none,0,0⟩)) HNB.out HMA.out.le).mono ?_;rintro ee w5 ⟨A5,c5,rfl,hown5,hgr5,hat5⟩;have hb5 := HMA.out.blk.own hgr5 (fun k hk e => by rw [ownBlock_slice,e] at hk;exact HMA.out.neA hk);have HB5 := hide hb5;have HOWN5 := hide hown5;have HGR5 := hide hgr5
     have HAT5 := hide hat5;have hm5 := hb5.cell;have hf5 := hb5.frozen;clear hown5 hgr5 hat5 hb5;refine hk_ hK (HB5.out.cell 2) (fun hHeld => ?_);clear hK K;refine tk_ 15 ?_;refine tk_ 16 ?_;refine tk_ 17 ?_;refine r1_ 18 (fun K hK => ?_);go_simp;refine hk_ hK ((HB5.out.set_ 0 (.slice A5 (st.length + 1) c5)).cell 2) (fun hHeld => ?_);clear hK K;refine dn_ ?_;go_wp2_with fail;go_end0;exact make_close h0 HM3.out (by rw [HP.out]) HG3.out HOK.out hN HE.out HLE.out HB5.out HOWN5.out HGR5.out HAT5.out
    go_simp;have HMA := hide (HM3.out.grow ((Grow.refl W).alloc (.cells (Cc.cells ⟨q.coll,none,0,0,none,0,0⟩) 48)));have HGA := hide (HG3.out.alloc (.cells (Cc.cells ⟨q.coll,none,0,0,none,0,0⟩) 48));refine hk_ hK (HMA.out.blk.cell 2) (fun hHeld => ?_);clear hK K;refine r1_ 5 (fun K hK => ?_);have hm := HMA.out.blk.cell;go_simp;refine hK.out _ _ (HMA.out.blk.cell 2) (fun hHeld => ?_);clear hK K hm
    try simp only [ly_]
    refine r1_ 14 (fun K hK => ?_);go_simp;go_at_call 116;refine (insertC_any B st.length P cap W.heap.size A (cellsC es) (Cc.cells ⟨q.coll,none,0,0,none,0,0⟩).toList _ 48 (cellsC_one es) (by simp [Value.oneCell']) HMA.out.own.row HLE.out (by have := H16.out;omega) rfl (Blk.new W 48 (Cc.cells ⟨q.coll,none,0,0,none,0,0⟩)) HNB.out HMA.out.le).mono ?_;rintro ee w5 ⟨A5,c5,rfl,hown5,hgr5,hat5⟩;have hb5 := HMA.out.blk.own hgr5 (fun k hk e => by rw [ownBlock_slice,e] at hk;exact HMA.out.neA hk);have HB5 := hide hb5;have HOWN5 := hide hown5;have HGR5 := hide hgr5;have HAT5 := hide hat5;have hm5 := hb5.cell;have hf5 := hb5.frozen;clear hown5 hgr5 hat5 hb5;refine hk_ hK (HB5.out.cell 2) (fun hHeld => ?_);clear hK K;refine tk_ 15 ?_;refine tk_ 16 ?_;refine tk_ 17 ?_;refine r1_ 18 (fun K hK => ?_);go_simp
    refine hk_ hK ((HB5.out.set_ 0 (.slice A5 (st.length + 1) c5)).cell 2) (fun hHeld => ?_);clear hK K;refine dn_ ?_;go_wp2_with fail;go_end0;exact make_close h0 HM3.out (by rw [HP.out]) HG3.out HOK.out hN HE.out HLE.out HB5.out HOWN5.out HGR5.out HAT5.out
   have h16i : decide ((st.length : Int) < 16) = false := by simp;omega
   go_wp2_with fail;refine (pmust_yes 6 w3).mono ?_;rintro e w4 ⟨rfl,rfl⟩;go_wp2_with fail;refine (pmust_no 19 w3).mono ?_;rintro e w4 ⟨rfl,rfl⟩;go_wp2_with fail;exact ⟨rfl,MethC.err (HG3.out.below.mono HM.out.le) (by unfold makeP;rw [if_neg (by rw [HNM.out];decide),if_neg (by rw [HFF.out];decide),if_pos (by omega)])⟩
end
section
open Go.RowKit
theorem find_noix (N B mb cap : Nat) (A : Option Addr) (es : List Cc) (st : List Co) (q : Rq) (ck cl ch cx : Cv) (w : World) (h : Mach w B mb A cap es st q ck cl ch cx) (hok : StOk N st) (hN : N ≤ 1000000) (hf : plF (cnm st) q.coll = true) (hFF : plF (xnm (coAt st q.coll)) q.index = false) (hTB : ∀ W,Below B w W → Tabs W ∧ Len1 W) (hlc : q.low.count ≤ 20000) (hhc : q.high.count ≤ 20000) :
 Calls Tryz.prog 86 #[.pointer (some ⟨mb,0,none⟩)] w (MethC w B mb (findP st q)) := by
 have hs : st.length ≤ 140737488355328 := Mach.short hok;have hT := (hTB w (Below.refl _ _)).1;have hL1 := (hTB w (Below.refl _ _)).2;have HM := hide h;have HOK := hide hok;skip;obtain ⟨gb,hA,hgb,hgl,hne⟩ := h.gb hf;obtain ⟨⟨nm,dA,dn,dc,xA,xn,xc⟩,he,hco,hcell⟩ := h.co hf hA;obtain ⟨c,hc⟩ : ∃ c,coAt st q.coll = c := ⟨_,rfl⟩;have hmem := (coAt_mem hf).2.1;have hlt := (coAt_mem hf).2.2.2;have hlt0 : plN (cnm st) q.coll < es.length := by rw [h.el];exact hlt
 rw [hc] at hco hmem;have hcok := hok.co c hmem;have hnd := hcok.nd;have hnx := hcok.nx;have HC := hide (coll_m h hs hf hA);have HF := hide hf;have HGB := hide hgb;have HNE := hide hne;have HGL := hide hgl;have HHA := hide hA;have HHE := hide he;have HCO := hide hco;have HCOK := hide hcok;have HCELL := hide hcell;have HCC := hide hc;obtain ⟨P,hP⟩ : ∃ P,plN (cnm st) q.coll = P := ⟨_,rfl⟩;have HP := hide hP;rw [hP] at HC HHE HCELL hlt hlt0;have HLT := hide hlt;have HLT0 := hide hlt0;have HCA := hide (fun (w1 : World) (hg : Grow w w1) => show w1.cell? ⟨gb,P * 3,none⟩ = some (.string nm) ∧ w1.cell? ⟨gb,P * 3 + 1,none⟩ = some (.slice dA c.docs.length dc) ∧ w1.cell? ⟨gb,P * 3 + 2,none⟩ = some (.slice xA c.ixs.length xc) from
  ⟨(hg.below.cell (p := ⟨gb,P * 3,none⟩) hgl).trans (HCELL.out 0 (.string nm) rfl),(hg.below.cell (p := ⟨gb,P * 3 + 1,none⟩) hgl).trans ((HCELL.out 1 (.slice dA dn dc) rfl).trans (by rw [show dn = c.docs.length from hco.dn])),(hg.below.cell (p := ⟨gb,P * 3 + 2,none⟩) hgl).trans ((HCELL.out 2 (.slice xA xn xc) rfl).trans (by rw [show xn = c.ixs.length from hco.xn]))⟩)
 have HIX := hide (fun (w1 : World) (hg : Grow w w1) => index_m (P := P) (gb := gb) (h.grow hg) (hco.grow h.le hg) (fun i v hi => (hg.below.cell (p := ⟨gb,P * 3 + i,none⟩) hgl).trans (HCELL.out i v hi)) (Nat.lt_of_lt_of_le hgl hg.size) (by omega));have HLOW := hide (fun (w1 : World) (hg : Grow w w1) => good_any q.low w1 cl hlc (hT.grow hg) ((h.low.in_ h.le).grow hg));have HHIGH := hide (fun (w1 : World) (hg : Grow w w1) => good_any q.high w1 ch hhc (hT.grow hg) ((h.high.in_ h.le).grow hg));have HKL := hide (In.k_ (h.low.in_ h.le));have HKH := hide (In.k_ (h.high.in_ h.le));have HTB := hide hTB;have HT := hide hT;have HL1 := hide hL1;have HLC := hide hlc;have HHC := hide hhc;have hFF' := hFF;rw [hc] at hFF';obtain ⟨FF,hFB⟩ : ∃ b,b = false := ⟨_,rfl⟩;rw [← hFB] at hFF';obtain ⟨I,hI⟩ : ∃ b,plN (xnm c) q.index = b := ⟨_,rfl⟩;rw [hFF',hI] at HIX;have HFF := hide hFF'
 have HI := hide hI;clear h hok hf hA he hco hcell hc hcok hmem hP hlt hlt0 hT hL1 hTB hlc hhc hFF hFF' hI;go_enter Tryz.func86,Tryz.ntmps86;go_wp2_with fail;refine HC.out.mono ?_;rintro e w1 ⟨rfl,hg1⟩;have HG1 := hide hg1;clear hg1;go_wp2_with fail;refine (HIX.out w1 HG1.out).mono ?_;rintro e w2 ⟨rfl,hg2⟩;have HG2 := hide (HG1.out.trans hg2);have HM2 := hide (HM.out.grow HG2.out);have hm := HM2.out.blk.cell;clear hg2;have hthere : (FF = true ∨ q.index = ⟨#[]⟩) ∨ (FF = false ∧ q.index ≠ ⟨#[]⟩) := by
  cases FF
  ·rcases Classical.em (q.index = ⟨#[]⟩) with h | h
   ·exact .inl (.inr h)
   exact .inr ⟨rfl,h⟩
  exact .inl (.inl rfl)
 rcases hthere with hth | ⟨hf0,hne0⟩
 rotate_left
 ·subst hf0;have hie : q.index.toList.isEmpty = false := by
   rcases hx : q.index.toList.isEmpty with _ | _
   ·rfl
   exfalso;apply hne0;apply byteArray_inj;rw [← toList_data];simpa using hx
  have hie2 : ¬ q.index.toList = [] := by simpa using hie
  go_wp2_with fail;refine (pmust_no 5 w2).mono ?_;rintro e w3 ⟨rfl,rfl⟩;go_wp2_with fail;exact ⟨rfl,MethC.err (HG2.out.below.mono HM.out.le) (by unfold findP;rw [if_neg (by rw [HF.out];decide),HCC.out,if_pos ⟨HFF.out,hne0⟩])⟩
 have hx : FF = true → q.index ≠ ⟨#[]⟩ := fun ht e => by
  have hmem := (plF_iff HCOK.out.ixs q.index).1 (by rw [HFF.out];exact ht);obtain ⟨x,hx,hxe⟩ := List.mem_map.1 hmem;have hn := HCOK.out.xnm x hx;rw [hxe,e] at hn;exact absurd hn (by decide)
 subst hFB;have he0 : q.index = ⟨#[]⟩ := by rcases hth with h | h;cases h;exact h
 have hie2 : q.index.toList = [] := by rw [he0,toList_data]
 have hie : q.index.toList.isEmpty = true := by rw [hie2,List.isEmpty_nil]
 have HE0 := hide he0;have HNOT := hide (show ¬ (plF (xnm c) q.index = false ∧ q.index ≠ ⟨#[]⟩) from fun h => h.2 HE0.out);clear he0 hth hx;by_cases hn1 : 1 ≤ q.n
 case neg =>
  have hn1i : decide (1 ≤ q.n) = false := by simp;omega
  go_wp2_with fail;refine (pmust_yes 5 w2).mono ?_;rintro e w3 ⟨rfl,rfl⟩;go_wp2_with fail;refine (pmust_no 1 w2).mono ?_;rintro e w3 ⟨rfl,rfl⟩;go_wp2_with fail;exact ⟨rfl,MethC.err (HG2.out.below.mono HM.out.le) (by unfold findP;rw [if_neg (by rw [HF.out];decide),HCC.out,if_neg HNOT.out,if_pos (by omega)])⟩
 by_cases hn64 : q.n ≤ 64
 case neg =>
  have hn64i : decide (q.n ≤ 64) = false := by simp;omega
  go_wp2_with fail;refine (pmust_yes 5 w2).mono ?_;rintro e w3 ⟨rfl,rfl⟩;go_wp2_with fail;refine (pmust_no 1 w2).mono ?_;rintro e w3 ⟨rfl,rfl⟩;go_wp2_with fail;exact ⟨rfl,MethC.err (HG2.out.below.mono HM.out.le) (by unfold findP;rw [if_neg (by rw [HF.out];decide),HCC.out,if_neg HNOT.out,if_pos (by omega)])⟩
 go_wp2_with fail;refine (pmust_yes 5 w2).mono ?_;rintro e w3 ⟨rfl,rfl⟩;go_wp2_with fail;refine (pmust_yes 1 w2).mono ?_;rintro e w3 ⟨rfl,rfl⟩;have HN1 := hide hn1;have HN64 := hide hn64;clear hn1 hn64;go_wp2_with fail;go_big_quiet (fail);have HG3 := hide (HG2.out.drewN nq);have HM3 := hide (HM.out.grow HG3.out);generalize w2.drewN nq = w3 at HG3 HM3 ⊢;clear hm;have hilo := idx_low cl ch;have hihi := idx_high cl ch;go_wp2_with fail;go_loopg [61] 3 (fun gk i wr => ∃ j : Nat,j ≤ 2 ∧ gk + j = 3 ∧ i = .int .i64 j ∧ (0 < j → bndE q.low = 0) ∧ (1 < j → bndE q.high = 0) ∧ Grow w3 wr)
 case atStart => exact ⟨0,Nat.zero_le _,rfl,rfl,fun h => absurd h (by omega),fun h => absurd h (by omega),Grow.refl w3⟩
 case round =>
  obtain ⟨j,hj,hg,rfl,hb1,hb2,hgr⟩ := hrel;obtain ⟨gk',rfl⟩ := gk_ gk (by omega);have HB1 := hide hb1;have HB2 := hide hb2;have HGR := hide hgr;have HGW := hide (HG3.out.trans hgr);clear hb1 hb2 hgr;have hj3 : j = 0 ∨ j = 1 ∨ j = 2 := by omega
  rcases hj3 with rfl | rfl | rfl
  ·have hv := (Blk.new wr 27 cl.cells).cell;have HGA := hide (HGW.out.alloc (.cells cl.cells 27));have HGA3 := hide (HGR.out.alloc (.cells cl.cells 27));by_cases hk : cl.k = 0
   ·have hk0 : (cl.k != 0) = false := by simp [hk]
    have BE : bndE q.low = 0 := by unfold bndE;rw [if_pos (by rw [← HKL.out];exact hk)]
    clear hk;go_wp2_with fail;go_roundg gk'
    case measure => omega
    case rel => exact ⟨1,by omega,by omega,by go_num,fun _ => BE,fun h => absurd h (by omega),HGA3.out⟩
   have hk0 : (cl.k != 0) = true := by simp [hk]
   have BE0 : bndE q.low = q.low.good := by unfold bndE;rw [if_neg (by rw [← HKL.out];exact hk)]
   obtain ⟨G,hG⟩ : ∃ g,q.low.good = g := ⟨_,rfl⟩;have HGD := hide (HLOW.out _ HGA.out);rw [hG] at HGD BE0;have HBE := hide BE0;clear hk hG BE0;go_wp2_with fail;refine HGD.out.mono ?_;rintro e w5 ⟨rfl,hg5⟩;have HG5 := hide (HGA.out.trans hg5);have HG35 := hide (HGA3.out.trans hg5);clear hg5 hv;by_cases hz : G = 0
   ·subst hz;go_wp2_with fail;refine (right_yes w5).mono ?_;rintro e w6 ⟨rfl,rfl⟩;have BE := HBE.out;go_wp2_with fail;go_roundg gk'
    case measure => omega
    case rel => exact ⟨1,by omega,by omega,by go_num,fun _ => BE,fun h => absurd h (by omega),HG35.out⟩
   go_wp2_with fail;refine (right_no G hz w5).mono ?_;rintro e w6 ⟨rfl,rfl⟩;go_wp2_with fail;exact ⟨rfl,MethC.err (HG5.out.below.mono HM.out.le) (by unfold findP;rw [if_neg (by rw [HF.out];decide),HCC.out,if_neg HNOT.out,if_neg (by have := HN1.out;have := HN64.out;omega),if_pos (by rw [HBE.out];exact hz),HBE.out])⟩
  ·have hv := (Blk.new wr 27 ch.cells).cell;have HGA := hide (HGW.out.alloc (.cells ch.cells 27));have HGA3 := hide (HGR.out.alloc (.cells ch.cells 27));by_cases hk : ch.k = 0
   ·have hk0 : (ch.k != 0) = false := by simp [hk]
    have BE : bndE q.high = 0 := by unfold bndE;rw [if_pos (by rw [← HKH.out];exact hk)]
    clear hk;go_wp2_with fail;go_roundg gk'
    case measure => omega
    case rel => exact ⟨2,by omega,by omega,by go_num,fun _ => HB1.out (by omega),fun _ => BE,HGA3.out⟩
   have hk0 : (ch.k != 0) = true := by simp [hk]
   have BE0 : bndE q.high = q.high.good := by unfold bndE;rw [if_neg (by rw [← HKH.out];exact hk)]
   obtain ⟨G,hG⟩ : ∃ g,q.high.good = g := ⟨_,rfl⟩;have HGD := hide (HHIGH.out _ HGA.out);rw [hG] at HGD BE0;have HBE := hide BE0;clear hk hG BE0;go_wp2_with fail;refine HGD.out.mono ?_;rintro e w5 ⟨rfl,hg5⟩;have HG5 := hide (HGA.out.trans hg5);have HG35 := hide (HGA3.out.trans hg5);clear hg5 hv;by_cases hz : G = 0
   ·subst hz;go_wp2_with fail;refine (right_yes w5).mono ?_;rintro e w6 ⟨rfl,rfl⟩;have BE := HBE.out;go_wp2_with fail;go_roundg gk'
    case measure => omega
    case rel => exact ⟨2,by omega,by omega,by go_num,fun _ => HB1.out (by omega),fun _ => BE,HG35.out⟩
   go_wp2_with fail;refine (right_no G hz w5).mono ?_;rintro e w6 ⟨rfl,rfl⟩;go_wp2_with fail;exact ⟨rfl,MethC.err (HG5.out.below.mono HM.out.le) (by unfold findP;rw [if_neg (by rw [HF.out];decide),HCC.out,if_neg HNOT.out,if_neg (by have := HN1.out;have := HN64.out;omega),if_neg (by rw [HB1.out (by omega)];simp),if_pos (by rw [HBE.out];exact hz),HBE.out])⟩
  have HMW := hide (HM.out.grow HGW.out);have HBL := hide (HB1.out (by omega));have HBH := hide (HB2.out (by omega));have hm := HMW.out.blk.cell;obtain ⟨hca0,hca1,hca2⟩ := HCA.out wr HGW.out;obtain ⟨wl,hwl⟩ : ∃ wl : World,wl = wr := ⟨_,rfl⟩;subst hwl;have HDL := hide (((HCO.out.grow HM.out.le HGW.out).r (S := fun k => k = mb) HMW.out.le (fun k hk => hk ▸ HM.out.lo) (fun g hg e => by
   obtain ⟨ds,r1,-⟩ := (HCO.out.grow HM.out.le HGW.out).docs;exact ownT_blk r1 HMW.out.blk (by decide) (e ▸ hg)) (fun g hg e => ownT_blk (HCO.out.grow HM.out.le HGW.out).ixs HMW.out.blk (by decide) (e ▸ hg)) (by omega)).docs)
  have HFD := hide (show findDocs c q = c.docs by unfold findDocs;rw [if_pos HE0.out]);obtain ⟨ds,hds⟩ : ∃ d,c.docs = d := ⟨_,rfl⟩;have HDS := hide (show ∀ d ∈ ds,d ∈ c.docs from fun d hd => hds ▸ hd);rw [hds] at HDL HFD hca1;have hnd2 : ds.length ≤ N := hds ▸ hnd;clear hds;go_wp2_with fail;clear hca0 hca1 hca2 hm;go_loopg [117] (ds.length + 1) (fun gk i wr => ∃ (j : Nat) (A6 : Option Addr) (c6 : Nat) (hs : List Cv),j ≤ ds.length ∧ gk + j = ds.length + 1 ∧ i = .int .i64 j ∧ Kept (fun k => k = mb) wl wr ∧ Blk wr mb 96 (mcellsR A st.length cap q.do_ q.coll q.index q.path q.unique ck cl ch cx q.n 0 A6 hs.length c6) ∧
   VR (fun k => k = mb) wr wl.heap.size A6 c6 hs (hitsP c q ds j))
  case atStart => exact ⟨0,none,0,[],Nat.zero_le _,rfl,rfl,Kept.refl _ _,HMW.out.blk,by
   rw [show hitsP c q ds 0 = [] by unfold hitsP;simp];exact GR.nil _⟩
  case round =>
   obtain ⟨j,A6,c6,hs6,hj,hg,rfl,hkw,hbm,hvr⟩ := hrel;obtain ⟨gk',rfl⟩ := gk_ gk (by omega);have HKW := hide hkw;have HBM := hide hbm;have HVR := hide hvr;have HHL := hide (show hs6.length = (hitsP c q ds j).length from hvr.two.1);have HHN := hide (show hs6.length ≤ j from by rw [hvr.two.1];exact hitsP_le _ _ _ _);have HBW := hide (show Below B w wr from (HGW.out.below.mono HM.out.le).trans (hkw.below HMW.out.le (fun k hk => hk ▸ HM.out.lo)));have HBWW := hide (fun (W : World) (hg : Grow wr W) => show Below B w W from HBW.out.trans (hg.below.mono (Nat.le_trans HM.out.le HBW.out.size)));clear hkw hbm hvr;by_cases hlt : j < ds.length
   ·obtain ⟨bk2,o2,y,ha,⟨e0,e1,e2,e3,e4⟩,hy⟩ := (HDL.out.mono (C' := AtY (fun k => k = mb) wr wl.heap.size) (fun p u hp => ⟨(AtX.kept HKW.out (fun _ h => h) p u hp).1,hp.2.1,hp.2.2⟩)).elemG j hlt;dsimp only [lcv] at ha;subst ha;have HYP := hide (show IsV (AtX wr (fun q => ablk A6 = some q ∨ q = mb)) ds[j] y from IsV.mono (fun p u hp => ⟨hp.1,Nat.lt_of_lt_of_le hp.2.1 HKW.out.size,fun hq => by
     rcases hq with hq | hq
     ·have := (World.ownsRow.lt HVR.out.row p.block (by rw [ownBlock_slice];exact hq)).1;have := hp.2.1;omega
     exact hp.2.2 hq⟩) _ _ hy)
    have HVM := hide (show wr.heap.size ≠ mb from fun e => by have := HBM.out.lt;omega);have d0 := e0.1;have d1 := e1.1;have d2 := e2.1;have d3 := e3.1;have d4 := e4.1;have HIN := hide (show In wr ds[j] y from InY.in_ hy HKW.out.size);have hdok := HCOK.out.docs _ (HDS.out _ (List.getElem_mem hlt));have HDOK := hide hdok;obtain ⟨i0,hi0,hK,hkey,-,-⟩ := hdok.id;have HID := hide (id_any ds[j] y wr (wr.alloc (.cells y.cells 27)) ((Grow.refl wr).alloc _) HIN.out);rw [hi0] at HID;have HI0 := hide hi0;have hv14 := (Blk.new wr 27 y.cells).cell;clear e0 e1 e2 e3 e4 hy hdok hkey;go_wp2_with fail;refine HID.out.mono ?_;rintro e w5 ⟨hg5,ci,t,u,rfl,hu,hor⟩;have hut : u = i0 ∧ t = true := by
     rcases hor with ⟨h,ht⟩ | ⟨h,-⟩
     ·injection h with h;exact ⟨h.symm,ht⟩
     cases h
    obtain ⟨rfl,rfl⟩ := hut;have HU := hide hu;have HG5 := hide (((Grow.refl wr).alloc (.cells y.cells 27)).trans hg5);have HV14 := hide ((Blk.new wr 27 y.cells).grow hg5);have HBM5 := hide (HBM.out.grow HG5.out);have hm5 := HBM5.out.cell;clear hu hor hg5 d0 d1 d2 d3 d4 hv14;have HVB := hide (Blk.new w5 27 ci.cells);have HBM6 := hide (HBM5.out.alloc (.cells ci.cells 27));have HG6 := hide (HG5.out.alloc (.cells ci.cells 27));have HV14b := hide (HV14.out.alloc (.cells ci.cells 27));have HVV := hide (show findV q (findX c q) ds[j] = u from by unfold findV;rw [if_pos HE0.out,HI0.out];rfl);have HVI := hide (HU.out.grow HG6.out);have HVC := hide (Nat.le_trans (idP_count HI0.out) HDOK.out.count);have hm6 := HBM6.out.cell;go_wp2_with fail;clear hm5 hm6
    have HWI := hide (fun (W : World) (hi : In W u ci) (hg : Grow wr W) => show Calls Tryz.prog 128 #[ci.agg,cl.agg,ch.agg] W fun e w' => e = .returned (.bool (withinP (findV q (findX c q) ds[j]) q.low q.high)) ∧ Grow W w' from by
     rw [HVV.out];have hb := HBWW.out W hg;exact within_any u q.low q.high ci cl ch W (V.mild_of HVC.out hi) (V.mild_of HLC.out (HM.out.low.in_ HM.out.le)) (V.mild_of HHC.out (HM.out.high.in_ HM.out.le)) (HTB.out W hb).1 hi ((HM.out.low.below hb (Nat.le_refl _) (Nat.le_refl _)).in_ (Nat.le_trans HM.out.le hb.size)) ((HM.out.high.below hb (Nat.le_refl _) (Nat.le_refl _)).in_ (Nat.le_trans HM.out.le hb.size)))
    rcases Decidable.em (hs6.length < q.n.toNat) with hln | hln
    ·have hlni : (hs6.length : Int) < q.n := by omega
     have HLN := hide hln;clear hln;refine wp_region_noPanic ?_
     refine wp_region_held_drew (S := fun w' => w'.cell? ⟨mb,29,none⟩ = some (.slice A6 hs6.length c6) ∧ w'.cell? ⟨mb,26,none⟩ = some (.int .i64 q.n) ∧ w'.cell? ⟨mb,11,none⟩ = some (.int .i64 cl.k) ∧ w'.cell? ⟨mb,12,none⟩ = some (.int .u64 cl.n) ∧ w'.cell? ⟨mb,13,none⟩ = some (.slice cl.aB cl.nB cl.cB) ∧ w'.cell? ⟨mb,14,none⟩ = some (.slice cl.aL cl.nL cl.cL) ∧ w'.cell? ⟨mb,15,none⟩ = some (.slice cl.aF cl.nF cl.cF) ∧ w'.cell? ⟨mb,16,none⟩ = some (.int .i64 ch.k) ∧ w'.cell? ⟨mb,17,none⟩ = some (.int .u64 ch.n) ∧ w'.cell? ⟨mb,18,none⟩ = some (.slice ch.aB ch.nB ch.cB) ∧ w'.cell? ⟨mb,19,none⟩ = some (.slice ch.aL ch.nL ch.cL) ∧ w'.cell? ⟨mb,20,none⟩ = some (.slice ch.aF ch.nF ch.cF) ∧ w'.cell? ⟨w5.heap.size,0,none⟩ = some (.int .i64 ci.k) ∧ w'.cell? ⟨w5.heap.size,1,none⟩ = some (.int .u64 ci.n) ∧ w'.cell? ⟨w5.heap.size,2,none⟩ = some (.slice ci.aB ci.nB ci.cB) ∧ w'.cell? ⟨w5.heap.size,3,none⟩ = some (.slice ci.aL ci.nL ci.cL) ∧ w'.cell? ⟨w5.heap.size,4,none⟩ = some (.slice ci.aF ci.nF ci.cF)) (by kernel_rfl) (⟨HBM6.out.cell 29,HBM6.out.cell 26,HBM6.out.cell 11,HBM6.out.cell 12,HBM6.out.cell 13,HBM6.out.cell 14,HBM6.out.cell 15,HBM6.out.cell 16,HBM6.out.cell 17,HBM6.out.cell 18,HBM6.out.cell 19,HBM6.out.cell 20,HVB.out.cell 0,HVB.out.cell 1,HVB.out.cell 2,HVB.out.cell 3,HVB.out.cell 4⟩) (fun hHeld => ?_)
     replace HVB := hide HVB.out.drew;replace HBM6 := hide HBM6.out.drew;replace HG6 := hide HG6.out.drew;replace HV14b := hide HV14b.out.drew;replace HVI := hide (HVI.out.grow ((Grow.refl _).drew));generalize (w5.alloc (.cells ci.cells 27)).drew = W6 at HVB HBM6 HG6 HV14b HVI hHeld ⊢;refine tk_ 0 ?_;refine tk_ 1 ?_;refine tk_ 2 ?_;refine tk_ 3 ?_;refine tx_ 4 ?_;refine tk_ 5 ?_;refine tk_ 6 ?_;refine tk_ 7 ?_;refine tk_ 8 ?_;refine tk_ 9 ?_;refine tx_ 10 ?_;refine tk_ 11 ?_;refine tk_ 12 ?_;refine tx_ 13 ?_;refine tk_ 14 ?_;refine tk_ 15 ?_;refine tk_ 16 ?_;refine tk_ 17 ?_;refine tx_ 18 ?_;refine tk_ 19 ?_;refine tk_ 20 ?_;refine tk_ 21 ?_;refine tk_ 22 ?_;refine tx_ 23 ?_;refine r1_ 24 (fun K hK => ?_);go_simp;go_at_call 128;refine (HWI.out W6 HVI.out HG6.out).mono ?_;rintro ee w7 ⟨rfl,hg7⟩;replace HVB := hide (HVB.out.grow hg7);replace HBM6 := hide (HBM6.out.grow hg7)
     replace HG6 := hide (HG6.out.trans hg7);replace HV14b := hide (HV14b.out.grow hg7);clear hg7;refine hK.out _ _ ⟨HBM6.out.cell 29,HBM6.out.cell 26,HBM6.out.cell 11,HBM6.out.cell 12,HBM6.out.cell 13,HBM6.out.cell 14,HBM6.out.cell 15,HBM6.out.cell 16,HBM6.out.cell 17,HBM6.out.cell 18,HBM6.out.cell 19,HBM6.out.cell 20,HVB.out.cell 0,HVB.out.cell 1,HVB.out.cell 2,HVB.out.cell 3,HVB.out.cell 4⟩ (fun hHeld => ?_);clear hK K
     try simp only [ly_]
     refine tk_ 25 ?_;refine dn_ ?_;clear hHeld hlni;obtain ⟨WB,hWB⟩ : ∃ b,withinP (findV q (findX c q) ds[j]) q.low q.high = b := ⟨_,rfl⟩;rw [hWB];have HWB := hide hWB;clear hWB
     cases WB with
     | false =>
      go_wp2_with fail;go_roundg gk'
      case measure => omega
      case rel =>
       exact ⟨j + 1,A6,c6,hs6,by omega,by omega,by go_num,HKW.out.trans (Kept.grow HG6.out),HBM6.out,by rw [hitsP_no hlt (.inr HWB.out)];exact HVR.out.grow vR_mono HG6.out⟩
     | true =>
      go_wp2_with fail;refine wp_region_noPanic ?_;refine wp_region_held_drew (S := fun w' => w'.cell? ⟨wr.heap.size,0,none⟩ = some (.int .i64 y.k) ∧ w'.cell? ⟨wr.heap.size,1,none⟩ = some (.int .u64 y.n) ∧ w'.cell? ⟨wr.heap.size,2,none⟩ = some (.slice y.aB y.nB y.cB) ∧ w'.cell? ⟨wr.heap.size,3,none⟩ = some (.slice y.aL y.nL y.cL) ∧ w'.cell? ⟨wr.heap.size,4,none⟩ = some (.slice y.aF y.nF y.cF)) (by kernel_rfl) (⟨HV14b.out.cell 0,HV14b.out.cell 1,HV14b.out.cell 2,HV14b.out.cell 3,HV14b.out.cell 4⟩) (fun hHeld => ?_);replace HBM6 := hide HBM6.out.drew;replace HG6 := hide HG6.out.drew;replace HV14b := hide HV14b.out.drew;generalize w7.drew = V at HBM6 HG6 HV14b hHeld ⊢;obtain ⟨iv0,hv0,hv1,hv2,hv3⟩ := info_parts info_val3;have Hv0 := hide hv0;have Hv1 := hide hv1;have Hv2 := hide hv2;have Hv3 := hide hv3;clear hv0 hv1 hv2 hv3;refine tk_ 0 ?_;refine tk_ 1 ?_;refine tk_ 2 ?_
      refine tk_ 3 ?_;refine tx_ 5 ?_;refine rr_ [4,7] ?_;refine rd1_ (fun K hK => ?_) (rd1_ (fun K hK => ?_) AllReadyH.nil)
      ·have hm7 := HBM6.out.cell;go_simp;refine hK.out _ _ ⟨HV14b.out.cell 0,HV14b.out.cell 1,HV14b.out.cell 2,HV14b.out.cell 3,HV14b.out.cell 4⟩ (fun hHeld => ?_);clear hK K hm7
       try simp only [ly_]
       refine tk_ 6 ?_;refine r1_ 7 (fun K hK => ?_);go_simp;have HBMA := hide (HBM6.out.alloc (.cells Cv.zero.cells 27));have HGA := hide (HG6.out.alloc (.cells Cv.zero.cells 27));have HVA := hide (HV14b.out.alloc (.cells Cv.zero.cells 27));refine hK.out _ _ ⟨HVA.out.cell 0,HVA.out.cell 1,HVA.out.cell 2,HVA.out.cell 3,HVA.out.cell 4⟩ (fun hHeld => ?_);clear hK K
       try simp only [ly_]
       refine r1_ 8 (fun K hK => ?_);have HVRA := hide (HVR.out.grow vR_mono HGA.out);refine step_append_src (by rfl) (.tmp 168) (.tmp 171) 24 24 (by rfl) wl.heap.size 27 iv0 _ 5 88 under_vals Hv0.out Hv1.out Hv2.out Hv3.out (by rfl) (.slice A6 hs6.length c6) hs6.length (cellsV hs6) (by rfl) HVRA.out.row _ 1 Cv.zero.cells.toList (by rfl) (Src.oneW (W := V) Cv.zero 27 rfl) (by have := HHN.out;omega) (by simp only [maxLen];have := HHN.out;omega) (Nat.le_trans HKW.out.size HGA.out.size) ?_;intro A7 c7 w8 hown8 hgr8 hat8;obtain ⟨g7,cur8,hA7,hb8,hgg8,hnc8,hcm8,hcs8,-,-⟩ := own_open hown8 (by omega);subst hA7;have hrb : ∀ k,Value.ownBlock (.slice A6 hs6.length c6) = some k → wl.heap.size ≤ k ∧ k < wr.heap.size := fun k hk => ⟨(World.ownsRow.lt HVR.out.row k hk).1,(World.ownsRow.lt HVR.out.row k hk).2⟩
       have HB8 := hide hb8;have HG7 := hide (show g7 ≠ wr.heap.size from by
        rw [ownBlock_slice,ownBlock_slice] at hat8;rcases hat8 with h1 | h1
        ·have := (hrb g7 (by rw [ownBlock_slice,← h1];rfl)).2;omega
        have h2 : g7 = (V.alloc (.cells Cv.zero.cells 27)).heap.size := Option.some.inj h1;have := HVA.out.lt;omega)
       have HK8 := hide (Kept.grown_new (HKW.out.trans (Kept.grow HGA.out)) hgr8 (fun k hk => (hrb k hk).1));have HV8 := hide (HVA.out.own hgr8 (fun k hk e => by have := (hrb k hk).2;omega));have HBM8 := hide (HBMA.out.own hgr8 (fun k hk e => by rw [ownBlock_slice,e] at hk;exact ownT_blk HVR.out.row HBM.out (by decide) hk));have HTH := hide (show w8.there g7 (hs6.length * 5) 5 from fun k hk => own_cells hgg8 (hs6.length * 5 + k) (by rw [hcs8];omega));have HG7M := hide (show g7 ≠ mb from fun e => ownT_blk hown8 HBM8.out (by decide) (by rw [e];rfl));have HTH2 := hide (show (w8.setCell ⟨mb,29,none⟩ (.slice (some ⟨g7,0,none⟩) (hs6.length + 1) c7)).there g7 (hs6.length * 5) 5 from fun k hk => own_cells ((Below.heap_setCell w8 ⟨mb,29,none⟩ _ g7 HG7M.out).trans hgg8) (hs6.length * 5 + k) (by rw [hcs8];omega))
       have HVP := hide (vr_push (d := y) (v := ds[j]) HVRA.out (IsV.mono (AtX.kept (Kept.grow (S := fun _ => False) HGA.out) fun q hq => hq.elim) _ _ HYP.out) hown8 rfl hgr8 hat8);clear hown8 hgr8 hat8 hgg8 hnc8 hcm8 hcs8 hrb hb8;have hlt6 : (hs6.length : Int) < (hs6.length : Int) + 1 := by omega
       refine hK.out _ _ ⟨HV8.out.cell 0,HV8.out.cell 1,HV8.out.cell 2,HV8.out.cell 3,HV8.out.cell 4⟩ (fun hHeld => ?_);clear hK K
       try simp only [ly_]
       refine tk_ 9 ?_;refine tk_ 11 ?_;refine tk_ 12 ?_;refine tk_ 13 ?_;refine rr_ [10,14] ?_;refine rd1_ (fun K hK => ?_) (rd1_ (fun K hK => ?_) AllReadyH.nil)
       ·rw [if_pos (by rfl)];refine wp_store_mid 27 (.tmp 173) (.tmp 169) rfl g7 (hs6.length * 5) y.cells rfl rfl HTH.out (by kernel_rfl) (by simp [Value.oneCell']) ?_;have HGS := hide (setCells_grown g7 (some g7) rfl y.cells.toList w8 (hs6.length * 5));generalize w8.setCells g7 (hs6.length * 5) y.cells.toList = w9 at HGS HVP ⊢;have HK9 := hide (Kept.grown_new HK8.out HGS.out (fun k hk => by cases hk;exact HB8.out));have HV9 := hide (HV8.out.own HGS.out (fun k hk e => by cases hk;exact HG7.out e));have HBM9 := hide (HBM8.out.own HGS.out (fun k hk e => by cases hk;exact HG7M.out e));have hm9 := HBM9.out.cell;have hf9 := HBM9.out.frozen;refine hK.out _ _ ⟨HV9.out.cell 0,HV9.out.cell 1,HV9.out.cell 2,HV9.out.cell 3,HV9.out.cell 4⟩ (fun hHeld => ?_);clear hK K
        try simp only [ly_]
        refine r1_ 14 (fun K hK => ?_);go_simp;have HBM10 := hide (HBM9.out.set_ 29 (.slice (some ⟨g7,0,none⟩) (hs6.length + 1) c7));have HK10 := hide (HK9.out.set (p := ⟨mb,29,none⟩) rfl (.slice (some ⟨g7,0,none⟩) (hs6.length + 1) c7));have HV10 := hide (HV9.out.far (p := ⟨mb,29,none⟩) HVM.out (.slice (some ⟨g7,0,none⟩) (hs6.length + 1) c7));have HVP10 := hide (HVP.out.kept vR_mono (Kept.set (S := fun k => k = mb) (Kept.refl _ w9) (p := ⟨mb,29,none⟩) rfl (.slice (some ⟨g7,0,none⟩) (hs6.length + 1) c7)) (fun _ h => h) (fun g hg e => ownT_blk HVP.out.row HBM9.out (by decide) (e ▸ hg)));clear hm9 hf9;refine hK.out _ _ ⟨HV10.out.cell 0,HV10.out.cell 1,HV10.out.cell 2,HV10.out.cell 3,HV10.out.cell 4⟩ (fun hHeld => ?_);clear hK K
        try simp only [ly_]
        refine dn_ ?_;clear hHeld;go_wp2_with fail;go_roundg gk'
        case measure => omega
        case rel =>
         have hl : (hs6 ++ [y]).length = hs6.length + 1 := by simp
         refine ⟨j + 1,some ⟨g7,0,none⟩,c7,hs6 ++ [y],by omega,by omega,by go_num,HK10.out,by rw [hl];exact HBM10.out,?_⟩;rw [hitsP_yes hlt (by rw [← HHL.out];exact HLN.out) HWB.out];exact HVP10.out
       have hm9 := HBM8.out.cell;have hf9 := HBM8.out.frozen;go_simp;clear hm9 hf9;have HV8b := hide (HV8.out.far (p := ⟨mb,29,none⟩) HVM.out (.slice (some ⟨g7,0,none⟩) (hs6.length + 1) c7));refine hK.out _ _ ⟨HV8b.out.cell 0,HV8b.out.cell 1,HV8b.out.cell 2,HV8b.out.cell 3,HV8b.out.cell 4⟩ (fun hHeld => ?_);clear hK K
       try simp only [ly_]
       refine r1_ 10 (fun K hK => ?_);rw [if_pos (by rfl)];refine wp_store_mid 27 (.tmp 173) (.tmp 169) rfl g7 (hs6.length * 5) y.cells rfl rfl HTH2.out (by kernel_rfl) (by simp [Value.oneCell']) ?_;rw [setCells_setCell (p := ⟨mb,29,none⟩) HG7M.out];have HGS := hide (setCells_grown g7 (some g7) rfl y.cells.toList w8 (hs6.length * 5));generalize w8.setCells g7 (hs6.length * 5) y.cells.toList = w9 at HGS HVP ⊢;have HK9 := hide (Kept.grown_new HK8.out HGS.out (fun k hk => by cases hk;exact HB8.out));have HV9 := hide (HV8.out.own HGS.out (fun k hk e => by cases hk;exact HG7.out e));have HBM9 := hide (HBM8.out.own HGS.out (fun k hk e => by cases hk;exact HG7M.out e));have HBM10 := hide (HBM9.out.set_ 29 (.slice (some ⟨g7,0,none⟩) (hs6.length + 1) c7));have HK10 := hide (HK9.out.set (p := ⟨mb,29,none⟩) rfl (.slice (some ⟨g7,0,none⟩) (hs6.length + 1) c7))
       have HV10 := hide (HV9.out.far (p := ⟨mb,29,none⟩) HVM.out (.slice (some ⟨g7,0,none⟩) (hs6.length + 1) c7));have HVP10 := hide (HVP.out.kept vR_mono (Kept.set (S := fun k => k = mb) (Kept.refl _ w9) (p := ⟨mb,29,none⟩) rfl (.slice (some ⟨g7,0,none⟩) (hs6.length + 1) c7)) (fun _ h => h) (fun g hg e => ownT_blk HVP.out.row HBM9.out (by decide) (e ▸ hg)));refine hK.out _ _ ⟨HV10.out.cell 0,HV10.out.cell 1,HV10.out.cell 2,HV10.out.cell 3,HV10.out.cell 4⟩ (fun hHeld => ?_);clear hK K
       try simp only [ly_]
       refine dn_ ?_;clear hHeld;go_wp2_with fail;go_roundg gk'
       case measure => omega
       case rel =>
        have hl : (hs6 ++ [y]).length = hs6.length + 1 := by simp
        refine ⟨j + 1,some ⟨g7,0,none⟩,c7,hs6 ++ [y],by omega,by omega,by go_num,HK10.out,by rw [hl];exact HBM10.out,?_⟩;rw [hitsP_yes hlt (by rw [← HHL.out];exact HLN.out) HWB.out];exact HVP10.out
      go_simp;have HBMA := hide (HBM6.out.alloc (.cells Cv.zero.cells 27));have HGA := hide (HG6.out.alloc (.cells Cv.zero.cells 27));have HVA := hide (HV14b.out.alloc (.cells Cv.zero.cells 27));refine hK.out _ _ ⟨HVA.out.cell 0,HVA.out.cell 1,HVA.out.cell 2,HVA.out.cell 3,HVA.out.cell 4⟩ (fun hHeld => ?_);clear hK K
      try simp only [ly_]
      refine r1_ 4 (fun K hK => ?_);have hm7 := HBMA.out.cell;go_simp;refine hK.out _ _ ⟨HVA.out.cell 0,HVA.out.cell 1,HVA.out.cell 2,HVA.out.cell 3,HVA.out.cell 4⟩ (fun hHeld => ?_);clear hK K hm7
      try simp only [ly_]
      refine tk_ 6 ?_;refine r1_ 8 (fun K hK => ?_);have HVRA := hide (HVR.out.grow vR_mono HGA.out);refine step_append_src (by rfl) (.tmp 168) (.tmp 171) 24 24 (by rfl) wl.heap.size 27 iv0 _ 5 88 under_vals Hv0.out Hv1.out Hv2.out Hv3.out (by rfl) (.slice A6 hs6.length c6) hs6.length (cellsV hs6) (by rfl) HVRA.out.row _ 1 Cv.zero.cells.toList (by rfl) (Src.oneW (W := V) Cv.zero 27 rfl) (by have := HHN.out;omega) (by simp only [maxLen];have := HHN.out;omega) (Nat.le_trans HKW.out.size HGA.out.size) ?_;intro A7 c7 w8 hown8 hgr8 hat8;obtain ⟨g7,cur8,hA7,hb8,hgg8,hnc8,hcm8,hcs8,-,-⟩ := own_open hown8 (by omega);subst hA7;have hrb : ∀ k,Value.ownBlock (.slice A6 hs6.length c6) = some k → wl.heap.size ≤ k ∧ k < wr.heap.size := fun k hk => ⟨(World.ownsRow.lt HVR.out.row k hk).1,(World.ownsRow.lt HVR.out.row k hk).2⟩
      have HB8 := hide hb8;have HG7 := hide (show g7 ≠ wr.heap.size from by
       rw [ownBlock_slice,ownBlock_slice] at hat8;rcases hat8 with h1 | h1
       ·have := (hrb g7 (by rw [ownBlock_slice,← h1];rfl)).2;omega
       have h2 : g7 = (V.alloc (.cells Cv.zero.cells 27)).heap.size := Option.some.inj h1;have := HVA.out.lt;omega)
      have HK8 := hide (Kept.grown_new (HKW.out.trans (Kept.grow HGA.out)) hgr8 (fun k hk => (hrb k hk).1));have HV8 := hide (HVA.out.own hgr8 (fun k hk e => by have := (hrb k hk).2;omega));have HBM8 := hide (HBMA.out.own hgr8 (fun k hk e => by rw [ownBlock_slice,e] at hk;exact ownT_blk HVR.out.row HBM.out (by decide) hk));have HTH := hide (show w8.there g7 (hs6.length * 5) 5 from fun k hk => own_cells hgg8 (hs6.length * 5 + k) (by rw [hcs8];omega));have HG7M := hide (show g7 ≠ mb from fun e => ownT_blk hown8 HBM8.out (by decide) (by rw [e];rfl));have HTH2 := hide (show (w8.setCell ⟨mb,29,none⟩ (.slice (some ⟨g7,0,none⟩) (hs6.length + 1) c7)).there g7 (hs6.length * 5) 5 from fun k hk => own_cells ((Below.heap_setCell w8 ⟨mb,29,none⟩ _ g7 HG7M.out).trans hgg8) (hs6.length * 5 + k) (by rw [hcs8];omega))
      have HVP := hide (vr_push (d := y) (v := ds[j]) HVRA.out (IsV.mono (AtX.kept (Kept.grow (S := fun _ => False) HGA.out) fun q hq => hq.elim) _ _ HYP.out) hown8 rfl hgr8 hat8);clear hown8 hgr8 hat8 hgg8 hnc8 hcm8 hcs8 hrb hb8;have hlt6 : (hs6.length : Int) < (hs6.length : Int) + 1 := by omega
      refine hK.out _ _ ⟨HV8.out.cell 0,HV8.out.cell 1,HV8.out.cell 2,HV8.out.cell 3,HV8.out.cell 4⟩ (fun hHeld => ?_);clear hK K
      try simp only [ly_]
      refine tk_ 9 ?_;refine tk_ 11 ?_;refine tk_ 12 ?_;refine tk_ 13 ?_;refine rr_ [10,14] ?_;refine rd1_ (fun K hK => ?_) (rd1_ (fun K hK => ?_) AllReadyH.nil)
      ·rw [if_pos (by rfl)];refine wp_store_mid 27 (.tmp 173) (.tmp 169) rfl g7 (hs6.length * 5) y.cells rfl rfl HTH.out (by kernel_rfl) (by simp [Value.oneCell']) ?_;have HGS := hide (setCells_grown g7 (some g7) rfl y.cells.toList w8 (hs6.length * 5));generalize w8.setCells g7 (hs6.length * 5) y.cells.toList = w9 at HGS HVP ⊢;have HK9 := hide (Kept.grown_new HK8.out HGS.out (fun k hk => by cases hk;exact HB8.out));have HV9 := hide (HV8.out.own HGS.out (fun k hk e => by cases hk;exact HG7.out e));have HBM9 := hide (HBM8.out.own HGS.out (fun k hk e => by cases hk;exact HG7M.out e));have hm9 := HBM9.out.cell;have hf9 := HBM9.out.frozen;refine hK.out _ _ ⟨HV9.out.cell 0,HV9.out.cell 1,HV9.out.cell 2,HV9.out.cell 3,HV9.out.cell 4⟩ (fun hHeld => ?_);clear hK K
       try simp only [ly_]
       refine r1_ 14 (fun K hK => ?_);go_simp;have HBM10 := hide (HBM9.out.set_ 29 (.slice (some ⟨g7,0,none⟩) (hs6.length + 1) c7));have HK10 := hide (HK9.out.set (p := ⟨mb,29,none⟩) rfl (.slice (some ⟨g7,0,none⟩) (hs6.length + 1) c7));have HV10 := hide (HV9.out.far (p := ⟨mb,29,none⟩) HVM.out (.slice (some ⟨g7,0,none⟩) (hs6.length + 1) c7));have HVP10 := hide (HVP.out.kept vR_mono (Kept.set (S := fun k => k = mb) (Kept.refl _ w9) (p := ⟨mb,29,none⟩) rfl (.slice (some ⟨g7,0,none⟩) (hs6.length + 1) c7)) (fun _ h => h) (fun g hg e => ownT_blk HVP.out.row HBM9.out (by decide) (e ▸ hg)));clear hm9 hf9;refine hK.out _ _ ⟨HV10.out.cell 0,HV10.out.cell 1,HV10.out.cell 2,HV10.out.cell 3,HV10.out.cell 4⟩ (fun hHeld => ?_);clear hK K
       try simp only [ly_]
       refine dn_ ?_;clear hHeld;go_wp2_with fail;go_roundg gk'
       case measure => omega
       case rel =>
        have hl : (hs6 ++ [y]).length = hs6.length + 1 := by simp
        refine ⟨j + 1,some ⟨g7,0,none⟩,c7,hs6 ++ [y],by omega,by omega,by go_num,HK10.out,by rw [hl];exact HBM10.out,?_⟩;rw [hitsP_yes hlt (by rw [← HHL.out];exact HLN.out) HWB.out];exact HVP10.out
      have hm9 := HBM8.out.cell;have hf9 := HBM8.out.frozen;go_simp;clear hm9 hf9;have HV8b := hide (HV8.out.far (p := ⟨mb,29,none⟩) HVM.out (.slice (some ⟨g7,0,none⟩) (hs6.length + 1) c7));refine hK.out _ _ ⟨HV8b.out.cell 0,HV8b.out.cell 1,HV8b.out.cell 2,HV8b.out.cell 3,HV8b.out.cell 4⟩ (fun hHeld => ?_);clear hK K
      try simp only [ly_]
      refine r1_ 10 (fun K hK => ?_);rw [if_pos (by rfl)];refine wp_store_mid 27 (.tmp 173) (.tmp 169) rfl g7 (hs6.length * 5) y.cells rfl rfl HTH2.out (by kernel_rfl) (by simp [Value.oneCell']) ?_;rw [setCells_setCell (p := ⟨mb,29,none⟩) HG7M.out];have HGS := hide (setCells_grown g7 (some g7) rfl y.cells.toList w8 (hs6.length * 5));generalize w8.setCells g7 (hs6.length * 5) y.cells.toList = w9 at HGS HVP ⊢;have HK9 := hide (Kept.grown_new HK8.out HGS.out (fun k hk => by cases hk;exact HB8.out));have HV9 := hide (HV8.out.own HGS.out (fun k hk e => by cases hk;exact HG7.out e));have HBM9 := hide (HBM8.out.own HGS.out (fun k hk e => by cases hk;exact HG7M.out e));have HBM10 := hide (HBM9.out.set_ 29 (.slice (some ⟨g7,0,none⟩) (hs6.length + 1) c7));have HK10 := hide (HK9.out.set (p := ⟨mb,29,none⟩) rfl (.slice (some ⟨g7,0,none⟩) (hs6.length + 1) c7))
      have HV10 := hide (HV9.out.far (p := ⟨mb,29,none⟩) HVM.out (.slice (some ⟨g7,0,none⟩) (hs6.length + 1) c7));have HVP10 := hide (HVP.out.kept vR_mono (Kept.set (S := fun k => k = mb) (Kept.refl _ w9) (p := ⟨mb,29,none⟩) rfl (.slice (some ⟨g7,0,none⟩) (hs6.length + 1) c7)) (fun _ h => h) (fun g hg e => ownT_blk HVP.out.row HBM9.out (by decide) (e ▸ hg)));refine hK.out _ _ ⟨HV10.out.cell 0,HV10.out.cell 1,HV10.out.cell 2,HV10.out.cell 3,HV10.out.cell 4⟩ (fun hHeld => ?_);clear hK K
      try simp only [ly_]
      refine dn_ ?_;clear hHeld;go_wp2_with fail;go_roundg gk'
      case measure => omega
      case rel =>
       have hl : (hs6 ++ [y]).length = hs6.length + 1 := by simp
       refine ⟨j + 1,some ⟨g7,0,none⟩,c7,hs6 ++ [y],by omega,by omega,by go_num,HK10.out,by rw [hl];exact HBM10.out,?_⟩;rw [hitsP_yes hlt (by rw [← HHL.out];exact HLN.out) HWB.out];exact HVP10.out
    have hlni : ¬ (hs6.length : Int) < q.n := by omega
    have hlnd : decide ((hs6.length : Int) < q.n) = false := by simp;omega
    have HLN := hide hln;clear hln;refine wp_region_noPanic ?_
    refine wp_region_held_drew (S := fun w' => w'.cell? ⟨mb,29,none⟩ = some (.slice A6 hs6.length c6) ∧ w'.cell? ⟨mb,26,none⟩ = some (.int .i64 q.n) ∧ w'.cell? ⟨mb,11,none⟩ = some (.int .i64 cl.k) ∧ w'.cell? ⟨mb,12,none⟩ = some (.int .u64 cl.n) ∧ w'.cell? ⟨mb,13,none⟩ = some (.slice cl.aB cl.nB cl.cB) ∧ w'.cell? ⟨mb,14,none⟩ = some (.slice cl.aL cl.nL cl.cL) ∧ w'.cell? ⟨mb,15,none⟩ = some (.slice cl.aF cl.nF cl.cF) ∧ w'.cell? ⟨mb,16,none⟩ = some (.int .i64 ch.k) ∧ w'.cell? ⟨mb,17,none⟩ = some (.int .u64 ch.n) ∧ w'.cell? ⟨mb,18,none⟩ = some (.slice ch.aB ch.nB ch.cB) ∧ w'.cell? ⟨mb,19,none⟩ = some (.slice ch.aL ch.nL ch.cL) ∧ w'.cell? ⟨mb,20,none⟩ = some (.slice ch.aF ch.nF ch.cF) ∧ w'.cell? ⟨w5.heap.size,0,none⟩ = some (.int .i64 ci.k) ∧ w'.cell? ⟨w5.heap.size,1,none⟩ = some (.int .u64 ci.n) ∧ w'.cell? ⟨w5.heap.size,2,none⟩ = some (.slice ci.aB ci.nB ci.cB) ∧ w'.cell? ⟨w5.heap.size,3,none⟩ = some (.slice ci.aL ci.nL ci.cL) ∧ w'.cell? ⟨w5.heap.size,4,none⟩ = some (.slice ci.aF ci.nF ci.cF)) (by kernel_rfl) (⟨HBM6.out.cell 29,HBM6.out.cell 26,HBM6.out.cell 11,HBM6.out.cell 12,HBM6.out.cell 13,HBM6.out.cell 14,HBM6.out.cell 15,HBM6.out.cell 16,HBM6.out.cell 17,HBM6.out.cell 18,HBM6.out.cell 19,HBM6.out.cell 20,HVB.out.cell 0,HVB.out.cell 1,HVB.out.cell 2,HVB.out.cell 3,HVB.out.cell 4⟩) (fun hHeld => ?_)
    replace HVB := hide HVB.out.drew;replace HBM6 := hide HBM6.out.drew;replace HG6 := hide HG6.out.drew;replace HV14b := hide HV14b.out.drew;replace HVI := hide (HVI.out.grow ((Grow.refl _).drew));generalize (w5.alloc (.cells ci.cells 27)).drew = W6 at HVB HBM6 HG6 HV14b HVI hHeld ⊢;refine tk_ 0 ?_;refine tk_ 1 ?_;refine tk_ 2 ?_;refine tk_ 3 ?_;refine tx_ 4 ?_;refine tk_ 5 ?_;refine tk_ 6 ?_;refine tk_ 7 ?_;refine tk_ 8 ?_;refine tk_ 9 ?_;refine tx_ 10 ?_;refine tk_ 11 ?_;refine tk_ 12 ?_;refine tk_ 13 (v := undef) (hy := Or.inr ⟨by rfl,rfl⟩) ?_;refine tk_ 14 (v := undef) (hy := Or.inr ⟨by rfl,rfl⟩) ?_;refine tk_ 15 (v := undef) (hy := Or.inr ⟨by rfl,rfl⟩) ?_;refine tk_ 16 (v := undef) (hy := Or.inr ⟨by rfl,rfl⟩) ?_;refine tk_ 17 (v := undef) (hy := Or.inr ⟨by rfl,rfl⟩) ?_;refine tk_ 18 (v := undef) (hy := Or.inr ⟨by rfl,rfl⟩) ?_
    refine tk_ 19 (v := undef) (hy := Or.inr ⟨by rfl,rfl⟩) ?_;refine tk_ 20 (v := undef) (hy := Or.inr ⟨by rfl,rfl⟩) ?_;refine tk_ 21 (v := undef) (hy := Or.inr ⟨by rfl,rfl⟩) ?_;refine tk_ 22 (v := undef) (hy := Or.inr ⟨by rfl,rfl⟩) ?_;refine tk_ 23 (v := undef) (hy := Or.inr ⟨by rfl,rfl⟩) ?_;refine tk_ 24 (v := undef) (hy := Or.inr ⟨by rfl,rfl⟩) ?_;refine tk_ 25 ?_;refine dn_ ?_;clear hHeld hlni hlnd;go_wp2_with fail;go_roundg gk'
    case measure => omega
    case rel =>
     exact ⟨j + 1,A6,c6,hs6,by omega,by omega,by go_num,HKW.out.trans (Kept.grow HG6.out),HBM6.out,by rw [hitsP_no hlt (.inl (by rw [← HHL.out];exact HLN.out))];exact HVR.out.grow vR_mono HG6.out⟩
   have hjl : j = ds.length := by omega
   subst hjl;have hm5 := HBM.out.cell;have hf5 := HBM.out.frozen;go_wp2_with fail;go_end0;have HB := HBM.out.set_ 28 (.int .i64 (hs6.length : Int));have hk6 := HKW.out.set (p := ⟨mb,28,none⟩) rfl (.int .i64 (hs6.length : Int));have hbl : ∀ k,k = mb → B ≤ k := fun k hk => hk ▸ HM.out.lo
   have hfull : hitsP c q ds ds.length = findHits c q := by unfold hitsP findHits;rw [List.take_length,HFD.out]
   have hvk := HVR.out.kept vR_mono (Kept.set (S := fun k => k = mb) (Kept.refl _ wr) (p := ⟨mb,28,none⟩) rfl (.int .i64 (hs6.length : Int))) (fun _ h => h) (fun g hg e => ownT_blk HVR.out.row HBM.out (by decide) (e ▸ hg));rw [hfull] at hvk;refine MethC.ok (st' := st) (n := ((findHits c q).length : Int)) (docs := findHits c q) ((HGW.out.below.mono HM.out.le).trans (hk6.below HMW.out.le hbl)) ?_ (Nat.lt_of_lt_of_le HMW.out.lt hk6.size) (A := A) (cap := cap) (dA := A6) (dc := c6) (HB.cell 0) ?_ ((HB.cell 28).trans (by rw [HHL.out,hfull];rfl)) ((HB.cell 29).trans (by rw [HHL.out,hfull];rfl)) ?_
   ·unfold findP;rw [if_neg (by rw [HF.out];decide),HCC.out,if_neg HNOT.out,if_neg (by have := HN1.out;have := HN64.out;omega),if_neg (by rw [HBL.out];simp),if_neg (by rw [HBH.out];simp)]
   ·exact HMW.out.finish hk6 (HOK.out.dl hN)
   exact VR.inL hvk (fun g hg e => ownT_blk hvk.row HB (by decide) (e ▸ hg)) (by have h1 := HHL.out;rw [hfull] at h1;have h2 := HHN.out;omega)
end
section
open Go.RowKit
section
variable {α : Type} (f : α → List Value) (z : Nat) (hz : ∀ x,(f x).length = z) (hp : 0 < z)
include hz hp
theorem fz_at (l : List α) (j : Nat) (u : Value) (h : ((l.map f).flatten)[j]? = some u) : ∃ i k x,j = i * z + k ∧ k < z ∧ l[i]? = some x ∧ (f x)[k]? = some u := by
 have hj : j < l.length * z := by
  have := (List.getElem?_eq_some_iff.1 h).1;rwa [fz_len f z hz] at this
 have hd : z * (j / z) + j % z = j := Nat.div_add_mod j z;have hk : j % z < z := Nat.mod_lt _ hp;have hi : j / z < l.length := by rw [Nat.div_lt_iff_lt_mul hp];exact hj
 refine ⟨j / z,j % z,l[j / z],by rw [Nat.mul_comm];exact hd.symm,hk,List.getElem?_eq_getElem hi,?_⟩;rw [← fz_get f z hz l (j / z) (j % z) hk l[j / z] (List.getElem?_eq_getElem hi),Nat.mul_comm,hd];exact h
end
theorem isv_elem {C : Addr → Value → Prop} {k : Int} {n : Nat} {b : List UInt8} {l : List V} {f : List (ByteArray × V)} {c : Cv} (h : IsV C (.mk k n b l f) c) (i : Nat) (hil : i < l.length) : ∃ bk o x,c.aL = some ⟨bk,o,none⟩ ∧ At5 C bk (o + i * 5) x ∧ IsV C l[i] x := by
 rw [IsV] at h;exact h.2.2.2.2.2.2.2.2.2.2.2.2.2.2.2.1 i hil
theorem row_of_list {C : Addr → Value → Prop} {A : Option Addr} {docs : List V} {cap : Nat} (h : IsV C (.mk 7 0 [] docs []) (lcv A docs.length cap)) :
 ∃ cs,Reads C 5 A docs.length (cellsV cs) ∧ Two (fun v c => IsV C v c) docs cs := by
 have hx : ∀ i,∃ x : Cv,∀ hi : i < docs.length,∃ bk o,A = some ⟨bk,o,none⟩ ∧ At5 C bk (o + i * 5) x ∧ IsV C docs[i] x := fun i => by
  by_cases hi : i < docs.length
  ·obtain ⟨bk,o,x,h1,h2,h3⟩ := isv_elem h i hi;exact ⟨x,fun _ => ⟨bk,o,h1,h2,h3⟩⟩
  exact ⟨Cv.zero,fun hi' => absurd hi' hi⟩
 obtain ⟨x,hx⟩ := Classical.axiomOfChoice hx;have hget : ∀ i,i < docs.length → ((List.range docs.length).map x)[i]? = some (x i) := fun i hi => by
  rw [List.getElem?_map,List.getElem?_range hi];rfl
 refine ⟨(List.range docs.length).map x,⟨by rw [cellsV_len];simp,fun hn => ?_⟩,by simp,fun i v c hv hc => ?_⟩
 ·obtain ⟨bk,o,e,-,-⟩ := hx 0 hn;refine ⟨bk,o,e,fun j u hu => ?_⟩;obtain ⟨i,k,y,rfl,hk,hy,hu⟩ := fz_at _ 5 (fun _ => rfl) (by decide) _ j u hu;have hi : i < docs.length := by
   have := (List.getElem?_eq_some_iff.1 hy).1;simpa using this
  rw [hget i hi] at hy
  cases hy
  obtain ⟨bk',o',e',h5,-⟩ := hx i hi;rw [e] at e'
  cases e'
  obtain ⟨c0,c1,c2,c3,c4⟩ := h5;rcases k with _ | _ | _ | _ | _ | k
  ·cases hu;exact c0
  ·cases hu;exact c1
  ·cases hu;exact c2
  ·cases hu;exact c3
  ·cases hu;exact c4
  omega
 obtain ⟨hi,rfl⟩ := List.getElem?_eq_some_iff.1 hv;rw [hget i hi] at hc
 cases hc
 obtain ⟨bk,o,-,-,h3⟩ := hx i hi;exact h3
structure Cln (w : World) (B : Nat) (A : Option Addr) (cap : Nat) (es0 es : List Cc) (st : List Co) (j : Nat) : Prop where
 row : w.ownsRow B 48 3 (.slice A st.length cap) st.length (cellsC es)
 len : es.length = st.length
 done : ∀ i a c,i < j → es[i]? = some a → st[i]? = some c → OwnCo w B a c
 rest : ∀ i,j ≤ i → es[i]? = es0[i]?
 distD : ∀ (i k : Nat) (a b : Cc),i < j → k < j → es[i]? = some a → es[k]? = some b → i ≠ k → ∀ g,ablk a.dA = some g → ablk b.dA ≠ some g
 distX : ∀ (i k : Nat) (a b : Cc),i < j → k < j → es[i]? = some a → es[k]? = some b → i ≠ k → ∀ g,ablk a.xA = some g → ablk b.xA ≠ some g
section
variable {w W : World} {B cap j gb : Nat} {A : Option Addr} {es0 es : List Cc} {st : List Co} {e' : Cc} {c : Co}
theorem Cln.start (h : w.ownsRow B 48 3 (.slice A st.length cap) st.length (cellsC es)) (hl : es.length = st.length) : Cln w B A cap es es st 0 :=
 ⟨h,hl,fun _ _ _ h => absurd h (Nat.not_lt_zero _),fun _ _ => rfl,fun _ _ _ _ h => absurd h (Nat.not_lt_zero _),fun _ _ _ _ h => absurd h (Nat.not_lt_zero _)⟩
theorem Cln.finish (h : Cln w B A cap es0 es st j) (hj : st.length ≤ j) : Own w B A cap es st := by
 have hlt : ∀ (i : Nat) (a : Cc),es[i]? = some a → i < j := fun i a ha => by
  have := (List.getElem?_eq_some_iff.1 ha).1;have := h.len;omega
 exact ⟨h.row,⟨h.len,fun i a c ha hc => h.done i a c (hlt i a ha) ha hc⟩,fun i k a b ha hb => h.distD i k a b (hlt i a ha) (hlt k b hb) ha hb,fun i k a b ha hb => h.distX i k a b (hlt i a ha) (hlt k b hb) ha hb⟩
theorem Cln.step (h : Cln w B A cap es0 es st j) (hB : B ≤ w.heap.size) (hj : j < st.length) (hc : st[j]? = some c) (hA : A = some ⟨gb,0,none⟩) (hgb : B ≤ gb) (hk : Kept (fun k => k = gb) w W)
 (hrow : W.ownsRow B 48 3 (.slice A st.length cap) st.length (cellsC (es.set j e'))) (hco : OwnCo W B e' c) (hD : ∀ g,ablk e'.dA = some g → w.heap.size ≤ g) (hX : ∀ g,ablk e'.xA = some g → w.heap.size ≤ g) : Cln W B A cap es0 (es.set j e') st (j + 1) := by
 have hje : j < es.length := by rw [h.len];exact hj
 have hgA : ablk A = some gb := by rw [hA];rfl
 have hs : ∀ q,q = gb → B ≤ q := fun q hq => hq ▸ hgb
 have hset : ∀ i,i ≠ j → (es.set j e')[i]? = es[i]? := fun i hi => List.getElem?_set_ne (Ne.symm hi)
 have hsj : (es.set j e')[j]? = some e' := by rw [List.getElem?_set_self hje]
 have hold : ∀ i a,i < j → es[i]? = some a → (∀ g,ablk a.dA = some g → g < w.heap.size) ∧ (∀ g,ablk a.xA = some g → g < w.heap.size) ∧ (∀ g,ablk a.dA = some g → ¬ g = gb) ∧ (∀ g,ablk a.xA = some g → ¬ g = gb) := fun i a hi ha => by
  have hst : i < st.length := by omega
  have ho := h.done i a st[i] hi ha (List.getElem?_eq_getElem hst);obtain ⟨cs,r1,-⟩ := ho.docs;exact ⟨fun g hg => (World.ownsRow.lt r1 g (by rw [ownBlock_slice];exact hg)).2,fun g hg => (World.ownsRow.lt ho.ixs g (by rw [ownBlock_slice];exact hg)).2,
   fun g hg e => ownT r1 h.row (by decide) g hg (e ▸ hgA),fun g hg e => ownT ho.ixs h.row (by decide) g hg (e ▸ hgA)⟩
 refine ⟨hrow,by rw [List.length_set];exact h.len,fun i a c' hi ha hc' => ?_,fun i hi => by rw [hset i (by omega)];exact h.rest i (by omega),fun i k a b hi hk ha hb hne g hg => ?_,fun i k a b hi hk ha hb hne g hg => ?_⟩
 ·by_cases hij : i = j
  ·subst hij;rw [hsj] at ha;rw [hc] at hc'
   cases ha
   cases hc'
   exact hco
  rw [hset i hij] at ha;obtain ⟨-,-,h1,h2⟩ := hold i a (by omega) ha;exact (h.done i a c' (by omega) ha hc').keep hk hB hs h1 h2
 ·by_cases hij : i = j
  ·subst hij;rw [hsj] at ha
   cases ha
   rw [hset k (Ne.symm hne)] at hb;intro h2;have h3 := (hold k b (by omega) hb).1 g h2;have h4 := hD g hg;omega
  rw [hset i hij] at ha;by_cases hkj : k = j
  ·subst hkj;rw [hsj] at hb
   cases hb
   intro h2;have h3 := (hold i a (by omega) ha).1 g hg;have h4 := hD g h2;omega
  rw [hset k hkj] at hb;exact h.distD i k a b (by omega) (by omega) ha hb hne g hg
 by_cases hij : i = j
 ·subst hij;rw [hsj] at ha
  cases ha
  rw [hset k (Ne.symm hne)] at hb;intro h2;have h3 := (hold k b (by omega) hb).2.1 g h2;have h4 := hX g hg;omega
 rw [hset i hij] at ha;by_cases hkj : k = j
 ·subst hkj;rw [hsj] at hb
  cases hb
  intro h2;have h3 := (hold i a (by omega) ha).2.1 g hg;have h4 := hX g h2;omega
 rw [hset k hkj] at hb;exact h.distX i k a b (by omega) (by omega) ha hb hne g hg
end
end
section
open Go.RowKit
def Bare (w : World) (S : Nat → Prop) : Prop := ∀ (p : Addr) (u : Value),S p.block → w.cell? p = some u → (∀ n,u ≠ .int .u8 n) ∧ (∀ n,u ≠ .int .u64 n) ∧ ∀ s,u ≠ .string s
theorem Bare.u8 {w : World} {S : Nat → Prop} (h : Bare w S) {p : Addr} {n : Int} (hc : AtW w 0 w.heap.size p (.int .u8 n)) : AtX w S p (.int .u8 n) := ⟨hc.1,hc.2.2,fun hs => (h p _ hs hc.1).1 n rfl⟩
theorem Bare.str {w : World} {S : Nat → Prop} (h : Bare w S) {p : Addr} {s : ByteArray} (hc : AtW w 0 w.heap.size p (.string s)) : AtX w S p (.string s) := ⟨hc.1,hc.2.2,fun hs => (h p _ hs hc.1).2.2 s rfl⟩
theorem Bare.at5 {w : World} {S : Nat → Prop} (h : Bare w S) {bk o : Nat} {c : Cv} (hc : At5 (AtW w 0 w.heap.size) bk o c) : At5 (AtX w S) bk o c := by
 obtain ⟨h0,h1,h2,h3,h4⟩ := hc;have hn : ¬ S bk := fun hs => (h ⟨bk,o + 1,none⟩ _ hs h1.1).2.1 _ rfl
 exact ⟨⟨h0.1,h0.2.2,hn⟩,⟨h1.1,h1.2.2,hn⟩,⟨h2.1,h2.2.2,hn⟩,⟨h3.1,h3.2.2,hn⟩,⟨h4.1,h4.2.2,hn⟩⟩
theorem IsV.bare {w : World} {S : Nat → Prop} (h : Bare w S) (v : V) : ∀ c,IsV (AtW w 0 w.heap.size) v c → IsV (AtX w S) v c := by
 induction v using V.ind with
 | h k n b l f hl hf =>
  intro c hv;rw [IsV] at hv ⊢;obtain ⟨e1,e2,e3,e4,e5,h1,h2,h3,h4,h5,h6,h7,h8,h9,hb,hL,hF⟩ := hv;refine ⟨e1,e2,e3,e4,e5,h1,h2,h3,h4,h5,h6,h7,h8,h9,⟨hb.1,fun hn => ?_⟩,fun i hi => ?_,fun i hi => ?_⟩
  ·obtain ⟨bk,o,e,hc⟩ := hb.2 hn;refine ⟨bk,o,e,fun j u hu => ?_⟩;have hu' := hc j u hu;unfold u8s at hu;rw [List.getElem?_map] at hu
   cases hx : b[j]? with
   | none => rw [hx] at hu;cases hu
   | some x =>
    rw [hx] at hu
    cases hu
    exact h.u8 hu'
  ·obtain ⟨bk,o,x,e,k0,kv⟩ := hL i hi;exact ⟨bk,o,x,e,h.at5 k0,hl _ (List.getElem_mem _) _ kv⟩
  obtain ⟨bk,o,x,e,ks,kz,k0,kv⟩ := hF i hi;exact ⟨bk,o,x,e,h.str ks,kz,h.at5 k0,hf _ (List.getElem_mem _) _ kv⟩
theorem Reads.bare {w : World} {S : Nat → Prop} (h : Bare w S) {z : Nat} {A : Option Addr} {n : Nat} {xs : List Value} (hr : Reads (AtW w 0 w.heap.size) z A n xs) (h0 : 0 < n → ∃ s,xs[0]? = some (.string s)) : Reads (AtX w S) z A n xs :=
 ⟨hr.1,fun hn => by
  obtain ⟨bk,o,e,hc⟩ := hr.2 hn;obtain ⟨s,hs⟩ := h0 hn;have hn : ¬ S bk := fun hS => (h _ _ hS (hc 0 _ hs).1).2.2 s rfl
  exact ⟨bk,o,e,fun j u hu => ⟨(hc j u hu).1,(hc j u hu).2.2,hn⟩⟩⟩
theorem cellsX_first {xs : List Ix} (h : 0 < xs.length) : ∃ s,(cellsX xs)[0]? = some (.string s) := by
 cases xs with
 | nil => simp at h
 | cons x r => exact ⟨x.name,rfl⟩
theorem cellsC_first {es : List Cc} (h : 0 < es.length) : ∃ s,(cellsC es)[0]? = some (.string s) := by
 cases es with
 | nil => simp at h
 | cons x r => exact ⟨x.nm,rfl⟩
theorem CoR.bare {w : World} {S : Nat → Prop} (h : Bare w S) {e : Cc} {c : Co} (k : CoIn w e c) : CoR (AtX w S) e c :=
 ⟨k.nm,k.dn,k.xn,k.xc,IsV.bare h _ _ k.docs,k.ixs.bare h cellsX_first⟩
theorem StIn.bare {w w' : World} {S : Nat → Prop} {A : Option Addr} {cap : Nat} {st : List Co} (hst : StIn w A cap st) (h : Bare w S) (hk : Kept S w w') : StIn w' A cap st := by
 obtain ⟨hc,es,h1,h2⟩ := hst;refine ⟨hc,es,h1.mono fun a b k => ((CoR.bare h k).mono (AtX.kept hk fun _ h => h)).mono AtX.atW,((h2.bare h fun hn => cellsC_first (by rw [h1.1];exact hn)).mono (AtX.kept hk fun _ h => h)).mono AtX.atW⟩
theorem InL.bare {w w' : World} {S : Nat → Prop} {A : Option Addr} {cap : Nat} {l : List V} (hl : InL w A cap l) (h : Bare w S) (hk : Kept S w w') : InL w' A cap l :=
 IsV.mono AtX.atW _ _ (IsV.mono (AtX.kept hk fun _ h => h) _ _ (IsV.bare h _ _ hl))
theorem Bare.reply {w : World} {rb : Nat} {T : TypeId} {e n k : Int} {A : Option Addr} {l c : Nat} (hb : Blk w rb T (rpCells e n A l c k)) : Bare w (fun q => q = rb) := by
 intro p u hp hc;obtain ⟨g,o,pr⟩ := p;have hp' : g = rb := hp;subst hp'
 cases pr with
 | some x =>
  unfold World.cell? at hc;rw [show w.heap[g]? = _ from hb] at hc;simp at hc
 | none =>
 rw [hb.cell] at hc;have ho : o < 4 := by
  rcases Nat.lt_or_ge o 4 with h | h
  ·exact h
  rw [Array.getElem?_eq_none (by simpa using h)] at hc;cases hc
 have h4 : o = 0 ∨ o = 1 ∨ o = 2 ∨ o = 3 := by omega
 rcases h4 with rfl | rfl | rfl | rfl <;> cases hc <;> refine ⟨fun n h => ?_,fun n h => ?_,fun s h => ?_⟩ <;> cases h
end
section
open Go.RowKit
theorem assertE_yes (W : World) (v : Value) : (Instr.typeAssert (.iface 29 v) 20 29 true).run Tryz.prog W = .ok (.tuple #[v,.bool true]) W := by kernel_rfl
theorem assertE_nil (W : World) : (Instr.typeAssert .nilIface 20 29 true).run Tryz.prog W = .ok (.tuple #[.int .i64 0,.bool false]) W := by kernel_rfl
def doCaught (w : World) (ob rb : Nat) (s : Value) (e : Int) : World :=
 ((((w.setCell ⟨ob,0,none⟩ s).setCell ⟨rb,0,none⟩ (.int .i64 e)).setCell ⟨rb,1,none⟩ (.int .i64 0)).setCell ⟨rb,2,none⟩ (.slice none 0 0)).setCell ⟨rb,3,none⟩ (.int .i64 0)
theorem catchDo_err (sb ob rb cap : Nat) (A : Option Addr) (e : Int) (st : List Co) (x r0 r1 r2 r3 : Value) (older : List PanicEntry) (w : World) (hs : Blk w sb 44 #[.slice A st.length cap]) (ho : Blk w ob 44 #[x]) (hr : Blk w rb 31 #[r0,r1,r2,r3]) (hne : ob ≠ rb)
 (hC : Calls Tryz.prog 37 #[.agg #[.slice A st.length cap]] w (CpyC w st)) :
 CallsD Tryz.prog 41 #[.pointer (some ⟨sb,0,none⟩),.pointer (some ⟨ob,0,none⟩),.pointer (some ⟨rb,0,none⟩)] (.panicking ({ v := .iface 29 (.int .i64 e),recovered := false } :: older)) w fun r u' w' =>
  r = .returned (.tuple #[]) ∧ u' = .panicking ({ v := .iface 29 (.int .i64 e),recovered := true } :: older) ∧ ∃ A' c' es w1,Grow w w1 ∧ CR (fun q => q < w.heap.size) w1 w.heap.size A' c' es st ∧ w' = doCaught w1 ob rb (.slice A' st.length c') e := by
 have hsc := hs.cell;have HO := hide ho;have HR := hide hr;have HC := hide hC;have hta := assertE_yes;clear hs ho hr hC;refine callsD_of_wpS Tryz.func41 rfl fun c₀ cs hu => ?_
 apply wpS_seq;apply wpS_region;simp [wpOpsS,go_sem,recoverD,hu,Tryz.ntmps41,Exit.thenS];simp only [Array.replicate,List.replicate,Array.setIfInBounds];refine wpS_of_wp ?_;clear hu;go_wp2_with fail;refine HC.out.mono ?_;rintro ee w1 ⟨hg,A1,c1,es1,rfl,hst⟩;have hoc := (HO.out.grow hg).cell;have hof := (HO.out.grow hg).frozen;have hrc := (HR.out.grow hg).cell;have hrf := (HR.out.grow hg).frozen;have HG := hide hg;have HST := hide hst;clear hg hst hsc;go_wp2_with fail;simp [bodyPostS,results,Tryz.results41,go_sem];exact ⟨A1,c1,es1,w1,HG.out,HST.out,rfl⟩
theorem catchDo_idle (sb ob rb : Nat) (w : World) :
 CallsD Tryz.prog 41 #[.pointer (some ⟨sb,0,none⟩),.pointer (some ⟨ob,0,none⟩),.pointer (some ⟨rb,0,none⟩)] .returning w fun r u' w' =>
  r = .returned (.tuple #[]) ∧ u' = .returning ∧ w' = w := by
 have hta := assertE_nil;refine callsD_of_wpS Tryz.func41 rfl fun c₀ cs hu => ?_
 apply wpS_seq;apply wpS_region;simp [wpOpsS,go_sem,recoverD,hu,Tryz.ntmps41,Exit.thenS];simp only [Array.replicate,List.replicate,Array.setIfInBounds];refine wpS_of_wp ?_;go_wp2_with fail
 cases c₀
 simp_all [bodyPostS,results,Tryz.results41,go_sem]
end
end Go.Proofs.YtndjopkdbdcmdaaGreatDoor
