/- Part 19 of the proof of pknown_card. -/
import Derived.Test.YtndjopkdbdcmdaaGreatDoorPky16
set_option linter.unusedVariables false
set_option linter.unusedSimpArgs false
set_option maxRecDepth 100000
set_option maxHeartbeats 12800000
namespace Go.Proofs.YtndjopkdbdcmdaaGreatDoor
section
open Go.RowKit
theorem find_ix (N B mb cap : Nat) (A : Option Addr) (es : List Cc) (st : List Co) (q : Rq) (ck cl ch cx : Cv) (w : World) (h : Mach w B mb A cap es st q ck cl ch cx) (hok : StOk N st) (hN : N ≤ 1000000) (hf : plF (cnm st) q.coll = true) (hFF : plF (xnm (coAt st q.coll)) q.index = true) (hTB : ∀ W, Below B w W → Tabs W ∧ Len1 W) (hlc : q.low.count ≤ 20000) (hhc : q.high.count ≤ 20000) :
 Calls Tryz.prog 86 #[.pointer (some ⟨mb, 0, none⟩)] w (MethC w B mb (findP st q)) := by
 have hs : st.length ≤ 140737488355328 := Mach.short hok;have hT := (hTB w (Below.refl _ _)).1;have hL1 := (hTB w (Below.refl _ _)).2;have HM := hide h;have HOK := hide hok;skip;obtain ⟨gb, hA, hgb, hgl, hne⟩ := h.gb hf;obtain ⟨⟨nm, dA, dn, dc, xA, xn, xc⟩, he, hco, hcell⟩ := h.co hf hA;obtain ⟨c, hc⟩ : ∃ c, coAt st q.coll = c := ⟨_, rfl⟩;have hmem := (coAt_mem hf).2.1;have hlt := (coAt_mem hf).2.2.2;have hlt0 : plN (cnm st) q.coll < es.length := by rw [h.el]; exact hlt
 rw [hc] at hco hmem;have hcok := hok.co c hmem;have hnd := hcok.nd;have hnx := hcok.nx;have HC := hide (coll_m h hs hf hA);have HF := hide hf;have HGB := hide hgb;have HNE := hide hne;have HGL := hide hgl;have HHA := hide hA;have HHE := hide he;have HCO := hide hco;have HCOK := hide hcok;have HCELL := hide hcell;have HCC := hide hc;obtain ⟨P, hP⟩ : ∃ P, plN (cnm st) q.coll = P := ⟨_, rfl⟩;have HP := hide hP;rw [hP] at HC HHE HCELL hlt hlt0;have HLT := hide hlt;have HLT0 := hide hlt0;have HCA := hide (fun (w1 : World) (hg : Grow w w1) => show w1.cell? ⟨gb, P * 3, none⟩ = some (.string nm) ∧ w1.cell? ⟨gb, P * 3 + 1, none⟩ = some (.slice dA c.docs.length dc) ∧ w1.cell? ⟨gb, P * 3 + 2, none⟩ = some (.slice xA c.ixs.length xc) from
  ⟨(hg.below.cell (p := ⟨gb, P * 3, none⟩) hgl).trans (HCELL.out 0 (.string nm) rfl), (hg.below.cell (p := ⟨gb, P * 3 + 1, none⟩) hgl).trans ((HCELL.out 1 (.slice dA dn dc) rfl).trans (by rw [show dn = c.docs.length from hco.dn])), (hg.below.cell (p := ⟨gb, P * 3 + 2, none⟩) hgl).trans ((HCELL.out 2 (.slice xA xn xc) rfl).trans (by rw [show xn = c.ixs.length from hco.xn]))⟩)
 have HIX := hide (fun (w1 : World) (hg : Grow w w1) => index_m (P := P) (gb := gb) (h.grow hg) (hco.grow h.le hg) (fun i v hi => (hg.below.cell (p := ⟨gb, P * 3 + i, none⟩) hgl).trans (HCELL.out i v hi)) (Nat.lt_of_lt_of_le hgl hg.size) (by omega));have HLOW := hide (fun (w1 : World) (hg : Grow w w1) => good_any q.low w1 cl hlc (hT.grow hg) ((h.low.in_ h.le).grow hg));have HHIGH := hide (fun (w1 : World) (hg : Grow w w1) => good_any q.high w1 ch hhc (hT.grow hg) ((h.high.in_ h.le).grow hg));have HKL := hide (In.k_ (h.low.in_ h.le));have HKH := hide (In.k_ (h.high.in_ h.le));have HTB := hide hTB;have HT := hide hT;have HL1 := hide hL1;have HLC := hide hlc;have HHC := hide hhc;have hFF' := hFF;rw [hc] at hFF';obtain ⟨FF, hFB⟩ : ∃ b, b = true := ⟨_, rfl⟩;rw [← hFB] at hFF';obtain ⟨I, hI⟩ : ∃ b, plN (xnm c) q.index = b := ⟨_, rfl⟩;rw [hFF', hI] at HIX;have HFF := hide hFF'
 have HI := hide hI;clear h hok hf hA he hco hcell hc hcok hmem hP hlt hlt0 hT hL1 hTB hlc hhc hFF hFF' hI;go_enter Tryz.func86, Tryz.ntmps86;go_wp2_with fail;refine HC.out.mono ?_;rintro e w1 ⟨rfl, hg1⟩;have HG1 := hide hg1;clear hg1;go_wp2_with fail;refine (HIX.out w1 HG1.out).mono ?_;rintro e w2 ⟨rfl, hg2⟩;have HG2 := hide (HG1.out.trans hg2);have HM2 := hide (HM.out.grow HG2.out);have hm := HM2.out.blk.cell;clear hg2;have hthere : (FF = true ∨ q.index = ⟨#[]⟩) ∨ (FF = false ∧ q.index ≠ ⟨#[]⟩) := by
  cases FF
  ·rcases Classical.em (q.index = ⟨#[]⟩) with h | h
   ·exact .inl (.inr h)
   exact .inr ⟨rfl, h⟩
  exact .inl (.inl rfl)
 rcases hthere with hth | ⟨hf0, hne0⟩
 rotate_left
 ·exact absurd (hFB.symm.trans hf0) (by decide)
 have hx : FF = true → q.index ≠ ⟨#[]⟩ := fun ht e => by
  have hmem := (plF_iff HCOK.out.ixs q.index).1 (by rw [HFF.out]; exact ht);obtain ⟨x, hx, hxe⟩ := List.mem_map.1 hmem;have hn := HCOK.out.xnm x hx;rw [hxe, e] at hn;exact absurd hn (by decide)
 subst hFB;have hne0 : q.index ≠ ⟨#[]⟩ := hx rfl;have hie : q.index.toList.isEmpty = false := by
  rcases hx : q.index.toList.isEmpty with _ | _
  ·rfl
  exfalso; apply hne0; apply byteArray_inj; rw [← toList_data]; simpa using hx
 have hie2 : ¬ q.index.toList = [] := by simpa using hie
 have HNE0 := hide hne0;have HNOT := hide (show ¬ (plF (xnm c) q.index = false ∧ q.index ≠ ⟨#[]⟩) from fun h => by rw [HFF.out] at h; cases h.1);clear hne0 hth hx;by_cases hn1 : 1 ≤ q.n
 case neg =>
  have hn1i : decide (1 ≤ q.n) = false := by simp; omega
  go_wp2_with fail;refine (pmust_yes 5 w2).mono ?_;rintro e w3 ⟨rfl, rfl⟩;go_wp2_with fail;refine (pmust_no 1 w2).mono ?_;rintro e w3 ⟨rfl, rfl⟩;go_wp2_with fail;exact ⟨rfl, MethC.err (HG2.out.below.mono HM.out.le) (by unfold findP; rw [if_neg (by rw [HF.out]; decide), HCC.out, if_neg HNOT.out, if_pos (by omega)])⟩
 by_cases hn64 : q.n ≤ 64
 case neg =>
  have hn64i : decide (q.n ≤ 64) = false := by simp; omega
  go_wp2_with fail;refine (pmust_yes 5 w2).mono ?_;rintro e w3 ⟨rfl, rfl⟩;go_wp2_with fail;refine (pmust_no 1 w2).mono ?_;rintro e w3 ⟨rfl, rfl⟩;go_wp2_with fail;exact ⟨rfl, MethC.err (HG2.out.below.mono HM.out.le) (by unfold findP; rw [if_neg (by rw [HF.out]; decide), HCC.out, if_neg HNOT.out, if_pos (by omega)])⟩
 go_wp2_with fail;refine (pmust_yes 5 w2).mono ?_;rintro e w3 ⟨rfl, rfl⟩;go_wp2_with fail;refine (pmust_yes 1 w2).mono ?_;rintro e w3 ⟨rfl, rfl⟩;have HN1 := hide hn1;have HN64 := hide hn64;clear hn1 hn64;go_wp2_with fail;go_big_quiet (fail);have HG3 := hide (HG2.out.drewN nq);have HM3 := hide (HM.out.grow HG3.out);generalize w2.drewN nq = w3 at HG3 HM3 ⊢;clear hm;have hilo := idx_low cl ch;have hihi := idx_high cl ch;go_wp2_with fail;go_loopg [61] 3 (fun gk i wr => ∃ j : Nat, j ≤ 2 ∧ gk + j = 3 ∧ i = .int .i64 j ∧ (0 < j → bndE q.low = 0) ∧ (1 < j → bndE q.high = 0) ∧ Grow w3 wr)
 case atStart => exact ⟨0, Nat.zero_le _, rfl, rfl, fun h => absurd h (by omega), fun h => absurd h (by omega), Grow.refl w3⟩
 case round =>
  obtain ⟨j, hj, hg, rfl, hb1, hb2, hgr⟩ := hrel;obtain ⟨gk', rfl⟩ := gk_ gk (by omega);have HB1 := hide hb1;have HB2 := hide hb2;have HGR := hide hgr;have HGW := hide (HG3.out.trans hgr);clear hb1 hb2 hgr;have hj3 : j = 0 ∨ j = 1 ∨ j = 2 := by omega
  rcases hj3 with rfl | rfl | rfl
  ·have hv := (Blk.new wr 27 cl.cells).cell;have HGA := hide (HGW.out.alloc (.cells cl.cells 27));have HGA3 := hide (HGR.out.alloc (.cells cl.cells 27));by_cases hk : cl.k = 0
   ·have hk0 : (cl.k != 0) = false := by simp [hk]
    have BE : bndE q.low = 0 := by unfold bndE; rw [if_pos (by rw [← HKL.out]; exact hk)]
    clear hk;go_wp2_with fail;go_roundg gk'
    case measure => omega
    case rel => exact ⟨1, by omega, by omega, by go_num, fun _ => BE, fun h => absurd h (by omega), HGA3.out⟩
   have hk0 : (cl.k != 0) = true := by simp [hk]
   have BE0 : bndE q.low = q.low.good := by unfold bndE; rw [if_neg (by rw [← HKL.out]; exact hk)]
   obtain ⟨G, hG⟩ : ∃ g, q.low.good = g := ⟨_, rfl⟩;have HGD := hide (HLOW.out _ HGA.out);rw [hG] at HGD BE0;have HBE := hide BE0;clear hk hG BE0;go_wp2_with fail;refine HGD.out.mono ?_;rintro e w5 ⟨rfl, hg5⟩;have HG5 := hide (HGA.out.trans hg5);have HG35 := hide (HGA3.out.trans hg5);clear hg5 hv;by_cases hz : G = 0
   ·subst hz;go_wp2_with fail;refine (right_yes w5).mono ?_;rintro e w6 ⟨rfl, rfl⟩;have BE := HBE.out;go_wp2_with fail;go_roundg gk'
    case measure => omega
    case rel => exact ⟨1, by omega, by omega, by go_num, fun _ => BE, fun h => absurd h (by omega), HG35.out⟩
   go_wp2_with fail;refine (right_no G hz w5).mono ?_;rintro e w6 ⟨rfl, rfl⟩;go_wp2_with fail;exact ⟨rfl, MethC.err (HG5.out.below.mono HM.out.le) (by unfold findP; rw [if_neg (by rw [HF.out]; decide), HCC.out, if_neg HNOT.out, if_neg (by have := HN1.out; have := HN64.out; omega), if_pos (by rw [HBE.out]; exact hz), HBE.out])⟩
  ·have hv := (Blk.new wr 27 ch.cells).cell;have HGA := hide (HGW.out.alloc (.cells ch.cells 27));have HGA3 := hide (HGR.out.alloc (.cells ch.cells 27));by_cases hk : ch.k = 0
   ·have hk0 : (ch.k != 0) = false := by simp [hk]
    have BE : bndE q.high = 0 := by unfold bndE; rw [if_pos (by rw [← HKH.out]; exact hk)]
    clear hk;go_wp2_with fail;go_roundg gk'
    case measure => omega
    case rel => exact ⟨2, by omega, by omega, by go_num, fun _ => HB1.out (by omega), fun _ => BE, HGA3.out⟩
   have hk0 : (ch.k != 0) = true := by simp [hk]
   have BE0 : bndE q.high = q.high.good := by unfold bndE; rw [if_neg (by rw [← HKH.out]; exact hk)]
   obtain ⟨G, hG⟩ : ∃ g, q.high.good = g := ⟨_, rfl⟩;have HGD := hide (HHIGH.out _ HGA.out);rw [hG] at HGD BE0;have HBE := hide BE0;clear hk hG BE0;go_wp2_with fail;refine HGD.out.mono ?_;rintro e w5 ⟨rfl, hg5⟩;have HG5 := hide (HGA.out.trans hg5);have HG35 := hide (HGA3.out.trans hg5);clear hg5 hv;by_cases hz : G = 0
   ·subst hz;go_wp2_with fail;refine (right_yes w5).mono ?_;rintro e w6 ⟨rfl, rfl⟩;have BE := HBE.out;go_wp2_with fail;go_roundg gk'
    case measure => omega
    case rel => exact ⟨2, by omega, by omega, by go_num, fun _ => HB1.out (by omega), fun _ => BE, HG35.out⟩
   go_wp2_with fail;refine (right_no G hz w5).mono ?_;rintro e w6 ⟨rfl, rfl⟩;go_wp2_with fail;exact ⟨rfl, MethC.err (HG5.out.below.mono HM.out.le) (by unfold findP; rw [if_neg (by rw [HF.out]; decide), HCC.out, if_neg HNOT.out, if_neg (by have := HN1.out; have := HN64.out; omega), if_neg (by rw [HB1.out (by omega)]; simp), if_pos (by rw [HBE.out]; exact hz), HBE.out])⟩
  have HMW := hide (HM.out.grow HGW.out);have HBL := hide (HB1.out (by omega));have HBH := hide (HB2.out (by omega));have hm := HMW.out.blk.cell;obtain ⟨hca0, hca1, hca2⟩ := HCA.out wr HGW.out;obtain ⟨wl, hwl⟩ : ∃ wl : World, wl = wr := ⟨_, rfl⟩;subst hwl;have hIl : I < c.ixs.length := by have := plF_lt HFF.out; rw [HI.out, List.length_map] at this; exact this
  have hIi : (I : Int) < (c.ixs.length : Int) := by omega
  obtain ⟨xbk, xo, hxA, hxb, hxc⟩ := ixs_rowR (HCO.out.grow HM.out.le HGW.out).ixs I hIl;dsimp only at hxA;obtain ⟨xq, hxq⟩ : ∃ x, c.ixs[I] = x := ⟨_, rfl⟩;have hget : c.ixs.getD I Ix.zero = xq := by rw [List.getD_eq_getElem?_getD, List.getElem?_eq_getElem hIl, hxq]; rfl
  have hxc' : ∀ i v, xq.cells[i]? = some v → wl.cell? ⟨xbk, xo + I * 3 + i, none⟩ = some v := fun i v hv => hxc i v (by dsimp only; rw [hget]; exact hv)
  subst hxA;have HS14 := hide (fun (W : World) (hg : Grow wl W) => show W.cell? ⟨gb, P * 3, none⟩ = some (.string nm) ∧ W.cell? ⟨gb, P * 3 + 1, none⟩ = some (.slice dA c.docs.length dc) ∧ W.cell? ⟨gb, P * 3 + 2, none⟩ = some (.slice (some ⟨xbk, xo, none⟩) c.ixs.length xc) ∧ W.cell? ⟨xbk, xo + I * 3, none⟩ = some (.string xq.name) ∧ W.cell? ⟨xbk, xo + I * 3 + 1, none⟩ = some (.string xq.path) ∧ W.cell? ⟨xbk, xo + I * 3 + 2, none⟩ = some (.bool xq.uniq) from
   ⟨(HCA.out W (HGW.out.trans hg)).1, (HCA.out W (HGW.out.trans hg)).2.1, (HCA.out W (HGW.out.trans hg)).2.2, (hg.below.cell (p := ⟨xbk, xo + I * 3, none⟩) hxb).trans (hxc' 0 (.string xq.name) rfl), (hg.below.cell (p := ⟨xbk, xo + I * 3 + 1, none⟩) hxb).trans (hxc' 1 (.string xq.path) rfl), (hg.below.cell (p := ⟨xbk, xo + I * 3 + 2, none⟩) hxb).trans (hxc' 2 (.bool xq.uniq) rfl)⟩)
  have x1 := hxc' 1 (.string xq.path) rfl;have hmem : xq ∈ c.ixs := by rw [← hxq]; exact List.getElem_mem hIl
  have HXP := hide (show xq.path.size ≤ 200 from HCOK.out.path xq hmem);have HXE := hide (HCOK.out.noerr xq hmem);have HFX := hide (show findX c q = xq.path from by unfold findX; rw [HI.out, show c.ixs.getD I ⟨⟨#[]⟩, ⟨#[]⟩, false⟩ = xq from hget]);clear hxc hxc' hget hxq hmem;go_wp2_with fail;clear hca0 hca1 hca2 hm x1;refine wp_region_noPanic ?_;refine wp_region_held_drew (S := fun w' => w'.cell? ⟨gb, P * 3, none⟩ = some (.string nm) ∧ w'.cell? ⟨gb, P * 3 + 1, none⟩ = some (.slice dA c.docs.length dc) ∧ w'.cell? ⟨gb, P * 3 + 2, none⟩ = some (.slice (some ⟨xbk, xo, none⟩) c.ixs.length xc) ∧ w'.cell? ⟨xbk, xo + I * 3, none⟩ = some (.string xq.name) ∧ w'.cell? ⟨xbk, xo + I * 3 + 1, none⟩ = some (.string xq.path) ∧ w'.cell? ⟨xbk, xo + I * 3 + 2, none⟩ = some (.bool xq.uniq)) (by kernel_rfl) (HS14.out _ ((Grow.refl _).drew)) (fun hHeld => ?_);have HGV := hide (HGW.out.drew)
  have HMV := hide (HMW.out.grow ((Grow.refl _).drew));have HGL := hide (show Grow wl wl.drew from (Grow.refl _).drew);generalize wl.drew = W at HGV HMV HGL hHeld ⊢;refine tk_ 0 ?_
  try simp only [ly_]
  refine tk_ 1 ?_
  try simp only [ly_]
  refine tx_ 2 ?_
  try simp only [ly_]
  refine tk_ 3 ?_
  try simp only [ly_]
  refine tk_ 4 ?_
  try simp only [ly_]
  refine tk_ 5 ?_
  try simp only [ly_]
  refine tx_ 6 ?_
  try simp only [ly_]
  refine tk_ 7 ?_
  try simp only [ly_]
  refine tk_ 8 ?_
  try simp only [ly_]
  refine tx_ 9 ?_
  try simp only [ly_]
  refine r1_ 10 (fun K hK => ?_);go_simp;go_at_call 60;refine (entries_any (fun k => k = mb) W.heap.size nm c.docs dA (some ⟨xbk, xo, none⟩) dc c.ixs.length xc xq W (IsV.mono (fun p u hp => hp) _ _ ((HCO.out.grow HM.out.le HGV.out).r (S := fun k => k = mb) HMV.out.le (fun k hk => hk ▸ HM.out.lo) (fun g hg e => by
   obtain ⟨ds, r1, -⟩ := (HCO.out.grow HM.out.le HGV.out).docs;exact ownT_blk r1 HMV.out.blk (by decide) (e ▸ hg)) (fun g hg e => ownT_blk (HCO.out.grow HM.out.le HGV.out).ixs HMV.out.blk (by decide) (e ▸ hg)) (by omega)).docs) (Nat.le_refl _) (by have := HXP.out; omega) HCOK.out.docs HCOK.out.keys (by omega) (HT.out.grow HGV.out) (HL1.out.grow HGV.out)).mono ?_
  rintro ee w8 ⟨hg8, ⟨hne, -⟩ | ⟨-, A9, c9, ens, rfl, hen⟩⟩
  ·exact absurd HXE.out hne
  have HEN := hide hen;have HWS := hide hg8.size;have HG8 := hide (HGV.out.trans hg8);have HGL8 := hide (HGL.out.trans hg8);clear hen hg8;refine hK.out _ _ (HS14.out _ HGL8.out) (fun hHeld => ?_);clear hK K
  try simp only [ly_]
  refine tk_ 11 ?_
  try simp only [ly_]
  refine tk_ 12 ?_
  try simp only [ly_]
  refine tk_ 13 ?_
  try simp only [ly_]
  refine tk_ 14 ?_
  try simp only [ly_]
  refine tk_ 15 ?_
  try simp only [ly_]
  refine dn_ ?_;clear hHeld;go_wp2_with fail;go_loopg [7, 105] ((entP xq.path c.docs).length + 1) (fun gk o i wr => ∃ (j : Nat) (A6 : Option Addr) (c6 : Nat) (cs : List Cv), j ≤ (entP xq.path c.docs).length ∧ gk + j = (entP xq.path c.docs).length + 1 ∧ i = .int .i64 j ∧ o = .slice A6 cs.length c6 ∧ VR (fun k => k = mb) wr w8.heap.size A6 c6 cs (((entP xq.path c.docs).take j).map fun x => x.2.2) ∧ Grow w8 wr)
  case atStart => exact ⟨0, none, 0, [], Nat.zero_le _, rfl, rfl, rfl, GR.nil _, Grow.refl _⟩
  case round =>
   obtain ⟨j, A6, c6, cs, hj, hg, rfl, rfl, hvr, hgr⟩ := hrel;obtain ⟨gk', rfl⟩ := gk_ gk (by omega);have HVR := hide hvr;have HGR := hide hgr;have HCL := hide (show cs.length = j from by rw [hvr.two.1, List.length_map, List.length_take]; omega);have hEl := entP_leF xq.path c.docs;clear hvr hgr;by_cases hlt : j < (entP xq.path c.docs).length
   ·have hlt' : j < ens.length := by rw [HEN.out.two.1]; exact hlt
    obtain ⟨g, cur, hA, hb, hgg, hnc, hcm, hcs, ht, -⟩ := own_open HEN.out.row (by omega);subst hA;have hev := HEN.out.two.at_ hlt' hlt;obtain ⟨⟨eb, eA, ec, ez, ed⟩, hee⟩ : ∃ x, ens[j] = x := ⟨_, rfl⟩;rw [hee] at hev;have hcell : ∀ (k : Nat), k < 7 → ∀ v, (Ent.cells ⟨eb, eA, ec, ez, ed⟩).toList[k]? = some v → wr.cell? ⟨g, j * 7 + k, none⟩ = some v := fun k hk v hv => by
     refine (HGR.out.below.cell (p := ⟨g, j * 7 + k, none⟩) (Array.getElem?_eq_some_iff.1 hgg).1).trans (own_cell hgg ht _ _ ?_);rw [cellsE, fz_get _ 7 (fun _ => rfl) ens j k hk ens[j] (List.getElem?_eq_getElem hlt'), hee];exact hv
    have a0 := hcell 0 (by omega) _ rfl;have a1 := hcell 1 (by omega) _ rfl;have a2 := hcell 2 (by omega) _ rfl;have a3 := hcell 3 (by omega) _ rfl;have a4 := hcell 4 (by omega) _ rfl;have a5 := hcell 5 (by omega) _ rfl;have a6 := hcell 6 (by omega) _ rfl;rw [Nat.add_zero] at a0;have HPART := hide (show InY (fun k => k = mb) wr W.heap.size (entP xq.path c.docs)[j].2.2 ed from InY.below hev.doc HGR.out HWS.out);obtain ⟨iv0, hv0, hv1, hv2, hv3⟩ := info_parts info_val3;have Hv0 := hide hv0;have Hv1 := hide hv1;have Hv2 := hide hv2;have Hv3 := hide hv3;have HVA := hide ((HVR.out.grow vR_mono ((Grow.refl wr).alloc (.cells (Ent.cells ⟨eb, eA, ec, ez, ed⟩) 115))).grow vR_mono ((Grow.refl _).alloc (.cells ed.cells 27)));have HGA := hide ((HGR.out.alloc (.cells (Ent.cells ⟨eb, eA, ec, ez, ed⟩) 115)).alloc (.cells ed.cells 27))
    have hsz : w8.heap.size ≤ ((wr.alloc (.cells (Ent.cells ⟨eb, eA, ec, ez, ed⟩) 115)).alloc (.cells ed.cells 27)).heap.size := HGA.out.size;clear hcell hev hee ht hcs hcm hnc hgg hb hv0 hv1 hv2 hv3;go_wp2_with (first | (at_builtin; refine wpList_append_src rfl (.tmp 109) (.tmp 112) 24 24 rfl w8.heap.size 27 iv0 _ 5 88 under_vals Hv0.out Hv1.out Hv2.out Hv3.out rfl (.slice A6 cs.length c6) cs.length (cellsV cs) rfl HVA.out.row _ 1 ed.cells.toList rfl (Src.oneW2 ed 27) (by have := HCL.out; omega) (by simp only [maxLen]; have := HCL.out; omega) hsz ?_; intro A7 c7 w9 hown9 hgr9 hat9) | fail);have hAB : ∀ k, ablk A6 = some k → w8.heap.size ≤ k := fun k hk => (World.ownsRow.lt HVR.out.row k (by rw [ownBlock_slice]; exact hk)).1
    have HV9 := hide (GR.add (f := vF) (z := 5) vR_mono HVA.out (b := (entP xq.path c.docs)[j].2.2) (IsV.mono (fun p u hp => ⟨hp.1, by have h1 := hp.2.1; have h2 := HGA.out.size; have h3 := HWS.out; omega, fun hq => by
     rcases hq with hq | hq
     ·have h1 := hAB _ hq; have h2 := hp.2.1; have h3 := HWS.out; omega
     exact hp.2.2 hq⟩) _ _ (InY.below HPART.out (((Grow.refl wr).alloc (.cells (Ent.cells ⟨eb, eA, ec, ez, ed⟩) 115)).alloc (.cells ed.cells 27)) (Nat.le_trans HWS.out HGR.out.size))) hown9 hgr9 hat9)
    have HG9 := hide (HGA.out.grown hgr9 (fun k hk => hAB k (by rw [ownBlock_slice] at hk; exact hk)));clear hown9 hgr9 hat9 hAB;go_roundg gk'
    case measure => omega
    case rel =>
     refine ⟨j + 1, A7, c7, cs ++ [ed], by omega, by omega, by go_num, by simp, ?_, HG9.out⟩;rw [take_snoc _ j hlt, List.map_append];exact HV9.out
   have hjl : j = (entP xq.path c.docs).length := by omega
   subst hjl;have hvr := HVR.out;rw [List.take_length] at hvr;obtain ⟨ds, hds⟩ : ∃ d, (entP xq.path c.docs).map (fun x => x.2.2) = d := ⟨_, rfl⟩;rw [hds] at hvr;replace HGW := hide (HG8.out.trans HGR.out);replace HMW := hide (HM.out.grow HGW.out);have hcl2 : cs.length = ds.length := hvr.two.1;have HDL := hide (VR.list hvr (fun g hg e => ownT_blk hvr.row HMW.out.blk (by decide) (e ▸ hg)) (by rw [← hds, List.length_map]; omega));have HFD := hide (show findDocs c q = ds by unfold findDocs; rw [if_neg HNE0.out, HFX.out]; exact hds);have HDS := hide (show ∀ d ∈ ds, d ∈ c.docs from fun d hd => by
    rw [← hds] at hd;obtain ⟨x, hx, rfl⟩ := List.mem_map.1 hd;unfold entP at hx;rw [if_pos HXE.out] at hx;obtain ⟨u, i, hk⟩ := entsL_ok HCOK.out.docs HXE.out x ((sortE_perm _).mem_iff.1 hx);exact hk.mem)
   have hnd2 : ds.length ≤ N := by rw [← hds, List.length_map]; omega
   obtain ⟨wk, hwk⟩ : ∃ wk : World, wk = wr := ⟨_, rfl⟩;subst hwk;rw [hcl2];clear hvr HVR hds hEl hcl2;go_wp2_with fail;go_loopg [117] (ds.length + 1) (fun gk i wr => ∃ (j : Nat) (A6 : Option Addr) (c6 : Nat) (hs : List Cv), j ≤ ds.length ∧ gk + j = ds.length + 1 ∧ i = .int .i64 j ∧ Kept (fun k => k = mb) wk wr ∧ Blk wr mb 96 (mcellsR A st.length cap q.do_ q.coll q.index q.path q.unique ck cl ch cx q.n 0 A6 hs.length c6) ∧
    VR (fun k => k = mb) wr wk.heap.size A6 c6 hs (hitsP c q ds j))
   case atStart => exact ⟨0, none, 0, [], Nat.zero_le _, rfl, rfl, Kept.refl _ _, HMW.out.blk, by
    rw [show hitsP c q ds 0 = [] by unfold hitsP; simp];exact GR.nil _⟩
   case round =>
    obtain ⟨j, A6, c6, hs6, hj, hg, rfl, hkw, hbm, hvr⟩ := hrel;obtain ⟨gk', rfl⟩ := gk_ gk (by omega);have HKW := hide hkw;have HBM := hide hbm;have HVR := hide hvr;have HHL := hide (show hs6.length = (hitsP c q ds j).length from hvr.two.1);have HHN := hide (show hs6.length ≤ j from by rw [hvr.two.1]; exact hitsP_le _ _ _ _);have HBW := hide (show Below B w wr from (HGW.out.below.mono HM.out.le).trans (hkw.below HMW.out.le (fun k hk => hk ▸ HM.out.lo)));have HBWW := hide (fun (W : World) (hg : Grow wr W) => show Below B w W from HBW.out.trans (hg.below.mono (Nat.le_trans HM.out.le HBW.out.size)));clear hkw hbm hvr;by_cases hlt : j < ds.length
    ·obtain ⟨bk2, o2, y, ha, ⟨e0, e1, e2, e3, e4⟩, hy⟩ := (HDL.out.mono (C' := AtY (fun k => k = mb) wr wk.heap.size) (fun p u hp => ⟨(AtX.kept HKW.out (fun _ h => h) p u hp).1, hp.2.1, hp.2.2⟩)).elemG j hlt;dsimp only [lcv] at ha;subst ha;have HYP := hide (show IsV (AtX wr (fun q => ablk A6 = some q ∨ q = mb)) ds[j] y from IsV.mono (fun p u hp => ⟨hp.1, Nat.lt_of_lt_of_le hp.2.1 HKW.out.size, fun hq => by
      rcases hq with hq | hq
      ·have := (World.ownsRow.lt HVR.out.row p.block (by rw [ownBlock_slice]; exact hq)).1; have := hp.2.1; omega
      exact hp.2.2 hq⟩) _ _ hy)
     have HVM := hide (show wr.heap.size ≠ mb from fun e => by have := HBM.out.lt; omega);have d0 := e0.1;have d1 := e1.1;have d2 := e2.1;have d3 := e3.1;have d4 := e4.1;have HIN := hide (show In wr ds[j] y from InY.in_ hy HKW.out.size);have hdok := HCOK.out.docs _ (HDS.out _ (List.getElem_mem hlt));have HDOK := hide hdok;obtain ⟨i0, hi0, hK, hkey, -, -⟩ := hdok.id;have HID := hide (id_any ds[j] y wr (wr.alloc (.cells y.cells 27)) ((Grow.refl wr).alloc _) HIN.out);rw [hi0] at HID;have HI0 := hide hi0;have hv14 := (Blk.new wr 27 y.cells).cell;clear e0 e1 e2 e3 e4 hy hdok hkey;go_wp2_with fail;refine HID.out.mono ?_;rintro e w5 ⟨hg5, ci, t, u, rfl, hu, hor⟩;have hut : u = i0 ∧ t = true := by
      rcases hor with ⟨h, ht⟩ | ⟨h, -⟩
      ·injection h with h; exact ⟨h.symm, ht⟩
      cases h
     obtain ⟨rfl, rfl⟩ := hut;have HU := hide hu;have HG5 := hide (((Grow.refl wr).alloc (.cells y.cells 27)).trans hg5);have HV14 := hide ((Blk.new wr 27 y.cells).grow hg5);have HBM5 := hide (HBM.out.grow HG5.out);have hm5 := HBM5.out.cell;clear hu hor hg5 d0 d1 d2 d3 d4 hv14;have HVB0 := hide (Blk.new w5 27 ci.cells);have HBM0 := hide (HBM5.out.alloc (.cells ci.cells 27));have HG0 := hide (HG5.out.alloc (.cells ci.cells 27));have HV140 := hide (HV14.out.alloc (.cells ci.cells 27));have hm6 := HBM0.out.cell;have hv6 := HV140.out.cell;have HPATH := hide (vpath_any ds[j] xq.path y (w5.alloc (.cells ci.cells 27)) (HTB.out _ (HBWW.out _ HG0.out)).1 (HTB.out _ (HBWW.out _ HG0.out)).2 HDOK.out.count (by have := HXP.out; omega) (HIN.out.grow HG0.out));go_wp2_with fail;clear hm5 hm6 hv6;refine HPATH.out.mono ?_;rintro e w6 ⟨hg6, cp, tp, up, rfl, hup, hor2⟩
     have HVV := hide (show findV q (findX c q) ds[j] = up from by
      unfold findV; rw [if_neg HNE0.out, HFX.out];rcases hor2 with ⟨h, -⟩ | ⟨h, -, h2, -⟩
      ·rw [h]; rfl
      rw [h, h2]; rfl)
     have HVC := hide (show up.count ≤ 20000 from by
      rcases hor2 with ⟨h, -⟩ | ⟨h, -, h2, -⟩
      ·exact Nat.le_trans (pathV_count h) HDOK.out.count
      rw [h2]; exact zero_count)
     have HTH := hide (show w6.there w5.heap.size 0 5 from fun k hk => own_cells (HVB0.out.grow hg6) (0 + k) (by simpa using hk));have HSG := hide (setCells_grown w5.heap.size (some w5.heap.size) rfl cp.cells.toList w6 0);have HSB := hide (show Blk (w6.setCells w5.heap.size 0 cp.cells.toList) w5.heap.size 27 cp.cells from by
      unfold Blk;have := setCells_block w5.heap.size 27 cp.cells.toList w6 0 ci.cells (HVB0.out.grow hg6) (by simp);simpa using this)
     have HG61 := hide (HG0.out.trans hg6);have HBM61 := hide (HBM0.out.grow hg6);have HV61 := hide (HV140.out.grow hg6);have HUP := hide hup;have HUPL := hide (show w5.heap.size < (w5.alloc (.cells ci.cells 27)).heap.size from by simp);clear hup hor2 hg6;go_wp2_with (first
      | ((with_reducible refine at_storeF 27 ?_); refine wpList_store_mid rfl 27 (.tmp 15) (.tmp 136) rfl w5.heap.size 0 cp.cells rfl rfl HTH.out (by kernel_rfl) (by simp [Value.oneCell']) ?_; (generalize w6.setCells w5.heap.size 0 cp.cells.toList = w7 at HSG HSB ⊢); have HBM6 := hide (HBM61.out.own HSG.out (fun k hk e => by cases hk; have h1 := HG5.out.size; have h2 := HBM.out.lt; omega)); have hm7 := HBM6.out.cell)
      | fail)
     have HVB := hide HSB.out;have HG6 := hide (HG61.out.grown HSG.out (fun k hk => by cases hk; exact HG5.out.size));have HV14b := hide (HV61.out.own HSG.out (fun k hk e => by cases hk; have h1 := HG5.out.size; have h2 := HV14.out.lt; omega));have HVI := hide (show In w7 up cp from IsV.mono AtX.atW _ _ (IsV.mono (AtX.kept (Kept.of_grown HSG.out) (S := fun k => some w5.heap.size = some k) (fun _ h => h)) _ _ (IsV.mono (AtX.ofW (Nat.le_refl _) (fun k hk => by cases hk; exact .inl HUPL.out)) _ _ HUP.out)));clear hm7;have HWI := hide (fun (W : World) (hi : In W up cp) (hg : Grow wr W) => show Calls Tryz.prog 128 #[cp.agg, cl.agg, ch.agg] W fun e w' => e = .returned (.bool (withinP (findV q (findX c q) ds[j]) q.low q.high)) ∧ Grow W w' from by
      rw [HVV.out];have hb := HBWW.out W hg;exact within_any up q.low q.high cp cl ch W (V.mild_of HVC.out hi) (V.mild_of HLC.out (HM.out.low.in_ HM.out.le)) (V.mild_of HHC.out (HM.out.high.in_ HM.out.le)) (HTB.out W hb).1 hi ((HM.out.low.below hb (Nat.le_refl _) (Nat.le_refl _)).in_ (Nat.le_trans HM.out.le hb.size)) ((HM.out.high.below hb (Nat.le_refl _) (Nat.le_refl _)).in_ (Nat.le_trans HM.out.le hb.size)))
     rcases Decidable.em (hs6.length < q.n.toNat) with hln | hln
     ·have hlni : (hs6.length : Int) < q.n := by omega
      have HLN := hide hln;clear hln;refine wp_region_noPanic ?_
      refine wp_region_held_drew (S := fun w' => w'.cell? ⟨mb, 29, none⟩ = some (.slice A6 hs6.length c6) ∧ w'.cell? ⟨mb, 26, none⟩ = some (.int .i64 q.n) ∧ w'.cell? ⟨mb, 11, none⟩ = some (.int .i64 cl.k) ∧ w'.cell? ⟨mb, 12, none⟩ = some (.int .u64 cl.n) ∧ w'.cell? ⟨mb, 13, none⟩ = some (.slice cl.aB cl.nB cl.cB) ∧ w'.cell? ⟨mb, 14, none⟩ = some (.slice cl.aL cl.nL cl.cL) ∧ w'.cell? ⟨mb, 15, none⟩ = some (.slice cl.aF cl.nF cl.cF) ∧ w'.cell? ⟨mb, 16, none⟩ = some (.int .i64 ch.k) ∧ w'.cell? ⟨mb, 17, none⟩ = some (.int .u64 ch.n) ∧ w'.cell? ⟨mb, 18, none⟩ = some (.slice ch.aB ch.nB ch.cB) ∧ w'.cell? ⟨mb, 19, none⟩ = some (.slice ch.aL ch.nL ch.cL) ∧ w'.cell? ⟨mb, 20, none⟩ = some (.slice ch.aF ch.nF ch.cF) ∧ w'.cell? ⟨w5.heap.size, 0, none⟩ = some (.int .i64 cp.k) ∧ w'.cell? ⟨w5.heap.size, 1, none⟩ = some (.int .u64 cp.n) ∧ w'.cell? ⟨w5.heap.size, 2, none⟩ = some (.slice cp.aB cp.nB cp.cB) ∧ w'.cell? ⟨w5.heap.size, 3, none⟩ = some (.slice cp.aL cp.nL cp.cL) ∧ w'.cell? ⟨w5.heap.size, 4, none⟩ = some (.slice cp.aF cp.nF cp.cF)) (by kernel_rfl) (⟨HBM6.out.cell 29, HBM6.out.cell 26, HBM6.out.cell 11, HBM6.out.cell 12, HBM6.out.cell 13, HBM6.out.cell 14, HBM6.out.cell 15, HBM6.out.cell 16, HBM6.out.cell 17, HBM6.out.cell 18, HBM6.out.cell 19, HBM6.out.cell 20, HVB.out.cell 0, HVB.out.cell 1, HVB.out.cell 2, HVB.out.cell 3, HVB.out.cell 4⟩) (fun hHeld => ?_)
      replace HVB := hide HVB.out.drew;replace HBM6 := hide HBM6.out.drew;replace HG6 := hide HG6.out.drew;replace HV14b := hide HV14b.out.drew;replace HVI := hide (HVI.out.grow ((Grow.refl _).drew));generalize w7.drew = W6 at HVB HBM6 HG6 HV14b HVI hHeld ⊢;refine tk_ 0 ?_
      try simp only [ly_]
      refine tk_ 1 ?_
      try simp only [ly_]
      refine tk_ 2 ?_
      try simp only [ly_]
      refine tk_ 3 ?_
      try simp only [ly_]
      refine tx_ 4 ?_
      try simp only [ly_]
      refine tk_ 5 ?_
      try simp only [ly_]
      refine tk_ 6 ?_
      try simp only [ly_]
      refine tk_ 7 ?_
      try simp only [ly_]
      refine tk_ 8 ?_
      try simp only [ly_]
      refine tk_ 9 ?_
      try simp only [ly_]
      refine tx_ 10 ?_
      try simp only [ly_]
      refine tk_ 11 ?_
      try simp only [ly_]
      refine tk_ 12 ?_
      try simp only [ly_]
      refine tx_ 13 ?_
      try simp only [ly_]
      refine tk_ 14 ?_
      try simp only [ly_]
      refine tk_ 15 ?_
      try simp only [ly_]
      refine tk_ 16 ?_
      try simp only [ly_]
      refine tk_ 17 ?_
      try simp only [ly_]
      refine tx_ 18 ?_
      try simp only [ly_]
      refine tk_ 19 ?_
      try simp only [ly_]
      refine tk_ 20 ?_
      try simp only [ly_]
      refine tk_ 21 ?_
      try simp only [ly_]
      refine tk_ 22 ?_
      try simp only [ly_]
      refine tx_ 23 ?_
      try simp only [ly_]
      refine r1_ 24 (fun K hK => ?_);go_simp;go_at_call 128;refine (HWI.out W6 HVI.out HG6.out).mono ?_;rintro ee w7 ⟨rfl, hg7⟩;replace HVB := hide (HVB.out.grow hg7);replace HBM6 := hide (HBM6.out.grow hg7);replace HG6 := hide (HG6.out.trans hg7);replace HV14b := hide (HV14b.out.grow hg7);clear hg7;refine hK.out _ _ ⟨HBM6.out.cell 29, HBM6.out.cell 26, HBM6.out.cell 11, HBM6.out.cell 12, HBM6.out.cell 13, HBM6.out.cell 14, HBM6.out.cell 15, HBM6.out.cell 16, HBM6.out.cell 17, HBM6.out.cell 18, HBM6.out.cell 19, HBM6.out.cell 20, HVB.out.cell 0, HVB.out.cell 1, HVB.out.cell 2, HVB.out.cell 3, HVB.out.cell 4⟩ (fun hHeld => ?_);clear hK K
      try simp only [ly_]
      refine tk_ 25 ?_
      try simp only [ly_]
      refine dn_ ?_;clear hHeld hlni;obtain ⟨WB, hWB⟩ : ∃ b, withinP (findV q (findX c q) ds[j]) q.low q.high = b := ⟨_, rfl⟩;rw [hWB];have HWB := hide hWB;clear hWB
      cases WB with
      | false =>
       go_wp2_with fail;go_roundg gk'
       case measure => omega
       case rel =>
        exact ⟨j + 1, A6, c6, hs6, by omega, by omega, by go_num, HKW.out.trans (Kept.grow HG6.out), HBM6.out, by rw [hitsP_no hlt (.inr HWB.out)]; exact HVR.out.grow vR_mono HG6.out⟩
      | true =>
       go_wp2_with fail;refine wp_region_noPanic ?_;refine wp_region_held_drew (S := fun w' => w'.cell? ⟨wr.heap.size, 0, none⟩ = some (.int .i64 y.k) ∧ w'.cell? ⟨wr.heap.size, 1, none⟩ = some (.int .u64 y.n) ∧ w'.cell? ⟨wr.heap.size, 2, none⟩ = some (.slice y.aB y.nB y.cB) ∧ w'.cell? ⟨wr.heap.size, 3, none⟩ = some (.slice y.aL y.nL y.cL) ∧ w'.cell? ⟨wr.heap.size, 4, none⟩ = some (.slice y.aF y.nF y.cF)) (by kernel_rfl) (⟨HV14b.out.cell 0, HV14b.out.cell 1, HV14b.out.cell 2, HV14b.out.cell 3, HV14b.out.cell 4⟩) (fun hHeld => ?_);replace HBM6 := hide HBM6.out.drew;replace HG6 := hide HG6.out.drew;replace HV14b := hide HV14b.out.drew;generalize w7.drew = V at HBM6 HG6 HV14b hHeld ⊢;obtain ⟨iv0, hv0, hv1, hv2, hv3⟩ := info_parts info_val3;have Hv0 := hide hv0;have Hv1 := hide hv1;have Hv2 := hide hv2;have Hv3 := hide hv3;clear hv0 hv1 hv2 hv3;refine tk_ 0 ?_
       try simp only [ly_]
       refine tk_ 1 ?_
       try simp only [ly_]
       refine tk_ 2 ?_
       try simp only [ly_]
       refine tk_ 3 ?_
       try simp only [ly_]
       refine tx_ 5 ?_
       try simp only [ly_]
       refine rr_ [4, 7] ?_;refine rd1_ (fun K hK => ?_) (rd1_ (fun K hK => ?_) AllReadyH.nil)
       ·have hm7 := HBM6.out.cell;go_simp;refine hK.out _ _ ⟨HV14b.out.cell 0, HV14b.out.cell 1, HV14b.out.cell 2, HV14b.out.cell 3, HV14b.out.cell 4⟩ (fun hHeld => ?_);clear hK K hm7
        try simp only [ly_]
        refine tk_ 6 ?_
        try simp only [ly_]
        refine r1_ 7 (fun K hK => ?_);go_simp;have HBMA := hide (HBM6.out.alloc (.cells Cv.zero.cells 27));have HGA := hide (HG6.out.alloc (.cells Cv.zero.cells 27));have HVA := hide (HV14b.out.alloc (.cells Cv.zero.cells 27));refine hK.out _ _ ⟨HVA.out.cell 0, HVA.out.cell 1, HVA.out.cell 2, HVA.out.cell 3, HVA.out.cell 4⟩ (fun hHeld => ?_);clear hK K
        try simp only [ly_]
        refine r1_ 8 (fun K hK => ?_);have HVRA := hide (HVR.out.grow vR_mono HGA.out);refine step_append_src (by rfl) (.tmp 168) (.tmp 171) 24 24 (by rfl) wk.heap.size 27 iv0 _ 5 88 under_vals Hv0.out Hv1.out Hv2.out Hv3.out (by rfl) (.slice A6 hs6.length c6) hs6.length (cellsV hs6) (by rfl) HVRA.out.row _ 1 Cv.zero.cells.toList (by rfl) (Src.oneW (W := V) Cv.zero 27 rfl) (by have := HHN.out; omega) (by simp only [maxLen]; have := HHN.out; omega) (Nat.le_trans HKW.out.size HGA.out.size) ?_;intro A7 c7 w8 hown8 hgr8 hat8;obtain ⟨g7, cur8, hA7, hb8, hgg8, hnc8, hcm8, hcs8, -, -⟩ := own_open hown8 (by omega);subst hA7;have hrb : ∀ k, Value.ownBlock (.slice A6 hs6.length c6) = some k → wk.heap.size ≤ k ∧ k < wr.heap.size := fun k hk => ⟨(World.ownsRow.lt HVR.out.row k hk).1, (World.ownsRow.lt HVR.out.row k hk).2⟩
        have HB8 := hide hb8;have HG7 := hide (show g7 ≠ wr.heap.size from by
         rw [ownBlock_slice, ownBlock_slice] at hat8;rcases hat8 with h1 | h1
         ·have := (hrb g7 (by rw [ownBlock_slice, ← h1]; rfl)).2; omega
         have h2 : g7 = (V.alloc (.cells Cv.zero.cells 27)).heap.size := Option.some.inj h1;have := HVA.out.lt;omega)
        have HK8 := hide (Kept.grown_new (HKW.out.trans (Kept.grow HGA.out)) hgr8 (fun k hk => (hrb k hk).1));have HV8 := hide (HVA.out.own hgr8 (fun k hk e => by have := (hrb k hk).2; omega));have HBM8 := hide (HBMA.out.own hgr8 (fun k hk e => by rw [ownBlock_slice, e] at hk; exact ownT_blk HVR.out.row HBM.out (by decide) hk));have HTH := hide (show w8.there g7 (hs6.length * 5) 5 from fun k hk => own_cells hgg8 (hs6.length * 5 + k) (by rw [hcs8]; omega));have HG7M := hide (show g7 ≠ mb from fun e => ownT_blk hown8 HBM8.out (by decide) (by rw [e]; rfl));have HTH2 := hide (show (w8.setCell ⟨mb, 29, none⟩ (.slice (some ⟨g7, 0, none⟩) (hs6.length + 1) c7)).there g7 (hs6.length * 5) 5 from fun k hk => own_cells ((Below.heap_setCell w8 ⟨mb, 29, none⟩ _ g7 HG7M.out).trans hgg8) (hs6.length * 5 + k) (by rw [hcs8]; omega))
        have HVP := hide (vr_push (d := y) (v := ds[j]) HVRA.out (IsV.mono (AtX.kept (Kept.grow (S := fun _ => False) HGA.out) fun q hq => hq.elim) _ _ HYP.out) hown8 rfl hgr8 hat8);clear hown8 hgr8 hat8 hgg8 hnc8 hcm8 hcs8 hrb hb8;have hlt6 : (hs6.length : Int) < (hs6.length : Int) + 1 := by omega
        refine hK.out _ _ ⟨HV8.out.cell 0, HV8.out.cell 1, HV8.out.cell 2, HV8.out.cell 3, HV8.out.cell 4⟩ (fun hHeld => ?_);clear hK K
        try simp only [ly_]
        refine tk_ 9 ?_
        try simp only [ly_]
        refine tk_ 11 ?_
        try simp only [ly_]
        refine tk_ 12 ?_
        try simp only [ly_]
        refine tk_ 13 ?_
        try simp only [ly_]
        refine rr_ [10, 14] ?_;refine rd1_ (fun K hK => ?_) (rd1_ (fun K hK => ?_) AllReadyH.nil)
        ·rw [if_pos (by rfl)];refine wp_store_mid 27 (.tmp 173) (.tmp 169) rfl g7 (hs6.length * 5) y.cells rfl rfl HTH.out (by kernel_rfl) (by simp [Value.oneCell']) ?_;have HGS := hide (setCells_grown g7 (some g7) rfl y.cells.toList w8 (hs6.length * 5));generalize w8.setCells g7 (hs6.length * 5) y.cells.toList = w9 at HGS HVP ⊢;have HK9 := hide (Kept.grown_new HK8.out HGS.out (fun k hk => by cases hk; exact HB8.out));have HV9 := hide (HV8.out.own HGS.out (fun k hk e => by cases hk; exact HG7.out e));have HBM9 := hide (HBM8.out.own HGS.out (fun k hk e => by cases hk; exact HG7M.out e));have hm9 := HBM9.out.cell;have hf9 := HBM9.out.frozen;refine hK.out _ _ ⟨HV9.out.cell 0, HV9.out.cell 1, HV9.out.cell 2, HV9.out.cell 3, HV9.out.cell 4⟩ (fun hHeld => ?_);clear hK K
         try simp only [ly_]
         refine r1_ 14 (fun K hK => ?_);go_simp;have HBM10 := hide (HBM9.out.set_ 29 (.slice (some ⟨g7, 0, none⟩) (hs6.length + 1) c7));have HK10 := hide (HK9.out.set (p := ⟨mb, 29, none⟩) rfl (.slice (some ⟨g7, 0, none⟩) (hs6.length + 1) c7));have HV10 := hide (HV9.out.far (p := ⟨mb, 29, none⟩) HVM.out (.slice (some ⟨g7, 0, none⟩) (hs6.length + 1) c7));have HVP10 := hide (HVP.out.kept vR_mono (Kept.set (S := fun k => k = mb) (Kept.refl _ w9) (p := ⟨mb, 29, none⟩) rfl (.slice (some ⟨g7, 0, none⟩) (hs6.length + 1) c7)) (fun _ h => h) (fun g hg e => ownT_blk HVP.out.row HBM9.out (by decide) (e ▸ hg)));clear hm9 hf9;refine hK.out _ _ ⟨HV10.out.cell 0, HV10.out.cell 1, HV10.out.cell 2, HV10.out.cell 3, HV10.out.cell 4⟩ (fun hHeld => ?_);clear hK K
         try simp only [ly_]
         refine dn_ ?_;clear hHeld;go_wp2_with fail;go_roundg gk'
         case measure => omega
         case rel =>
          have hl : (hs6 ++ [y]).length = hs6.length + 1 := by simp
          refine ⟨j + 1, some ⟨g7, 0, none⟩, c7, hs6 ++ [y], by omega, by omega, by go_num, HK10.out, by rw [hl]; exact HBM10.out, ?_⟩;rw [hitsP_yes hlt (by rw [← HHL.out]; exact HLN.out) HWB.out];exact HVP10.out
        have hm9 := HBM8.out.cell;have hf9 := HBM8.out.frozen;go_simp;clear hm9 hf9;have HV8b := hide (HV8.out.far (p := ⟨mb, 29, none⟩) HVM.out (.slice (some ⟨g7, 0, none⟩) (hs6.length + 1) c7));refine hK.out _ _ ⟨HV8b.out.cell 0, HV8b.out.cell 1, HV8b.out.cell 2, HV8b.out.cell 3, HV8b.out.cell 4⟩ (fun hHeld => ?_);clear hK K
        try simp only [ly_]
        refine r1_ 10 (fun K hK => ?_);rw [if_pos (by rfl)];refine wp_store_mid 27 (.tmp 173) (.tmp 169) rfl g7 (hs6.length * 5) y.cells rfl rfl HTH2.out (by kernel_rfl) (by simp [Value.oneCell']) ?_;rw [setCells_setCell (p := ⟨mb, 29, none⟩) HG7M.out];have HGS := hide (setCells_grown g7 (some g7) rfl y.cells.toList w8 (hs6.length * 5));generalize w8.setCells g7 (hs6.length * 5) y.cells.toList = w9 at HGS HVP ⊢;have HK9 := hide (Kept.grown_new HK8.out HGS.out (fun k hk => by cases hk; exact HB8.out));have HV9 := hide (HV8.out.own HGS.out (fun k hk e => by cases hk; exact HG7.out e));have HBM9 := hide (HBM8.out.own HGS.out (fun k hk e => by cases hk; exact HG7M.out e));have HBM10 := hide (HBM9.out.set_ 29 (.slice (some ⟨g7, 0, none⟩) (hs6.length + 1) c7));have HK10 := hide (HK9.out.set (p := ⟨mb, 29, none⟩) rfl (.slice (some ⟨g7, 0, none⟩) (hs6.length + 1) c7))
        have HV10 := hide (HV9.out.far (p := ⟨mb, 29, none⟩) HVM.out (.slice (some ⟨g7, 0, none⟩) (hs6.length + 1) c7));have HVP10 := hide (HVP.out.kept vR_mono (Kept.set (S := fun k => k = mb) (Kept.refl _ w9) (p := ⟨mb, 29, none⟩) rfl (.slice (some ⟨g7, 0, none⟩) (hs6.length + 1) c7)) (fun _ h => h) (fun g hg e => ownT_blk HVP.out.row HBM9.out (by decide) (e ▸ hg)));refine hK.out _ _ ⟨HV10.out.cell 0, HV10.out.cell 1, HV10.out.cell 2, HV10.out.cell 3, HV10.out.cell 4⟩ (fun hHeld => ?_);clear hK K
        try simp only [ly_]
        refine dn_ ?_;clear hHeld;go_wp2_with fail;go_roundg gk'
        case measure => omega
        case rel =>
         have hl : (hs6 ++ [y]).length = hs6.length + 1 := by simp
         refine ⟨j + 1, some ⟨g7, 0, none⟩, c7, hs6 ++ [y], by omega, by omega, by go_num, HK10.out, by rw [hl]; exact HBM10.out, ?_⟩;rw [hitsP_yes hlt (by rw [← HHL.out]; exact HLN.out) HWB.out];exact HVP10.out
       go_simp;have HBMA := hide (HBM6.out.alloc (.cells Cv.zero.cells 27));have HGA := hide (HG6.out.alloc (.cells Cv.zero.cells 27));have HVA := hide (HV14b.out.alloc (.cells Cv.zero.cells 27));refine hK.out _ _ ⟨HVA.out.cell 0, HVA.out.cell 1, HVA.out.cell 2, HVA.out.cell 3, HVA.out.cell 4⟩ (fun hHeld => ?_);clear hK K
       try simp only [ly_]
       refine r1_ 4 (fun K hK => ?_);have hm7 := HBMA.out.cell;go_simp;refine hK.out _ _ ⟨HVA.out.cell 0, HVA.out.cell 1, HVA.out.cell 2, HVA.out.cell 3, HVA.out.cell 4⟩ (fun hHeld => ?_);clear hK K hm7
       try simp only [ly_]
       refine tk_ 6 ?_
       try simp only [ly_]
       refine r1_ 8 (fun K hK => ?_);have HVRA := hide (HVR.out.grow vR_mono HGA.out);refine step_append_src (by rfl) (.tmp 168) (.tmp 171) 24 24 (by rfl) wk.heap.size 27 iv0 _ 5 88 under_vals Hv0.out Hv1.out Hv2.out Hv3.out (by rfl) (.slice A6 hs6.length c6) hs6.length (cellsV hs6) (by rfl) HVRA.out.row _ 1 Cv.zero.cells.toList (by rfl) (Src.oneW (W := V) Cv.zero 27 rfl) (by have := HHN.out; omega) (by simp only [maxLen]; have := HHN.out; omega) (Nat.le_trans HKW.out.size HGA.out.size) ?_;intro A7 c7 w8 hown8 hgr8 hat8;obtain ⟨g7, cur8, hA7, hb8, hgg8, hnc8, hcm8, hcs8, -, -⟩ := own_open hown8 (by omega);subst hA7;have hrb : ∀ k, Value.ownBlock (.slice A6 hs6.length c6) = some k → wk.heap.size ≤ k ∧ k < wr.heap.size := fun k hk => ⟨(World.ownsRow.lt HVR.out.row k hk).1, (World.ownsRow.lt HVR.out.row k hk).2⟩
       have HB8 := hide hb8;have HG7 := hide (show g7 ≠ wr.heap.size from by
        rw [ownBlock_slice, ownBlock_slice] at hat8;rcases hat8 with h1 | h1
        ·have := (hrb g7 (by rw [ownBlock_slice, ← h1]; rfl)).2; omega
        have h2 : g7 = (V.alloc (.cells Cv.zero.cells 27)).heap.size := Option.some.inj h1;have := HVA.out.lt;omega)
       have HK8 := hide (Kept.grown_new (HKW.out.trans (Kept.grow HGA.out)) hgr8 (fun k hk => (hrb k hk).1));have HV8 := hide (HVA.out.own hgr8 (fun k hk e => by have := (hrb k hk).2; omega));have HBM8 := hide (HBMA.out.own hgr8 (fun k hk e => by rw [ownBlock_slice, e] at hk; exact ownT_blk HVR.out.row HBM.out (by decide) hk));have HTH := hide (show w8.there g7 (hs6.length * 5) 5 from fun k hk => own_cells hgg8 (hs6.length * 5 + k) (by rw [hcs8]; omega));have HG7M := hide (show g7 ≠ mb from fun e => ownT_blk hown8 HBM8.out (by decide) (by rw [e]; rfl));have HTH2 := hide (show (w8.setCell ⟨mb, 29, none⟩ (.slice (some ⟨g7, 0, none⟩) (hs6.length + 1) c7)).there g7 (hs6.length * 5) 5 from fun k hk => own_cells ((Below.heap_setCell w8 ⟨mb, 29, none⟩ _ g7 HG7M.out).trans hgg8) (hs6.length * 5 + k) (by rw [hcs8]; omega))
       have HVP := hide (vr_push (d := y) (v := ds[j]) HVRA.out (IsV.mono (AtX.kept (Kept.grow (S := fun _ => False) HGA.out) fun q hq => hq.elim) _ _ HYP.out) hown8 rfl hgr8 hat8);clear hown8 hgr8 hat8 hgg8 hnc8 hcm8 hcs8 hrb hb8;have hlt6 : (hs6.length : Int) < (hs6.length : Int) + 1 := by omega
       refine hK.out _ _ ⟨HV8.out.cell 0, HV8.out.cell 1, HV8.out.cell 2, HV8.out.cell 3, HV8.out.cell 4⟩ (fun hHeld => ?_);clear hK K
       try simp only [ly_]
       refine tk_ 9 ?_
       try simp only [ly_]
       refine tk_ 11 ?_
       try simp only [ly_]
       refine tk_ 12 ?_
       try simp only [ly_]
       refine tk_ 13 ?_
       try simp only [ly_]
       refine rr_ [10, 14] ?_;refine rd1_ (fun K hK => ?_) (rd1_ (fun K hK => ?_) AllReadyH.nil)
       ·rw [if_pos (by rfl)];refine wp_store_mid 27 (.tmp 173) (.tmp 169) rfl g7 (hs6.length * 5) y.cells rfl rfl HTH.out (by kernel_rfl) (by simp [Value.oneCell']) ?_;have HGS := hide (setCells_grown g7 (some g7) rfl y.cells.toList w8 (hs6.length * 5));generalize w8.setCells g7 (hs6.length * 5) y.cells.toList = w9 at HGS HVP ⊢;have HK9 := hide (Kept.grown_new HK8.out HGS.out (fun k hk => by cases hk; exact HB8.out));have HV9 := hide (HV8.out.own HGS.out (fun k hk e => by cases hk; exact HG7.out e));have HBM9 := hide (HBM8.out.own HGS.out (fun k hk e => by cases hk; exact HG7M.out e));have hm9 := HBM9.out.cell;have hf9 := HBM9.out.frozen;refine hK.out _ _ ⟨HV9.out.cell 0, HV9.out.cell 1, HV9.out.cell 2, HV9.out.cell 3, HV9.out.cell 4⟩ (fun hHeld => ?_);clear hK K
        try simp only [ly_]
        refine r1_ 14 (fun K hK => ?_);go_simp;have HBM10 := hide (HBM9.out.set_ 29 (.slice (some ⟨g7, 0, none⟩) (hs6.length + 1) c7));have HK10 := hide (HK9.out.set (p := ⟨mb, 29, none⟩) rfl (.slice (some ⟨g7, 0, none⟩) (hs6.length + 1) c7));have HV10 := hide (HV9.out.far (p := ⟨mb, 29, none⟩) HVM.out (.slice (some ⟨g7, 0, none⟩) (hs6.length + 1) c7));have HVP10 := hide (HVP.out.kept vR_mono (Kept.set (S := fun k => k = mb) (Kept.refl _ w9) (p := ⟨mb, 29, none⟩) rfl (.slice (some ⟨g7, 0, none⟩) (hs6.length + 1) c7)) (fun _ h => h) (fun g hg e => ownT_blk HVP.out.row HBM9.out (by decide) (e ▸ hg)));clear hm9 hf9;refine hK.out _ _ ⟨HV10.out.cell 0, HV10.out.cell 1, HV10.out.cell 2, HV10.out.cell 3, HV10.out.cell 4⟩ (fun hHeld => ?_);clear hK K
        try simp only [ly_]
        refine dn_ ?_;clear hHeld;go_wp2_with fail;go_roundg gk'
        case measure => omega
        case rel =>
         have hl : (hs6 ++ [y]).length = hs6.length + 1 := by simp
         refine ⟨j + 1, some ⟨g7, 0, none⟩, c7, hs6 ++ [y], by omega, by omega, by go_num, HK10.out, by rw [hl]; exact HBM10.out, ?_⟩;rw [hitsP_yes hlt (by rw [← HHL.out]; exact HLN.out) HWB.out];exact HVP10.out
       have hm9 := HBM8.out.cell;have hf9 := HBM8.out.frozen;go_simp;clear hm9 hf9;have HV8b := hide (HV8.out.far (p := ⟨mb, 29, none⟩) HVM.out (.slice (some ⟨g7, 0, none⟩) (hs6.length + 1) c7));refine hK.out _ _ ⟨HV8b.out.cell 0, HV8b.out.cell 1, HV8b.out.cell 2, HV8b.out.cell 3, HV8b.out.cell 4⟩ (fun hHeld => ?_);clear hK K
       try simp only [ly_]
       refine r1_ 10 (fun K hK => ?_);rw [if_pos (by rfl)];refine wp_store_mid 27 (.tmp 173) (.tmp 169) rfl g7 (hs6.length * 5) y.cells rfl rfl HTH2.out (by kernel_rfl) (by simp [Value.oneCell']) ?_;rw [setCells_setCell (p := ⟨mb, 29, none⟩) HG7M.out];have HGS := hide (setCells_grown g7 (some g7) rfl y.cells.toList w8 (hs6.length * 5));generalize w8.setCells g7 (hs6.length * 5) y.cells.toList = w9 at HGS HVP ⊢;have HK9 := hide (Kept.grown_new HK8.out HGS.out (fun k hk => by cases hk; exact HB8.out));have HV9 := hide (HV8.out.own HGS.out (fun k hk e => by cases hk; exact HG7.out e));have HBM9 := hide (HBM8.out.own HGS.out (fun k hk e => by cases hk; exact HG7M.out e));have HBM10 := hide (HBM9.out.set_ 29 (.slice (some ⟨g7, 0, none⟩) (hs6.length + 1) c7));have HK10 := hide (HK9.out.set (p := ⟨mb, 29, none⟩) rfl (.slice (some ⟨g7, 0, none⟩) (hs6.length + 1) c7))
       have HV10 := hide (HV9.out.far (p := ⟨mb, 29, none⟩) HVM.out (.slice (some ⟨g7, 0, none⟩) (hs6.length + 1) c7));have HVP10 := hide (HVP.out.kept vR_mono (Kept.set (S := fun k => k = mb) (Kept.refl _ w9) (p := ⟨mb, 29, none⟩) rfl (.slice (some ⟨g7, 0, none⟩) (hs6.length + 1) c7)) (fun _ h => h) (fun g hg e => ownT_blk HVP.out.row HBM9.out (by decide) (e ▸ hg)));refine hK.out _ _ ⟨HV10.out.cell 0, HV10.out.cell 1, HV10.out.cell 2, HV10.out.cell 3, HV10.out.cell 4⟩ (fun hHeld => ?_);clear hK K
       try simp only [ly_]
       refine dn_ ?_;clear hHeld;go_wp2_with fail;go_roundg gk'
       case measure => omega
       case rel =>
        have hl : (hs6 ++ [y]).length = hs6.length + 1 := by simp
        refine ⟨j + 1, some ⟨g7, 0, none⟩, c7, hs6 ++ [y], by omega, by omega, by go_num, HK10.out, by rw [hl]; exact HBM10.out, ?_⟩;rw [hitsP_yes hlt (by rw [← HHL.out]; exact HLN.out) HWB.out];exact HVP10.out
     have hlni : ¬ (hs6.length : Int) < q.n := by omega
     have hlnd : decide ((hs6.length : Int) < q.n) = false := by simp; omega
     have HLN := hide hln;clear hln;refine wp_region_noPanic ?_
     refine wp_region_held_drew (S := fun w' => w'.cell? ⟨mb, 29, none⟩ = some (.slice A6 hs6.length c6) ∧ w'.cell? ⟨mb, 26, none⟩ = some (.int .i64 q.n) ∧ w'.cell? ⟨mb, 11, none⟩ = some (.int .i64 cl.k) ∧ w'.cell? ⟨mb, 12, none⟩ = some (.int .u64 cl.n) ∧ w'.cell? ⟨mb, 13, none⟩ = some (.slice cl.aB cl.nB cl.cB) ∧ w'.cell? ⟨mb, 14, none⟩ = some (.slice cl.aL cl.nL cl.cL) ∧ w'.cell? ⟨mb, 15, none⟩ = some (.slice cl.aF cl.nF cl.cF) ∧ w'.cell? ⟨mb, 16, none⟩ = some (.int .i64 ch.k) ∧ w'.cell? ⟨mb, 17, none⟩ = some (.int .u64 ch.n) ∧ w'.cell? ⟨mb, 18, none⟩ = some (.slice ch.aB ch.nB ch.cB) ∧ w'.cell? ⟨mb, 19, none⟩ = some (.slice ch.aL ch.nL ch.cL) ∧ w'.cell? ⟨mb, 20, none⟩ = some (.slice ch.aF ch.nF ch.cF) ∧ w'.cell? ⟨w5.heap.size, 0, none⟩ = some (.int .i64 cp.k) ∧ w'.cell? ⟨w5.heap.size, 1, none⟩ = some (.int .u64 cp.n) ∧ w'.cell? ⟨w5.heap.size, 2, none⟩ = some (.slice cp.aB cp.nB cp.cB) ∧ w'.cell? ⟨w5.heap.size, 3, none⟩ = some (.slice cp.aL cp.nL cp.cL) ∧ w'.cell? ⟨w5.heap.size, 4, none⟩ = some (.slice cp.aF cp.nF cp.cF)) (by kernel_rfl) (⟨HBM6.out.cell 29, HBM6.out.cell 26, HBM6.out.cell 11, HBM6.out.cell 12, HBM6.out.cell 13, HBM6.out.cell 14, HBM6.out.cell 15, HBM6.out.cell 16, HBM6.out.cell 17, HBM6.out.cell 18, HBM6.out.cell 19, HBM6.out.cell 20, HVB.out.cell 0, HVB.out.cell 1, HVB.out.cell 2, HVB.out.cell 3, HVB.out.cell 4⟩) (fun hHeld => ?_)
     replace HVB := hide HVB.out.drew;replace HBM6 := hide HBM6.out.drew;replace HG6 := hide HG6.out.drew;replace HV14b := hide HV14b.out.drew;replace HVI := hide (HVI.out.grow ((Grow.refl _).drew));generalize w7.drew = W6 at HVB HBM6 HG6 HV14b HVI hHeld ⊢;refine tk_ 0 ?_
     try simp only [ly_]
     refine tk_ 1 ?_
     try simp only [ly_]
     refine tk_ 2 ?_
     try simp only [ly_]
     refine tk_ 3 ?_
     try simp only [ly_]
     refine tx_ 4 ?_
     try simp only [ly_]
     refine tk_ 5 ?_
     try simp only [ly_]
     refine tk_ 6 ?_
     try simp only [ly_]
     refine tk_ 7 ?_
     try simp only [ly_]
     refine tk_ 8 ?_
     try simp only [ly_]
     refine tk_ 9 ?_
     try simp only [ly_]
     refine tx_ 10 ?_
     try simp only [ly_]
     refine tk_ 11 ?_
     try simp only [ly_]
     refine tk_ 12 ?_
     try simp only [ly_]
     refine tk_ 13 (v := undef) (hy := Or.inr ⟨by rfl, rfl⟩) ?_
     try simp only [ly_]
     refine tk_ 14 (v := undef) (hy := Or.inr ⟨by rfl, rfl⟩) ?_
     try simp only [ly_]
     refine tk_ 15 (v := undef) (hy := Or.inr ⟨by rfl, rfl⟩) ?_
     try simp only [ly_]
     refine tk_ 16 (v := undef) (hy := Or.inr ⟨by rfl, rfl⟩) ?_
     try simp only [ly_]
     refine tk_ 17 (v := undef) (hy := Or.inr ⟨by rfl, rfl⟩) ?_
     try simp only [ly_]
     refine tk_ 18 (v := undef) (hy := Or.inr ⟨by rfl, rfl⟩) ?_
     try simp only [ly_]
     refine tk_ 19 (v := undef) (hy := Or.inr ⟨by rfl, rfl⟩) ?_
     try simp only [ly_]
     refine tk_ 20 (v := undef) (hy := Or.inr ⟨by rfl, rfl⟩) ?_
     try simp only [ly_]
     refine tk_ 21 (v := undef) (hy := Or.inr ⟨by rfl, rfl⟩) ?_
     try simp only [ly_]
     refine tk_ 22 (v := undef) (hy := Or.inr ⟨by rfl, rfl⟩) ?_
     try simp only [ly_]
     refine tk_ 23 (v := undef) (hy := Or.inr ⟨by rfl, rfl⟩) ?_
     try simp only [ly_]
     refine tk_ 24 (v := undef) (hy := Or.inr ⟨by rfl, rfl⟩) ?_
     try simp only [ly_]
     refine tk_ 25 ?_
     try simp only [ly_]
     refine dn_ ?_;clear hHeld hlni hlnd;go_wp2_with fail;go_roundg gk'
     case measure => omega
     case rel =>
      exact ⟨j + 1, A6, c6, hs6, by omega, by omega, by go_num, HKW.out.trans (Kept.grow HG6.out), HBM6.out, by rw [hitsP_no hlt (.inl (by rw [← HHL.out]; exact HLN.out))]; exact HVR.out.grow vR_mono HG6.out⟩
    have hjl : j = ds.length := by omega
    subst hjl;have hm5 := HBM.out.cell;have hf5 := HBM.out.frozen;go_wp2_with fail;go_end0;have HB := HBM.out.set_ 28 (.int .i64 (hs6.length : Int));have hk6 := HKW.out.set (p := ⟨mb, 28, none⟩) rfl (.int .i64 (hs6.length : Int));have hbl : ∀ k, k = mb → B ≤ k := fun k hk => hk ▸ HM.out.lo
    have hfull : hitsP c q ds ds.length = findHits c q := by unfold hitsP findHits; rw [List.take_length, HFD.out]
    have hvk := HVR.out.kept vR_mono (Kept.set (S := fun k => k = mb) (Kept.refl _ wr) (p := ⟨mb, 28, none⟩) rfl (.int .i64 (hs6.length : Int))) (fun _ h => h) (fun g hg e => ownT_blk HVR.out.row HBM.out (by decide) (e ▸ hg));rw [hfull] at hvk;refine MethC.ok (st' := st) (n := ((findHits c q).length : Int)) (docs := findHits c q) ((HGW.out.below.mono HM.out.le).trans (hk6.below HMW.out.le hbl)) ?_ (Nat.lt_of_lt_of_le HMW.out.lt hk6.size) (A := A) (cap := cap) (dA := A6) (dc := c6) (HB.cell 0) ?_ ((HB.cell 28).trans (by rw [HHL.out, hfull]; rfl)) ((HB.cell 29).trans (by rw [HHL.out, hfull]; rfl)) ?_
    ·unfold findP;rw [if_neg (by rw [HF.out]; decide), HCC.out, if_neg HNOT.out, if_neg (by have := HN1.out; have := HN64.out; omega), if_neg (by rw [HBL.out]; simp), if_neg (by rw [HBH.out]; simp)]
    ·exact HMW.out.finish hk6 (HOK.out.dl hN)
    exact VR.inL hvk (fun g hg e => ownT_blk hvk.row HB (by decide) (e ▸ hg)) (by have h1 := HHL.out; rw [hfull] at h1; have h2 := HHN.out; omega)
end
end Go.Proofs.YtndjopkdbdcmdaaGreatDoor
