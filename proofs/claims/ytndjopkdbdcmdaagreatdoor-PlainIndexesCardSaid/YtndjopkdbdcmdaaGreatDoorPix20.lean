/- Part 20 of the proof of pindexes_card. -/
import Derived.Test.YtndjopkdbdcmdaaGreatDoorPix15
set_option linter.unusedVariables false
set_option linter.unusedSimpArgs false
set_option maxRecDepth 100000
set_option maxHeartbeats 12800000
namespace Go.Proofs.YtndjopkdbdcmdaaGreatDoor
section
open Go.RowKit
theorem entP_sz {path : ByteArray} {docs : List V} (hd : ∀ d ∈ docs,DocOk d) : ∀ x ∈ entP path docs,∃ s : Nat,x.2.1 = (s : Int) ∧ s ≤ x.1.length := by
 intro x hx;unfold entP at hx;split at hx
 ·rename_i he;obtain ⟨u,i,hok⟩ := entsL_ok hd he x ((sortE_perm _).mem_iff.1 hx);exact ⟨u.key.length,hok.sz,by rw [hok.b,List.length_append];omega⟩
 cases hx
theorem entP_le (path : ByteArray) (docs : List V) : (entP path docs).length ≤ docs.length := by
 unfold entP;split
 ·rw [(sortE_perm _).length_eq];exact List.length_filterMap_le _ _
 exact Nat.zero_le _
theorem addix_close {B mb cap P gb D c5 : Nat} {A A5 : Option Addr} {es : List Cc} {st : List Co} {q : Rq} {ck cl ch cx : Cv} {w W w5 : World} {e : Cc} {c : Co} {x : Ix} {r : Res} (h0 : Mach w B mb A cap es st q ck cl ch cx) (h : Mach W B mb A cap es st q ck cl ch cx) (hA : A = some ⟨gb,0,none⟩) (he : es[P]? = some e) (hco : OwnCo W B e c) (hP : P < st.length) (hne : gb ≠ mb) (hg : Grow w W)
 (hl : ∀ c ∈ st,c.docs.length ≤ 140737488355328) (hcl : c.docs.length ≤ 140737488355328) (hD : D ≤ c.ixs.length) (hr : r = .ok (st.set P ⟨c.name,c.docs,insAt c.ixs D x⟩,0,[]))
 (hown : w5.ownsRow B 64 3 (.slice A5 (c.ixs.length + 1) c5) (c.ixs.length + 1) ((cellsX c.ixs).take (D * 3) ++ x.cells.toList ++ (cellsX c.ixs).drop (D * 3)))
 (hgr : W.grownBy w5 (Value.ownBlock (.slice e.xA c.ixs.length e.xc))) : MethC w B mb r (.returned (.tuple #[])) (w5.setCell ⟨gb,P * 3 + 2,none⟩ (.slice A5 (c.ixs.length + 1) c5)) := by
 obtain ⟨cur,hgbk,hgB⟩ := h.gblk hA (by omega);obtain ⟨ds,r1,-⟩ := hco.docs;have hk4 : Kept (fun k => k = mb ∨ ablk e.xA = some k) W w5 := (Kept.of_grown hgr).mono (fun q hq => .inr (by rw [ownBlock_slice] at hq;exact hq));have hk5 := kept_place (gb := gb) (k := P * 3 + 2) (v := .slice A5 (c.ixs.length + 1) c5) hk4 rfl;have hbS : ∀ k,Sx mb gb e.xA k → B ≤ k := fun k hk => by
  rcases hk with rfl | rfl | hk
  ·exact h.lo
  ·exact hgB
  exact (RowOf.le (R := e.xA) (.inr (.inr rfl)) hco k hk).1
 have hb4 : Blk w5 mb 96 _ := h.blk.own hgr (fun k hk e2 => ownT_blk hco.ixs h.blk (by decide) (by rw [← e2,← hk,ownBlock_slice]));have HB := hb4.far (p := ⟨gb,P * 3 + 2,none⟩) (fun e => hne e.symm) (.slice A5 (c.ixs.length + 1) c5);have hil : (insAt c.ixs D x).length = c.ixs.length + 1 := ins_len;refine MethC.ok (st' := st.set P ⟨c.name,c.docs,insAt c.ixs D x⟩) (n := 0) (docs := []) ((hg.below.mono h0.le).trans (hk5.below h.le hbS)) hr (Nat.lt_of_lt_of_le h.lt hk5.size) (A := A) (cap := cap) (dA := none) (dc := 0) ((HB.cell 0).trans (by rw [List.length_set];rfl)) ?_ (HB.cell 28) (HB.cell 29) (InL.nil _);have hn5 : ablk A5 ≠ some gb := fun e2 => ownT_blk hown (hgbk.own hgr (fun k hk e3 => ownT_blk hco.ixs hgbk (by decide) (by rw [← e3,← hk,ownBlock_slice]))) (by decide) e2
 have hrowX : (w5.setCell ⟨gb,P * 3 + 2,none⟩ (.slice A5 (c.ixs.length + 1) c5)).ownsRow B 64 3 (.slice A5 (insAt c.ixs D x).length c5) (insAt c.ixs D x).length (cellsX (insAt c.ixs D x)) := by
  rw [hil,show cellsX (insAt c.ixs D x) = (cellsX c.ixs).take (D * 3) ++ x.cells.toList ++ (cellsX c.ixs).drop (D * 3) from (fz_ins _ 3 (fun _ => rfl) c.ixs D x).symm];exact own_kept hown (Kept.set (S := fun k => k = gb) (Kept.refl _ w5) (p := ⟨gb,P * 3 + 2,none⟩) rfl _) (fun g hg hs => hn5 (by rw [← hs];exact hg))
 refine place_close (e' := ⟨e.nm,e.dA,e.dn,e.dc,A5,c.ixs.length + 1,c5⟩) h hA he hco hP (R := e.xA) (.inr (.inr rfl)) hk5 hl ?_ (row_close h hA he hco hP (.inr (.inr rfl)) hk4 (by omega) rfl);have := (OwnCo.setX (c5 := c5) (A5 := A5) hco h.le hk5 h.lo hgB (ownT_blk r1 h.blk (by decide)) (ownT_blk r1 hgbk (by decide)) hrowX).in_ (Nat.le_trans h.le hk5.size) hcl;rw [hil] at this;exact this
theorem addIndex_m (N B mb cap : Nat) (A : Option Addr) (es : List Cc) (st : List Co) (q : Rq) (ck cl ch cx : Cv) (w : World) (h : Mach w B mb A cap es st q ck cl ch cx) (hok : StOk N st) (hN : N ≤ 1000000) (hT : Tabs w) (hL1 : Len1 w) :
 Calls Tryz.prog 84 #[.pointer (some ⟨mb,0,none⟩)] w (MethC w B mb (addIxP st q)) := by
 have hs : st.length ≤ 140737488355328 := Mach.short hok;have HM := hide h;have HOK := hide hok;have HT := hide hT;have HL1 := hide hL1;have HNAME := hide (name_any q.index w hT);obtain ⟨NM,hNM⟩ : ∃ b,V.name q.index = b := ⟨_,rfl⟩;rw [hNM] at HNAME;have HNM := hide hNM;have hm := h.blk.cell;clear hNM hT hL1;go_enter Tryz.func84,Tryz.ntmps84;go_wp2_with fail;refine HNAME.out.mono ?_;rintro e w1 ⟨rfl,hg1⟩;have HG1 := hide hg1;have HM1 := hide (h.grow hg1);clear hm hg1
 cases NM with
 | false =>
  go_wp2_with fail;refine (pmust_no 4 w1).mono ?_;rintro e w2 ⟨rfl,rfl⟩;go_wp2_with fail;exact ⟨rfl,MethC.err (HG1.out.below.mono HM.out.le) (by unfold addIxP;rw [if_pos HNM.out])⟩
 | true =>
 have hm := HM1.out.blk.cell;by_cases hp200 : q.path.size ≤ 200
 case neg =>
  have hpi : decide ((q.path.size : Int) ≤ 200) = false := by simp;omega
  go_wp2_with fail;refine (pmust_yes 4 w1).mono ?_;rintro e w2 ⟨rfl,rfl⟩;go_wp2_with fail;refine (pmust_no 2 w1).mono ?_;rintro e w2 ⟨rfl,rfl⟩;go_wp2_with fail;exact ⟨rfl,MethC.err (HG1.out.below.mono HM.out.le) (by unfold addIxP;rw [if_neg (by rw [HNM.out];decide),if_pos (by omega)])⟩
 have hpi : (q.path.size : Int) ≤ 200 := by omega
 cases hf : plF (cnm st) q.coll with
 | false =>
  have HC := hide (coll_m_no HM1.out hs hf);have HF := hide hf;clear hf h hok;go_wp2_with fail;refine (pmust_yes 4 w1).mono ?_;rintro e w2 ⟨rfl,rfl⟩;go_wp2_with fail;refine (pmust_yes 2 w1).mono ?_;rintro e w2 ⟨rfl,rfl⟩;go_wp2_with fail;refine HC.out.mono ?_;rintro e w2 ⟨rfl,hg⟩;go_wp2_with fail;exact ⟨rfl,MethC.err ((HG1.out.trans hg).below.mono HM.out.le) (by unfold addIxP;rw [if_neg (by rw [HNM.out];decide),if_neg (by omega),if_pos HF.out])⟩
 | true =>
  obtain ⟨gb,hA,hgb,hgl,hne⟩ := h.gb hf;obtain ⟨⟨nm,dA,dn,dc,xA,xn,xc⟩,he,hco,hcell⟩ := h.co hf hA;obtain ⟨c,hc⟩ : ∃ c,coAt st q.coll = c := ⟨_,rfl⟩;have hmem := (coAt_mem hf).2.1;have hlt := (coAt_mem hf).2.2.2;have hlt0 : plN (cnm st) q.coll < es.length := by rw [h.el];exact hlt
  rw [hc] at hco hmem;have hcok := hok.co c hmem;have hnd := hcok.nd;have hnx := hcok.nx;have HC := hide (coll_m h hs hf hA);have HF := hide hf;have HGB := hide hgb;have HNE := hide hne;have HGL := hide hgl;have HHA := hide hA;have HHE := hide he;have HCO := hide hco;have HCOK := hide hcok;have HCELL := hide hcell;have HCC := hide hc;obtain ⟨P,hP⟩ : ∃ P,plN (cnm st) q.coll = P := ⟨_,rfl⟩;have HP := hide hP;rw [hP] at HC HHE HCELL hlt hlt0;have HLT := hide hlt;have HLT0 := hide hlt0;replace HC := hide (coll_m HM1.out hs hf hA);rw [HP.out] at HC;have HIX := hide (fun (w1 : World) (hg : Grow w w1) => index_m (P := P) (gb := gb) (h.grow hg) (hco.grow h.le hg) (fun i v hi => (hg.below.cell (p := ⟨gb,P * 3 + i,none⟩) hgl).trans (HCELL.out i v hi)) (Nat.lt_of_lt_of_le hgl hg.size) (by omega))
  have HCA := hide (fun (w1 : World) (hg : Grow w w1) => show w1.cell? ⟨gb,P * 3,none⟩ = some (.string nm) ∧ w1.cell? ⟨gb,P * 3 + 1,none⟩ = some (.slice dA c.docs.length dc) ∧ w1.cell? ⟨gb,P * 3 + 2,none⟩ = some (.slice xA c.ixs.length xc) from
   ⟨(hg.below.cell (p := ⟨gb,P * 3,none⟩) hgl).trans (HCELL.out 0 (.string nm) rfl),(hg.below.cell (p := ⟨gb,P * 3 + 1,none⟩) hgl).trans ((HCELL.out 1 (.slice dA dn dc) rfl).trans (by rw [show dn = c.docs.length from hco.dn])),(hg.below.cell (p := ⟨gb,P * 3 + 2,none⟩) hgl).trans ((HCELL.out 2 (.slice xA xn xc) rfl).trans (by rw [show xn = c.ixs.length from hco.xn]))⟩)
  have HENS := hide (fun (w1 : World) (hg : Grow w w1) => entries_in nm c.docs dA xA dc c.ixs.length xc ⟨q.index,q.path,q.unique⟩ w1 ((hco.grow h.le hg).inL (Nat.le_trans h.le hg.size) (by omega)) (by show q.path.size < _;omega) hcok.docs hcok.keys (by omega) (HT.out.grow hg) (HL1.out.grow hg));obtain ⟨FF,hFF⟩ : ∃ b,plF (xnm c) q.index = b := ⟨_,rfl⟩;obtain ⟨D,hD⟩ : ∃ b,plN (xnm c) q.index = b := ⟨_,rfl⟩;have hDle : D ≤ c.ixs.length := by have := plN_le (xnm c) q.index;rw [hD,List.length_map] at this;exact this
  rw [hFF,hD] at HIX;have HFF := hide hFF;have HDD := hide hD;have HDLE := hide hDle;have HENS2 := hide (show (entP q.path c.docs).length ≤ c.docs.length from entP_le q.path c.docs);clear h hok hf hA he hco hcell hc hcok hmem hP hlt hlt0 hFF hD hDle;go_wp2_with fail;refine (pmust_yes 4 w1).mono ?_;rintro e w2 ⟨rfl,rfl⟩;go_wp2_with fail;refine (pmust_yes 2 w1).mono ?_;rintro e w2 ⟨rfl,rfl⟩;go_wp2_with fail;refine HC.out.mono ?_;rintro e w2 ⟨rfl,hg2⟩;have HG2 := hide (HG1.out.trans hg2);clear hg2 hm;go_wp2_with fail;refine (HIX.out w2 HG2.out).mono ?_;rintro e w5 ⟨rfl,hg5⟩;have HG5 := hide (HG2.out.trans hg5);have HM5 := hide (HM.out.grow HG5.out);clear hg5
  cases FF with
  | true =>
   go_wp2_with fail;refine (pmust_no 6 w5).mono ?_;rintro e w6 ⟨rfl,rfl⟩;go_wp2_with fail;exact ⟨rfl,MethC.err (HG5.out.below.mono HM.out.le) (by unfold addIxP;rw [if_neg (by rw [HNM.out];decide),if_neg (by omega),if_neg (by rw [HF.out];decide),HCC.out,if_pos HFF.out])⟩
  | false =>
   obtain ⟨hca0,hca1,hca2⟩ := HCA.out w5 HG5.out;by_cases h8 : c.ixs.length < 8
   case neg =>
    have h8i : decide ((c.ixs.length : Int) < 8) = false := by simp;omega
    go_wp2_with fail;refine (pmust_yes 6 w5).mono ?_;rintro e w6 ⟨rfl,rfl⟩;go_wp2_with fail;refine (pmust_no 19 w5).mono ?_;rintro e w6 ⟨rfl,rfl⟩;go_wp2_with fail;exact ⟨rfl,MethC.err (HG5.out.below.mono HM.out.le) (by unfold addIxP;rw [if_neg (by rw [HNM.out];decide),if_neg (by omega),if_neg (by rw [HF.out];decide),HCC.out,if_neg (by rw [HFF.out];decide),if_pos (by omega)])⟩
   have h8i : (c.ixs.length : Int) < 8 := by omega
   go_wp2_with fail;refine (pmust_yes 6 w5).mono ?_;rintro e w6 ⟨rfl,rfl⟩;go_wp2_with fail;refine (pmust_yes 19 w5).mono ?_;rintro e w6 ⟨rfl,rfl⟩;clear hca0 hca1 hca2;go_wp2_with fail;refine wp_region_noPanic ?_;refine wp_region_held_drew (S := fun w' => w'.cell? ⟨mb,3,none⟩ = some (.string q.index) ∧ w'.cell? ⟨mb,4,none⟩ = some (.string q.path) ∧ w'.cell? ⟨mb,5,none⟩ = some (.bool q.unique)) (by kernel_rfl) (⟨HM5.out.blk.cell 3,HM5.out.blk.cell 4,HM5.out.blk.cell 5⟩) (fun hHeld => ?_);replace HM5 := hide (HM5.out.grow ((Grow.refl w5).drew));replace HG5 := hide (HG5.out.drew);generalize w5.drew = W at HM5 HG5 hHeld ⊢;refine tk_ 0 ?_;refine tk_ 1 ?_;refine tk_ 2 ?_;refine tk_ 3 ?_;refine tx_ 4 ?_;refine tk_ 5 ?_;refine tk_ 6 ?_;refine tk_ 7 ?_;refine tk_ 8 ?_;refine tx_ 9 ?_;refine tk_ 10 ?_;refine tk_ 11 ?_;refine tk_ 12 ?_;refine tk_ 13 ?_;refine tx_ 14 ?_;refine tk_ 15 ?_
   refine r1_ 16 (fun K hK => ?_);go_simp;refine hK.out _ _ ⟨(HM5.out.blk.alloc _).cell 3,(HM5.out.blk.alloc _).cell 4,(HM5.out.blk.alloc _).cell 5⟩ (fun hHeld => ?_);clear hK K
   try simp only [ly_]
   refine r1_ 17 (fun K hK => ?_);go_simp;have HM6 := hide (HM5.out.grow ((Grow.refl W).alloc (.cells #[.string q.index,.string q.path,.bool q.unique] 64)));have HG6 := hide (HG5.out.alloc (.cells #[.string q.index,.string q.path,.bool q.unique] 64));have HX6 := hide (Blk.new W 64 #[.string q.index,.string q.path,.bool q.unique]);refine hK.out _ _ ⟨HM6.out.blk.cell 3,HM6.out.blk.cell 4,HM6.out.blk.cell 5⟩ (fun hHeld => ?_);clear hK K
   try simp only [ly_]
   refine dn_ ?_;go_wp2_with fail;refine wp_region_noPanic ?_;refine wp_region_held_drew (S := fun w' => w'.cell? ⟨gb,P * 3,none⟩ = some (.string nm) ∧ w'.cell? ⟨gb,P * 3 + 1,none⟩ = some (.slice dA c.docs.length dc) ∧ w'.cell? ⟨gb,P * 3 + 2,none⟩ = some (.slice xA c.ixs.length xc) ∧ w'.cell? ⟨W.heap.size,0,none⟩ = some (.string q.index) ∧ w'.cell? ⟨W.heap.size,1,none⟩ = some (.string q.path) ∧ w'.cell? ⟨W.heap.size,2,none⟩ = some (.bool q.unique)) (by kernel_rfl) (⟨(HCA.out _ HG6.out.drew).1,(HCA.out _ HG6.out.drew).2.1,(HCA.out _ HG6.out.drew).2.2,HX6.out.cell 0,HX6.out.cell 1,HX6.out.cell 2⟩) (fun hHeld => ?_);replace HM6 := hide (HM6.out.grow ((Grow.refl _).drew));replace HG6 := hide (HG6.out.drew);replace HX6 := hide (HX6.out.drew);generalize (W.alloc (.cells #[.string q.index,.string q.path,.bool q.unique] 64)).drew = W7 at HM6 HG6 HX6 hHeld ⊢;refine tk_ 0 ?_
   refine tk_ 1 ?_;refine tx_ 2 ?_;refine tx_ 3 ?_;refine r1_ 4 (fun K hK => ?_);go_simp;go_at_call 60;refine (HENS.out W7 HG6.out).mono ?_;rintro ee w8 ⟨hg8,hor⟩;have HG8 := hide (HG6.out.trans hg8);have HM8 := hide (HM6.out.grow hg8);have HX8 := hide (HX6.out.grow hg8);clear hg8;obtain ⟨E,hE⟩ : ∃ E,entsE q.path c.docs = E := ⟨_,rfl⟩;rw [hE] at hor;have HEE := hide hE;clear hE;obtain ⟨hne,rfl⟩ | ⟨hz,A9,c9,ens,rfl,hen⟩ := hor
   ·refine hK.out _ _ ⟨(HCA.out _ HG8.out).1,(HCA.out _ HG8.out).2.1,(HCA.out _ HG8.out).2.2,HX8.out.cell 0,HX8.out.cell 1,HX8.out.cell 2⟩ (fun hHeld => ?_);clear hK K
    try simp only [ly_]
    refine tk_ 5 ?_;refine tk_ 6 ?_;refine tk_ 7 ?_;refine tk_ 8 ?_;refine tk_ 9 ?_;refine dn_ ?_;go_wp2_with fail;refine (right_no E hne w8).mono ?_;rintro e w9 ⟨rfl,rfl⟩;go_wp2_with fail;exact ⟨rfl,MethC.err (HG8.out.below.mono HM.out.le) (by unfold addIxP;rw [if_neg (by rw [HNM.out];decide),if_neg (by omega),if_neg (by rw [HF.out];decide),HCC.out,if_neg (by rw [HFF.out];decide),if_neg (by omega),HEE.out,if_pos hne])⟩
   subst hz;have HEN := hide hen;have HENL := hide hen.two.1;refine hK.out _ _ ⟨(HCA.out _ HG8.out).1,(HCA.out _ HG8.out).2.1,(HCA.out _ HG8.out).2.2,HX8.out.cell 0,HX8.out.cell 1,HX8.out.cell 2⟩ (fun hHeld => ?_);clear hen;clear hK K
   try simp only [ly_]
   refine tk_ 5 ?_;refine tk_ 6 ?_;refine tk_ 7 ?_;refine tk_ 8 ?_;refine tk_ 9 ?_;refine dn_ ?_;have HXG := hide (show W.heap.size ≠ gb from fun e => by have := HGL.out;have := HG5.out.size;omega);have HXN := hide (show ablk xA ≠ some W.heap.size from fun e => by
    have := (World.ownsRow.lt (HCO.out.grow HM.out.le HG5.out).ixs W.heap.size (by rw [ownBlock_slice];exact e)).2;omega)
   go_wp2_with fail;refine (right_yes w8).mono ?_;rintro e w9 ⟨rfl,rfl⟩;clear hHeld;rcases Bool.eq_false_or_eq_true q.unique with hu | hu
   rotate_left
   ·have hx2 : w8.cell? ⟨W.heap.size,2,none⟩ = some (.bool false) := by rw [HX8.out.cell];rw [hu];rfl
    have HRES := hide (show addIxP st q = .ok (st.set P ⟨c.name,c.docs,insAt c.ixs D ⟨q.index,q.path,q.unique⟩⟩,0,[]) from by unfold addIxP;rw [if_neg (by rw [HNM.out];decide),if_neg (by omega),if_neg (by rw [HF.out];decide),HCC.out,if_neg (by rw [HFF.out];decide),if_neg (by omega),HEE.out,if_neg (by decide),if_neg (by rw [hu];simp),HP.out,HDD.out]);have HU := hide hu;clear hu;go_wp2_with fail;refine (pmust_yes 13 w8).mono ?_;rintro e w9 ⟨rfl,rfl⟩;clear hx2;go_wp2_with fail;refine wp_region_noPanic ?_;refine wp_region_held_drew (S := fun w' => w'.cell? ⟨W.heap.size,0,none⟩ = some (.string q.index) ∧ w'.cell? ⟨W.heap.size,1,none⟩ = some (.string q.path) ∧ w'.cell? ⟨W.heap.size,2,none⟩ = some (.bool q.unique)) (by kernel_rfl) (⟨HX8.out.cell 0,HX8.out.cell 1,HX8.out.cell 2⟩) (fun hHeld => ?_);replace HM8 := hide (HM8.out.grow ((Grow.refl _).drew))
    replace HG8 := hide (HG8.out.drew);replace HX8 := hide (HX8.out.drew);generalize w8.drew = V at HM8 HG8 HX8 hHeld ⊢;refine tk_ 0 ?_;refine tk_ 1 ?_;refine tk_ 2 ?_;refine tk_ 3 ?_;refine tk_ 5 ?_;refine tx_ 6 ?_;refine rr_ [4,7] ?_;refine rd1_ (fun K hK => ?_) (rd1_ (fun K hK => ?_) AllReadyH.nil)
    ·have hcd := (HCA.out _ HG8.out).2.2;go_simp;refine hK.out _ _ ⟨HX8.out.cell 0,HX8.out.cell 1,HX8.out.cell 2⟩ (fun hHeld => ?_);clear hK K hcd
     try simp only [ly_]
     refine r1_ 7 (fun K hK => ?_);go_simp;have HMA := hide (HM8.out.grow ((Grow.refl V).alloc (.cells #[.string q.index,.string q.path,.bool q.unique] 64)));have HGA := hide (HG8.out.alloc (.cells #[.string q.index,.string q.path,.bool q.unique] 64));have HXA := hide (HX8.out.alloc (.cells #[.string q.index,.string q.path,.bool q.unique] 64));have HCOA := hide (HCO.out.grow HM.out.le HGA.out);have HLA := hide (show gb < (V.alloc (.cells #[.string q.index,.string q.path,.bool q.unique] 64)).heap.size from Nat.lt_of_lt_of_le HGL.out HGA.out.size);refine hK.out _ _ ⟨HXA.out.cell 0,HXA.out.cell 1,HXA.out.cell 2⟩ (fun hHeld => ?_);clear hK K
     try simp only [ly_]
     refine r1_ 8 (fun K hK => ?_);go_simp;go_at_call 126;refine (insertX_any B c.ixs.length D xc V.heap.size xA (cellsX c.ixs) (Ix.cells ⟨q.index,q.path,q.unique⟩).toList _ 64 (cellsX_one c.ixs) (by simp [Value.oneCell']) HCOA.out.ixs HDLE.out (by omega) rfl (Blk.new V 64 #[.string q.index,.string q.path,.bool q.unique]) (by
      intro e;have h1 := (World.ownsRow.lt (HCO.out.grow HM.out.le HG8.out).ixs V.heap.size e).2;omega) HMA.out.le).mono ?_
     rintro ee w5 ⟨A5,c5,rfl,hown5,hgr5,hat5⟩;obtain ⟨cur,hgbk,hgbB⟩ := HMA.out.gblk HHA.out (by have := HLT.out;omega);have HGK5 := hide (hgbk.own hgr5 (fun k hk e => ownT_blk HCOA.out.ixs hgbk (by decide) (by rw [← e,← hk,ownBlock_slice])));have HX5 := hide (show Blk w5 W.heap.size 64 #[.string q.index,.string q.path,.bool q.unique] from HXA.out.own hgr5 (fun k hk e => HXN.out (by rw [← e,← hk,ownBlock_slice])));have hgf5 := HGK5.out.frozen;have hcd5 := hgr5.cell (HCA.out _ HGA.out).2.2 (fun e => ownT_blk HCOA.out.ixs hgbk (by decide) (by rw [ownBlock_slice] at e;exact e.symm));have HOWN5 := hide hown5;have HGR5 := hide hgr5;clear hown5 hgr5 hat5 hgbk;refine hK.out _ _ ⟨HX5.out.cell 0,HX5.out.cell 1,HX5.out.cell 2⟩ (fun hHeld => ?_);clear hK K
     try simp only [ly_]
     refine tk_ 9 ?_;refine tk_ 10 ?_;refine r1_ 11 (fun K hK => ?_);go_simp;have HX6' := hide (HX5.out.far (p := ⟨gb,P * 3 + 2,none⟩) HXG.out (.slice A5 (c.ixs.length + 1) c5));refine hK.out _ _ ⟨HX6'.out.cell 0,HX6'.out.cell 1,HX6'.out.cell 2⟩ (fun hHeld => ?_);clear hK K
     try simp only [ly_]
     refine dn_ ?_;go_wp2_with fail;go_end0;exact addix_close HM.out HMA.out HHA.out HHE.out HCOA.out HLT.out HNE.out HGA.out (HOK.out.dl hN) (by omega) HDLE.out HRES.out HOWN5.out HGR5.out
    go_simp;have HMA := hide (HM8.out.grow ((Grow.refl V).alloc (.cells #[.string q.index,.string q.path,.bool q.unique] 64)));have HGA := hide (HG8.out.alloc (.cells #[.string q.index,.string q.path,.bool q.unique] 64));have HXA := hide (HX8.out.alloc (.cells #[.string q.index,.string q.path,.bool q.unique] 64));have HCOA := hide (HCO.out.grow HM.out.le HGA.out);have HLA := hide (show gb < (V.alloc (.cells #[.string q.index,.string q.path,.bool q.unique] 64)).heap.size from Nat.lt_of_lt_of_le HGL.out HGA.out.size);refine hK.out _ _ ⟨HXA.out.cell 0,HXA.out.cell 1,HXA.out.cell 2⟩ (fun hHeld => ?_);clear hK K
    try simp only [ly_]
    refine r1_ 4 (fun K hK => ?_);have hcd := (HCA.out _ HGA.out).2.2;go_simp;refine hK.out _ _ ⟨HXA.out.cell 0,HXA.out.cell 1,HXA.out.cell 2⟩ (fun hHeld => ?_);clear hK K hcd
    try simp only [ly_]
    refine r1_ 8 (fun K hK => ?_);go_simp;go_at_call 126;refine (insertX_any B c.ixs.length D xc V.heap.size xA (cellsX c.ixs) (Ix.cells ⟨q.index,q.path,q.unique⟩).toList _ 64 (cellsX_one c.ixs) (by simp [Value.oneCell']) HCOA.out.ixs HDLE.out (by omega) rfl (Blk.new V 64 #[.string q.index,.string q.path,.bool q.unique]) (by
     intro e;have h1 := (World.ownsRow.lt (HCO.out.grow HM.out.le HG8.out).ixs V.heap.size e).2;omega) HMA.out.le).mono ?_
    rintro ee w5 ⟨A5,c5,rfl,hown5,hgr5,hat5⟩;obtain ⟨cur,hgbk,hgbB⟩ := HMA.out.gblk HHA.out (by have := HLT.out;omega);have HGK5 := hide (hgbk.own hgr5 (fun k hk e => ownT_blk HCOA.out.ixs hgbk (by decide) (by rw [← e,← hk,ownBlock_slice])));have HX5 := hide (show Blk w5 W.heap.size 64 #[.string q.index,.string q.path,.bool q.unique] from HXA.out.own hgr5 (fun k hk e => HXN.out (by rw [← e,← hk,ownBlock_slice])));have hgf5 := HGK5.out.frozen;have hcd5 := hgr5.cell (HCA.out _ HGA.out).2.2 (fun e => ownT_blk HCOA.out.ixs hgbk (by decide) (by rw [ownBlock_slice] at e;exact e.symm));have HOWN5 := hide hown5;have HGR5 := hide hgr5;clear hown5 hgr5 hat5 hgbk;refine hK.out _ _ ⟨HX5.out.cell 0,HX5.out.cell 1,HX5.out.cell 2⟩ (fun hHeld => ?_);clear hK K
    try simp only [ly_]
    refine tk_ 9 ?_;refine tk_ 10 ?_;refine r1_ 11 (fun K hK => ?_);go_simp;have HX6' := hide (HX5.out.far (p := ⟨gb,P * 3 + 2,none⟩) HXG.out (.slice A5 (c.ixs.length + 1) c5));refine hK.out _ _ ⟨HX6'.out.cell 0,HX6'.out.cell 1,HX6'.out.cell 2⟩ (fun hHeld => ?_);clear hK K
    try simp only [ly_]
    refine dn_ ?_;go_wp2_with fail;go_end0;exact addix_close HM.out HMA.out HHA.out HHE.out HCOA.out HLT.out HNE.out HGA.out (HOK.out.dl hN) (by omega) HDLE.out HRES.out HOWN5.out HGR5.out
   have hx2 : w8.cell? ⟨W.heap.size,2,none⟩ = some (.bool true) := by rw [HX8.out.cell];rw [hu];rfl
   have htw := twice_any _ _ _ c9 A9 ens (entP q.path c.docs) w8 HEN.out (entP_sz HCOK.out.docs) (by have := HENS2.out;have := HEN.out.two.1;omega);rw [HEN.out.two.1] at htw;have HTW := hide htw;have HU := hide hu;obtain ⟨TW,hTW⟩ : ∃ b,twiceP (entP q.path c.docs) = b := ⟨_,rfl⟩;rw [hTW] at HTW;have HTT := hide hTW;clear hu htw hTW;go_wp2_with fail;refine HTW.out.mono ?_;rintro e w9 ⟨rfl,hg9⟩;replace HG8 := hide (HG8.out.trans hg9);replace HM8 := hide (HM8.out.grow hg9);replace HX8 := hide (HX8.out.grow hg9);clear hg9 hx2
   cases TW with
   | true =>
    go_wp2_with fail;refine (pmust_no 13 w9).mono ?_;rintro e w10 ⟨rfl,rfl⟩;go_wp2_with fail;exact ⟨rfl,MethC.err (HG8.out.below.mono HM.out.le) (by unfold addIxP;rw [if_neg (by rw [HNM.out];decide),if_neg (by omega),if_neg (by rw [HF.out];decide),HCC.out,if_neg (by rw [HFF.out];decide),if_neg (by omega),HEE.out,if_neg (by decide),if_pos ⟨HU.out,HTT.out⟩])⟩
   | false =>
    have HRES := hide (show addIxP st q = .ok (st.set P ⟨c.name,c.docs,insAt c.ixs D ⟨q.index,q.path,q.unique⟩⟩,0,[]) from by unfold addIxP;rw [if_neg (by rw [HNM.out];decide),if_neg (by omega),if_neg (by rw [HF.out];decide),HCC.out,if_neg (by rw [HFF.out];decide),if_neg (by omega),HEE.out,if_neg (by decide),if_neg (by rw [HTT.out];simp),HP.out,HDD.out]);go_wp2_with fail;refine (pmust_yes 13 w9).mono ?_;rintro e w10 ⟨rfl,rfl⟩;go_wp2_with fail;refine wp_region_noPanic ?_;refine wp_region_held_drew (S := fun w' => w'.cell? ⟨W.heap.size,0,none⟩ = some (.string q.index) ∧ w'.cell? ⟨W.heap.size,1,none⟩ = some (.string q.path) ∧ w'.cell? ⟨W.heap.size,2,none⟩ = some (.bool q.unique)) (by kernel_rfl) (⟨HX8.out.cell 0,HX8.out.cell 1,HX8.out.cell 2⟩) (fun hHeld => ?_);replace HM8 := hide (HM8.out.grow ((Grow.refl _).drew));replace HG8 := hide (HG8.out.drew)
    replace HX8 := hide (HX8.out.drew);generalize w9.drew = V at HM8 HG8 HX8 hHeld ⊢;refine tk_ 0 ?_;refine tk_ 1 ?_;refine tk_ 2 ?_;refine tk_ 3 ?_;refine tk_ 5 ?_;refine tx_ 6 ?_;refine rr_ [4,7] ?_;refine rd1_ (fun K hK => ?_) (rd1_ (fun K hK => ?_) AllReadyH.nil)
    ·have hcd := (HCA.out _ HG8.out).2.2;go_simp;refine hK.out _ _ ⟨HX8.out.cell 0,HX8.out.cell 1,HX8.out.cell 2⟩ (fun hHeld => ?_);clear hK K hcd
     try simp only [ly_]
     refine r1_ 7 (fun K hK => ?_);go_simp;have HMA := hide (HM8.out.grow ((Grow.refl V).alloc (.cells #[.string q.index,.string q.path,.bool q.unique] 64)));have HGA := hide (HG8.out.alloc (.cells #[.string q.index,.string q.path,.bool q.unique] 64));have HXA := hide (HX8.out.alloc (.cells #[.string q.index,.string q.path,.bool q.unique] 64));have HCOA := hide (HCO.out.grow HM.out.le HGA.out);have HLA := hide (show gb < (V.alloc (.cells #[.string q.index,.string q.path,.bool q.unique] 64)).heap.size from Nat.lt_of_lt_of_le HGL.out HGA.out.size);refine hK.out _ _ ⟨HXA.out.cell 0,HXA.out.cell 1,HXA.out.cell 2⟩ (fun hHeld => ?_);clear hK K
     try simp only [ly_]
     refine r1_ 8 (fun K hK => ?_);go_simp;go_at_call 126;refine (insertX_any B c.ixs.length D xc V.heap.size xA (cellsX c.ixs) (Ix.cells ⟨q.index,q.path,q.unique⟩).toList _ 64 (cellsX_one c.ixs) (by simp [Value.oneCell']) HCOA.out.ixs HDLE.out (by omega) rfl (Blk.new V 64 #[.string q.index,.string q.path,.bool q.unique]) (by
      intro e;have h1 := (World.ownsRow.lt (HCO.out.grow HM.out.le HG8.out).ixs V.heap.size e).2;omega) HMA.out.le).mono ?_
     rintro ee w5 ⟨A5,c5,rfl,hown5,hgr5,hat5⟩;obtain ⟨cur,hgbk,hgbB⟩ := HMA.out.gblk HHA.out (by have := HLT.out;omega);have HGK5 := hide (hgbk.own hgr5 (fun k hk e => ownT_blk HCOA.out.ixs hgbk (by decide) (by rw [← e,← hk,ownBlock_slice])));have HX5 := hide (show Blk w5 W.heap.size 64 #[.string q.index,.string q.path,.bool q.unique] from HXA.out.own hgr5 (fun k hk e => HXN.out (by rw [← e,← hk,ownBlock_slice])));have hgf5 := HGK5.out.frozen;have hcd5 := hgr5.cell (HCA.out _ HGA.out).2.2 (fun e => ownT_blk HCOA.out.ixs hgbk (by decide) (by rw [ownBlock_slice] at e;exact e.symm));have HOWN5 := hide hown5;have HGR5 := hide hgr5;clear hown5 hgr5 hat5 hgbk;refine hK.out _ _ ⟨HX5.out.cell 0,HX5.out.cell 1,HX5.out.cell 2⟩ (fun hHeld => ?_);clear hK K
     try simp only [ly_]
     refine tk_ 9 ?_;refine tk_ 10 ?_;refine r1_ 11 (fun K hK => ?_);go_simp;have HX6' := hide (HX5.out.far (p := ⟨gb,P * 3 + 2,none⟩) HXG.out (.slice A5 (c.ixs.length + 1) c5));refine hK.out _ _ ⟨HX6'.out.cell 0,HX6'.out.cell 1,HX6'.out.cell 2⟩ (fun hHeld => ?_);clear hK K
     try simp only [ly_]
     refine dn_ ?_;go_wp2_with fail;go_end0;exact addix_close HM.out HMA.out HHA.out HHE.out HCOA.out HLT.out HNE.out HGA.out (HOK.out.dl hN) (by omega) HDLE.out HRES.out HOWN5.out HGR5.out
    go_simp;have HMA := hide (HM8.out.grow ((Grow.refl V).alloc (.cells #[.string q.index,.string q.path,.bool q.unique] 64)));have HGA := hide (HG8.out.alloc (.cells #[.string q.index,.string q.path,.bool q.unique] 64));have HXA := hide (HX8.out.alloc (.cells #[.string q.index,.string q.path,.bool q.unique] 64));have HCOA := hide (HCO.out.grow HM.out.le HGA.out);have HLA := hide (show gb < (V.alloc (.cells #[.string q.index,.string q.path,.bool q.unique] 64)).heap.size from Nat.lt_of_lt_of_le HGL.out HGA.out.size);refine hK.out _ _ ⟨HXA.out.cell 0,HXA.out.cell 1,HXA.out.cell 2⟩ (fun hHeld => ?_);clear hK K
    try simp only [ly_]
    refine r1_ 4 (fun K hK => ?_);have hcd := (HCA.out _ HGA.out).2.2;go_simp;refine hK.out _ _ ⟨HXA.out.cell 0,HXA.out.cell 1,HXA.out.cell 2⟩ (fun hHeld => ?_);clear hK K hcd
    try simp only [ly_]
    refine r1_ 8 (fun K hK => ?_);go_simp;go_at_call 126;refine (insertX_any B c.ixs.length D xc V.heap.size xA (cellsX c.ixs) (Ix.cells ⟨q.index,q.path,q.unique⟩).toList _ 64 (cellsX_one c.ixs) (by simp [Value.oneCell']) HCOA.out.ixs HDLE.out (by omega) rfl (Blk.new V 64 #[.string q.index,.string q.path,.bool q.unique]) (by
     intro e;have h1 := (World.ownsRow.lt (HCO.out.grow HM.out.le HG8.out).ixs V.heap.size e).2;omega) HMA.out.le).mono ?_
    rintro ee w5 ⟨A5,c5,rfl,hown5,hgr5,hat5⟩;obtain ⟨cur,hgbk,hgbB⟩ := HMA.out.gblk HHA.out (by have := HLT.out;omega);have HGK5 := hide (hgbk.own hgr5 (fun k hk e => ownT_blk HCOA.out.ixs hgbk (by decide) (by rw [← e,← hk,ownBlock_slice])));have HX5 := hide (show Blk w5 W.heap.size 64 #[.string q.index,.string q.path,.bool q.unique] from HXA.out.own hgr5 (fun k hk e => HXN.out (by rw [← e,← hk,ownBlock_slice])));have hgf5 := HGK5.out.frozen;have hcd5 := hgr5.cell (HCA.out _ HGA.out).2.2 (fun e => ownT_blk HCOA.out.ixs hgbk (by decide) (by rw [ownBlock_slice] at e;exact e.symm));have HOWN5 := hide hown5;have HGR5 := hide hgr5;clear hown5 hgr5 hat5 hgbk;refine hK.out _ _ ⟨HX5.out.cell 0,HX5.out.cell 1,HX5.out.cell 2⟩ (fun hHeld => ?_);clear hK K
    try simp only [ly_]
    refine tk_ 9 ?_;refine tk_ 10 ?_;refine r1_ 11 (fun K hK => ?_);go_simp;have HX6' := hide (HX5.out.far (p := ⟨gb,P * 3 + 2,none⟩) HXG.out (.slice A5 (c.ixs.length + 1) c5));refine hK.out _ _ ⟨HX6'.out.cell 0,HX6'.out.cell 1,HX6'.out.cell 2⟩ (fun hHeld => ?_);clear hK K
    try simp only [ly_]
    refine dn_ ?_;go_wp2_with fail;go_end0;exact addix_close HM.out HMA.out HHA.out HHE.out HCOA.out HLT.out HNE.out HGA.out (HOK.out.dl hN) (by omega) HDLE.out HRES.out HOWN5.out HGR5.out
end
section
open Go.RowKit
theorem clashP_true {docs : List V} : ∀ {ixs : List Ix} {j : Nat} (hj : j < ixs.length),ixs[j].uniq = true → twiceP (entP ixs[j].path docs) = true → clashP docs ixs = true
 | x :: r,0,hj,hu,ht => by rw [clashP];simp only [List.getElem_cons_zero] at hu ht;rw [hu,ht];rfl
 | x :: r,j + 1,hj,hu,ht => by rw [clashP,clashP_true (ixs := r) (j := j) (by simpa using hj) (by simpa using hu) (by simpa using ht)];simp
theorem ixsE_first {d : V} : ∀ {ixs : List Ix} {j : Nat} (hj : j < ixs.length),(∀ i (h : i < ixs.length),i < j → (entryP ixs[i].path d).2.2 = 0) → (entryP ixs[j].path d).2.2 ≠ 0 → ixsE d ixs = (entryP ixs[j].path d).2.2
 | x :: r,0,hj,h,he => by rw [ixsE,if_pos (by simpa using he)];rfl
 | x :: r,j + 1,hj,h,he => by
  rw [ixsE,if_neg (by have := h 0 (by simp) (by omega);simpa using this)];exact ixsE_first (ixs := r) (j := j) (by simpa using hj) (fun i hi hij => by have := h (i + 1) (by simpa using hi) (by omega);simpa using this) (by simpa using he)
theorem ixsE_zero {d : V} {ixs : List Ix} (h : ∀ i (hi : i < ixs.length),(entryP ixs[i].path d).2.2 = 0) : ixsE d ixs = 0 :=
 ixsE_all.2 fun x hx => by obtain ⟨i,hi,rfl⟩ := List.getElem_of_mem hx;exact h i hi
theorem put_clone {w : World} {B : Nat} {e : Cc} {c : Co} (hco : OwnCo w B e c) (hB : B ≤ w.heap.size) (hl : c.docs.length ≤ 1000000000) :
 Calls Tryz.prog 39 #[.slice e.dA c.docs.length e.dc] w fun r w' => ∃ A' c' cs,r = .returned (.slice A' c.docs.length c') ∧ w'.ownsRow w.heap.size 27 5 (.slice A' c.docs.length c') c.docs.length (cellsV cs) ∧ Two (fun v c => InU w' B v c) c.docs cs ∧ Grow w w' := by
 obtain ⟨cs,h1,h2⟩ := hco.docs;refine (cloneV_any c.docs.length e.dA e.dc (cellsV cs) w ((own_reads (S := fun _ => False) h1 (fun _ _ h => h)).mono AtX.atW) (cellsV_one cs) (by omega)).mono ?_;rintro r w' ⟨A',c',rfl,hown,hg⟩;exact ⟨A',c',cs,rfl,hown,h2.mono fun v c hv => hv.below hg.below hB (Nat.le_refl _),hg⟩
abbrev Sp (mb gb k : Nat) : Prop := k = mb ∨ k = gb
theorem put_new {w7 w8 w9 : World} {B : Nat} {docs : List V} {cs : List Cv} {d : V} {cv : Cv} {mb gb : Nat} {A7 A9 : Option Addr} (hold : Two (fun v c => InU w7 B v c) docs cs) (hin : InS w8 w7.heap.size w8.heap.size d cv) (hB : B ≤ w7.heap.size) (hg : Grow w7 w8) (hk : Kept (fun k => ablk A7 = some k) w8 w9)
 (h7 : ∀ g,ablk A7 = some g → B ≤ g ∧ g < w7.heap.size) (h9 : ∀ g,ablk A9 = some g → (ablk A7 = some g ∨ w8.heap.size ≤ g)) (hmb : B ≤ mb) (hgb : B ≤ gb) (hml : mb < w7.heap.size) (hgl : gb < w7.heap.size) :
 Two (fun v c => IsV (AtX w9 (fun q => ablk A9 = some q ∨ Sp mb gb q)) v c) docs cs ∧ IsV (AtX w9 (fun q => ablk A9 = some q ∨ Sp mb gb q)) d cv := by
 have hz : B ≤ w8.heap.size := Nat.le_trans hB hg.size;have hS : ∀ q,(ablk A9 = some q ∨ Sp mb gb q) → B ≤ q := fun q hq => by
  rcases hq with hq | rfl | rfl
  ·rcases h9 q hq with h | h
   ·exact (h7 q h).1
   omega
  ·exact hmb
  exact hgb
 refine ⟨hold.mono fun v c hv => ?_,?_⟩
 ·exact (((hv.below hg.below hB (Nat.le_refl _)).keep hk hz (fun q hq => (h7 q hq).1))).atX (Nat.le_trans hz hk.size) hS
 have h1 : IsV (AtX w8 (fun q => ablk A7 = some q ∨ (ablk A9 = some q ∨ Sp mb gb q))) d cv := IsV.mono (AtX.ofW (Nat.le_refl _) fun q hq => by
  rcases hq with hq | hq | rfl | rfl
  ·exact .inl (h7 q hq).2
  ·rcases h9 q hq with h | h
   ·exact .inl (h7 q h).2
   exact .inr h
  ·exact .inl hml
  exact .inl hgl) _ _ hin.atW
 exact IsV.mono (AtX.sub fun q hq => .inr hq) _ _ (IsV.mono (AtX.kept hk fun q hq => .inl hq) _ _ h1)
theorem put_close {B mb cap P gb nd c9 lo : Nat} {A A9 : Option Addr} {es : List Cc} {st : List Co} {q : Rq} {ck cl ch cx : Cv} {W w6 : World} {e : Cc} {c : Co} {cs' : List Cv} {docs' : List V} (h : Mach W B mb A cap es st q ck cl ch cx) (hA : A = some ⟨gb,0,none⟩) (he : es[P]? = some e) (hco : OwnCo W B e c) (hP : P < st.length) (hne : gb ≠ mb)
 (hl : ∀ c ∈ st,c.docs.length ≤ 140737488355328) (hdl : docs'.length ≤ 140737488355328) (hV : VR (Sp mb gb) W lo A9 c9 cs' docs') (hlen : docs'.length = nd) (hk6 : Kept (fun k => k = mb) (W.setCell ⟨gb,P * 3 + 1,none⟩ (.slice A9 nd c9)) w6) :
 Kept (Sx mb gb none) W w6 ∧ StIn w6 A cap (st.set P ⟨c.name,docs',c.ixs⟩) := by
 obtain ⟨cur,hgbk,hgB⟩ := h.gblk hA (by omega);have hk5 := kept_place (w := W) (mb := mb) (R := none) (gb := gb) (k := P * 3 + 1) (v := .slice A9 nd c9) (Kept.refl _ W) rfl;have hk : Kept (Sx mb gb none) W w6 := hk5.trans (hk6.mono fun q hq => .inl hq);refine ⟨hk,?_⟩;have hrow := row_close (e' := ⟨e.nm,A9,nd,c9,e.xA,e.xn,e.xc⟩) (k := 1) (v := .slice A9 nd c9) h hA he hco hP (R := none) (.inl rfl) (Kept.refl _ W) (by omega) rfl;refine place_close (e' := ⟨e.nm,A9,nd,c9,e.xA,e.xn,e.xc⟩) h hA he hco hP (R := none) (.inl rfl) hk hl ?_ (own_kept hrow hk6 (fun g hg hs => ?_))
 ·have hS : ∀ q,Sx mb gb none q → Sp mb gb q := fun q hq => by
   rcases hq with hq | hq | hq
   ·exact .inl hq
   ·exact .inr hq
   cases hq
  have hA9 : ∀ g,ablk A9 = some g → ¬ Sp mb gb g := fun g hg hs => by
   rcases hs with rfl | rfl
   ·exact ownT_blk hV.row h.blk (by decide) hg
   exact ownT_blk hV.row hgbk (by decide) hg
  refine ⟨hco.nm,hlen.symm,hco.xn,by rw [← hco.xn];exact (hco.xn ▸ (own_le hco.ixs).1),?_,?_⟩
  ·rw [← hlen] at *;exact ((hV.list hA9 hdl).mono (AtX.kept hk hS)).mono AtX.atW
  refine (own_reads (S := fun _ => False) (own_kept hco.ixs hk (fun g hg hs => ?_)) (fun _ _ h => h)).mono AtX.atW;rcases hs with rfl | rfl | hs
  ·exact ownT_blk hco.ixs h.blk (by decide) hg
  ·exact ownT_blk hco.ixs hgbk (by decide) hg
  cases hs
 subst hs;exact h.neA hg
theorem put_m (N B mb cap : Nat) (A : Option Addr) (es : List Cc) (st : List Co) (q : Rq) (ck cl ch cx : Cv) (w : World) (h : Mach w B mb A cap es st q ck cl ch cx) (hok : StOk N st) (hN : N ≤ 1000000) (hT : Tabs w) (hL1 : Len1 w) (hdc : q.doc.count ≤ 20000) (hdf : q.doc.fit) :
 Calls Tryz.prog 81 #[.pointer (some ⟨mb,0,none⟩)] w (MethC w B mb (putP st q)) := by
 have hs : st.length ≤ 140737488355328 := Mach.short hok;have HM := hide h;have HOK := hide hok
 cases hf : plF (cnm st) q.coll with
 | false =>
  have HC := hide (coll_m_no h hs hf);have HF := hide hf;clear h hok hf;go_enter Tryz.func81,Tryz.ntmps81;go_wp2_with fail;refine HC.out.mono ?_;rintro e w1 ⟨rfl,hg⟩;go_wp2_with fail;exact ⟨rfl,MethC.err (hg.below.mono HM.out.le) (by unfold putP;rw [if_pos HF.out])⟩
 | true =>
  obtain ⟨gb,hA,hgb,hgl,hne⟩ := h.gb hf;obtain ⟨⟨nm,dA,dn,dc,xA,xn,xc⟩,he,hco,hcell⟩ := h.co hf hA;obtain ⟨c,hc⟩ : ∃ c,coAt st q.coll = c := ⟨_,rfl⟩;have hmem := (coAt_mem hf).2.1;have hlt := (coAt_mem hf).2.2.2;have hlt0 : plN (cnm st) q.coll < es.length := by rw [h.el];exact hlt
  rw [hc] at hco hmem;have hcok := hok.co c hmem;have hnd := hcok.nd;have hnx := hcok.nx;have HC := hide (coll_m h hs hf hA);have HF := hide hf;have HGB := hide hgb;have HNE := hide hne;have HGL := hide hgl;have HHA := hide hA;have HHE := hide he;have HCO := hide hco;have HCOK := hide hcok;have HCELL := hide hcell;have HCC := hide hc;obtain ⟨P,hP⟩ : ∃ P,plN (cnm st) q.coll = P := ⟨_,rfl⟩;have HP := hide hP;rw [hP] at HC HHE HCELL hlt hlt0;have HLT := hide hlt;have HLT0 := hide hlt0;have HCA := hide (fun (w1 : World) (hg : Grow w w1) => show w1.cell? ⟨gb,P * 3 + 1,none⟩ = some (.slice dA c.docs.length dc) ∧ w1.cell? ⟨gb,P * 3 + 2,none⟩ = some (.slice xA c.ixs.length xc) from
   ⟨(hg.below.cell (p := ⟨gb,P * 3 + 1,none⟩) hgl).trans ((HCELL.out 1 (.slice dA dn dc) rfl).trans (by rw [show dn = c.docs.length from hco.dn])),(hg.below.cell (p := ⟨gb,P * 3 + 2,none⟩) hgl).trans ((HCELL.out 2 (.slice xA xn xc) rfl).trans (by rw [show xn = c.ixs.length from hco.xn]))⟩)
  have HKEY := hide (fun (w1 : World) (hg : Grow w w1) => pkey_any q.doc cx w1 hdc (hT.grow hg) ((h.doc.in_ h.le).grow hg));have HENT := hide (fun (xq : Ix) (w1 : World) (hp : xq.path.size ≤ 200) (hg : Grow w w1) => pentry_any xq q.doc cx w1 (by omega) hdc (hT.grow hg) (hL1.grow hg) ((h.doc.in_ h.le).grow hg));have HT := hide hT;have HL1 := hide hL1;have HDC := hide hdc;have HDF := hide hdf;clear h hok hf hA he hco hcell hc hcok hmem hP hlt hlt0 hT hL1 hdc hdf;go_enter Tryz.func81,Tryz.ntmps81;go_wp2_with fail;refine HC.out.mono ?_;rintro e w1 ⟨rfl,hg1⟩;have HG1 := hide hg1;have HM1 := hide (HM.out.grow hg1);have hm := HM1.out.blk.cell;clear hg1;obtain ⟨kb,ke,hkp⟩ : ∃ a b,keyP q.doc = (a,b) := ⟨_,_,rfl⟩;have HKP := hide hkp;have hky := HKEY.out w1 HG1.out;rw [hkp] at hky;have HKY := hide hky;clear hkp hky;go_wp2_with fail;refine HKY.out.mono ?_
  rintro e w2 ⟨base2,K2,kc2,rfl,hb2,hr2,hg2⟩;have HR2 := hide hr2;have HG2 := hide (HG1.out.trans hg2);have HM2 := hide (HM1.out.grow hg2);clear hr2 hb2 hg2 hm;by_cases hke : ke = 0
  case neg =>
   go_wp2_with fail;refine (right_no ke hke w2).mono ?_;rintro e w3 ⟨rfl,rfl⟩;go_wp2_with fail;exact ⟨rfl,MethC.err (HG2.out.below.mono HM.out.le) (by unfold putP;rw [if_neg (by rw [HF.out];decide),HKP.out,if_pos hke])⟩
  subst hke;have hca := (HCA.out w2 HG2.out).2;go_wp2_with fail;refine (right_yes w2).mono ?_;rintro e w3 ⟨rfl,rfl⟩;go_wp2_with fail;clear hca;go_loopg [35] (c.ixs.length + 1) (fun gk i wr => ∃ j : Nat,j ≤ c.ixs.length ∧ gk + j = c.ixs.length + 1 ∧ i = .int .i64 j ∧ (∀ i (hi : i < c.ixs.length),i < j → (entryP c.ixs[i].path q.doc).2.2 = 0) ∧ Grow w2 wr)
  case atStart => exact ⟨0,Nat.zero_le _,rfl,rfl,fun _ _ h => absurd h (by omega),Grow.refl w2⟩
  case round =>
   obtain ⟨j,hj,hg,rfl,hz,hgr⟩ := hrel;obtain ⟨gk',rfl⟩ := gk_ gk (by omega);have HZ := hide hz;have HGR := hide hgr;have HGW := hide (HG2.out.trans hgr);clear hz hgr;by_cases hlt : j < c.ixs.length
   ·obtain ⟨xbk,xo,hxA,hxb,hxc⟩ := ixs_rowR (HCO.out.grow HM.out.le HGW.out).ixs j hlt;dsimp only at hxA;obtain ⟨xq,hxq⟩ : ∃ x,c.ixs[j] = x := ⟨_,rfl⟩;have hget : c.ixs.getD j Ix.zero = xq := by rw [List.getD_eq_getElem?_getD,List.getElem?_eq_getElem hlt,hxq];rfl
    have hxc' : ∀ i v,xq.cells[i]? = some v → wr.cell? ⟨xbk,xo + j * 3 + i,none⟩ = some v := fun i v hv => hxc i v (by dsimp only;rw [hget];exact hv)
    subst hxA;have x0 := hxc' 0 (.string xq.name) rfl;have x1 := hxc' 1 (.string xq.path) rfl;have x2 := hxc' 2 (.bool xq.uniq) rfl;rw [Nat.add_zero] at x0;have HXP := hide (show xq.path.size ≤ 200 from HCOK.out.path xq (by rw [← hxq];exact List.getElem_mem hlt));have HXQ := hide hxq;have HG1 := hide (HGW.out.alloc (.cells #[.string xq.name,.string xq.path,.bool xq.uniq] 64));have HM1 := hide (HM.out.grow HG1.out);have HX1 := hide (Blk.new wr 64 #[.string xq.name,.string xq.path,.bool xq.uniq]);clear hxc hxc' hget hxq;go_wp2_with fail;clear x0 x1 x2;refine wp_region_noPanic ?_
    refine wp_region_held_drew (S := fun w' => w'.cell? ⟨wr.heap.size,0,none⟩ = some (.string xq.name) ∧ w'.cell? ⟨wr.heap.size,1,none⟩ = some (.string xq.path) ∧ w'.cell? ⟨wr.heap.size,2,none⟩ = some (.bool xq.uniq) ∧ w'.cell? ⟨mb,21,none⟩ = some (.int .i64 cx.k) ∧ w'.cell? ⟨mb,22,none⟩ = some (.int .u64 cx.n) ∧ w'.cell? ⟨mb,23,none⟩ = some (.slice cx.aB cx.nB cx.cB) ∧ w'.cell? ⟨mb,24,none⟩ = some (.slice cx.aL cx.nL cx.cL) ∧ w'.cell? ⟨mb,25,none⟩ = some (.slice cx.aF cx.nF cx.cF)) (by kernel_rfl) (⟨HX1.out.cell 0,HX1.out.cell 1,HX1.out.cell 2,HM1.out.blk.cell 21,HM1.out.blk.cell 22,HM1.out.blk.cell 23,HM1.out.blk.cell 24,HM1.out.blk.cell 25⟩) (fun hHeld => ?_);replace HX1 := hide HX1.out.drew;replace HG1 := hide HG1.out.drew;replace HM1 := hide (HM1.out.grow ((Grow.refl _).drew))
    have HGA := hide (show Grow (wr.alloc (.cells #[.string xq.name,.string xq.path,.bool xq.uniq] 64)) (wr.alloc (.cells #[.string xq.name,.string xq.path,.bool xq.uniq] 64)).drew from (Grow.refl _).drew);generalize (wr.alloc (.cells #[.string xq.name,.string xq.path,.bool xq.uniq] 64)).drew = W1 at HX1 HG1 HM1 HGA hHeld ⊢;refine tx_ 0 ?_;refine tk_ 1 ?_;refine tk_ 2 ?_;refine tk_ 3 ?_;refine tk_ 4 ?_;refine tx_ 5 ?_;refine r1_ 6 (fun K hK => ?_);go_simp;go_at_call 28;refine (HENT.out xq W1 HXP.out HG1.out).mono ?_;rintro ee w5 ⟨base5,K5,kc5,rfl,hb5,hr5,hg5⟩;have HG5 := hide (HG1.out.trans hg5);have HG15 := hide (HGA.out.trans hg5);have HM5 := hide (HM1.out.grow hg5);have HX5 := hide (HX1.out.grow hg5);clear hr5 hb5 hg5
    refine hK.out _ _ ⟨HX5.out.cell 0,HX5.out.cell 1,HX5.out.cell 2,HM5.out.blk.cell 21,HM5.out.blk.cell 22,HM5.out.blk.cell 23,HM5.out.blk.cell 24,HM5.out.blk.cell 25⟩ (fun hHeld => ?_);clear hK K
    try simp only [ly_]
    refine tk_ 7 ?_;refine tk_ 8 ?_;refine tk_ 9 ?_;refine tk_ 10 ?_;refine tk_ 11 ?_;refine tk_ 12 ?_;refine tk_ 13 ?_;refine dn_ ?_;go_wp2_with fail;by_cases he : (entryP xq.path q.doc).2.2 = 0
    ·rw [he];refine (right_yes w5).mono ?_;rintro e w6 ⟨rfl,rfl⟩;have HE := hide he;have HGR5 := hide (HGR.out.trans (((Grow.refl wr).alloc _).trans HG15.out));clear he;go_wp2_with fail;go_roundg gk'
     case measure => omega
     case rel =>
      refine ⟨j + 1,by omega,by omega,by go_num,fun i hi hij => ?_,HGR5.out⟩;rcases Nat.lt_succ_iff_lt_or_eq.1 hij with h | h
      ·exact HZ.out i hi h
      subst h;rw [HXQ.out];exact HE.out
    refine (right_no _ he w5).mono ?_;rintro e w6 ⟨rfl,rfl⟩;have HE := hide he;clear he;go_wp2_with fail;exact ⟨rfl,MethC.err (HG5.out.below.mono HM.out.le) (by unfold putP;rw [if_neg (by rw [HF.out];decide),HKP.out,if_neg (by simp),HCC.out,ixsE_first hlt HZ.out (by rw [HXQ.out];exact HE.out),HXQ.out,if_pos HE.out])⟩
   have hjc : j = c.ixs.length := by omega
   subst hjc;have HIE := hide (ixsE_zero (d := q.doc) fun i hi => HZ.out i hi hi);have HMR := hide (HM.out.grow HGW.out);have hca := (HCA.out wr HGW.out).1;have HDOC := hide (doc_any c.docs gb (P * 3) dc dA kb K2 kc2 wr (fun d hd => (HCOK.out.docs d hd).count) (by omega) (HT.out.grow HGW.out) hca (Nat.lt_of_lt_of_le HGL.out HGW.out.size) ((HCO.out.grow HM.out.le HGW.out).inL HMR.out.le (by omega)) ((HR2.out.reads.1).grow HGR.out));have HSML := hide (show q.doc.sml from good_sml (by
    have h0 := HKP.out;unfold keyP at h0;split at h0
    ·rename_i hbad;exact absurd (Prod.ext_iff.1 h0).2 hbad
    rename_i hgood;simpa using hgood))
   have HDLE := hide (show docN c.docs kb ≤ c.docs.length from docN_le c.docs kb);obtain ⟨TH,hTH⟩ : ∃ b,docF c.docs kb = b := ⟨_,rfl⟩;obtain ⟨D,hD⟩ : ∃ b,docN c.docs kb = b := ⟨_,rfl⟩;have HDOC2 := HDOC.out;rw [show bsF (docCf c.docs kb) c.docs.length = TH from hTH,show bsN (docCf c.docs kb) c.docs.length = D from hD] at HDOC2;have HD2 := hide HDOC2;rw [hD] at HDLE;have HTH := hide hTH;have HDD := hide hD;clear HDOC2 hTH hD hca HDOC;go_wp2_with fail;refine HD2.out.mono ?_;rintro e w6 ⟨rfl,hg6⟩;have HG6 := hide (HGW.out.trans hg6);have HM6 := hide (HM.out.grow HG6.out);clear hg6;have hm6 := HM6.out.blk.cell;have hca := (HCA.out w6 HG6.out).1;have HCLN := hide (fun (w1 : World) (hg : Grow w w1) => put_clone (HCO.out.grow HM.out.le hg) (Nat.le_trans HM.out.le hg.size) (by omega))
   cases TH with
   | false =>
    go_wp2_with fail;refine (pmust_yes 6 w6).mono ?_;rintro e w7 ⟨rfl,rfl⟩;go_wp2_with fail;refine (HCLN.out w6 HG6.out).mono ?_;rintro e w7 ⟨A7,c7,cs,rfl,hown7,htwo7,hg7⟩;have HG7 := hide (HG6.out.trans hg7);have HM7 := hide (HM6.out.grow hg7);have hm7 := HM7.out.blk.cell;have HOWN7 := hide hown7;have HTWO7 := hide htwo7;have HCPY := hide (copy_any q.doc HSML.out w7 cx ((HM7.out.doc.in_ HM7.out.le)));have HW67 := hide (show w6.heap.size ≤ w7.heap.size from hg7.size);clear hown7 htwo7 hg7 hm6 hca;go_wp2_with fail;refine HCPY.out.mono ?_;rintro e w8 ⟨cv,rfl,hin,hg8⟩;have HIN := hide hin;have HG78 := hide hg8;have HGA := hide ((HG7.out.trans hg8).alloc (.cells cv.cells 27));have HOWNA := hide (ownG HOWN7.out (hg8.alloc (.cells cv.cells 27)));clear hin hg8 hm7;go_wp2_with fail
    refine (insertV_any w6.heap.size c.docs.length D c7 w8.heap.size A7 (cellsV cs) cv.cells.toList _ 27 (cellsV_one cs) (by simp [Value.oneCell']) HOWNA.out HDLE.out (by omega) rfl (Blk.new w8 27 cv.cells) (by
     intro e;have h1 := (World.ownsRow.lt HOWN7.out w8.heap.size e).2;have h2 := HG78.out.size;omega) (by simp;have := HW67.out;have := HG78.out.size;omega)).mono ?_
    rintro ee w9 ⟨A9,c9,rfl,hown9,hgr9,hat9⟩;have HG9 := hide (HGA.out.grown hgr9 (fun k hk => by have h1 := (World.ownsRow.lt HOWN7.out k (by rw [ownBlock_slice] at hk ⊢;exact hk)).1;have h2 := HG6.out.size;omega));have HM9 := hide (HM.out.grow HG9.out);have hca9 := (HCA.out w9 HG9.out).2;have hnew := put_new (w9 := w9) (A7 := A7) (A9 := A9) (mb := mb) (gb := gb) HTWO7.out HIN.out HM7.out.le HG78.out (((Kept.grow (S := fun k => ablk A7 = some k) ((Grow.refl w8).alloc (.cells cv.cells 27)))).trans ((Kept.of_grown hgr9).mono (fun k hk => by rw [ownBlock_slice] at hk;exact hk)))
     (fun g hg => by have h1 := World.ownsRow.lt HOWN7.out g (by rw [ownBlock_slice];exact hg);exact ⟨Nat.le_trans HM6.out.le h1.1,h1.2⟩)
     (fun g hg => by rw [ownBlock_slice,ownBlock_slice] at hat9;rcases hat9 with h | h;exact .inl (by rw [← h];exact hg);exact .inr (by rw [h] at hg;injection hg with hg;simp at hg;omega)) HM.out.lo HGB.out HM7.out.lt (Nat.lt_of_lt_of_le HGL.out HG7.out.size)
    have hcl : cs.length = c.docs.length := HTWO7.out.1.symm;have HV9 := hide (show VR (Sp mb gb) w9 w6.heap.size A9 c9 (insAt cs D cv) (insAt c.docs D q.doc) from ⟨by
     rw [ins_len,hcl,show ((insAt cs D cv).map vF).flatten = (cellsV cs).take (D * 5) ++ cv.cells.toList ++ (cellsV cs).drop (D * 5) from (fz_ins _ 5 (fun _ => rfl) cs D cv).symm];exact hown9,⟨by rw [ins_len,ins_len,hcl],fun j a b ha hb => by
      have ht := (hnew.1.ins D hnew.2);exact ht.2 j b a hb ha⟩⟩)
    have HPD := hide (show putDocs c.docs q.doc = insAt c.docs D q.doc by unfold putDocs;rw [HKP.out,if_neg (by rw [HTH.out];decide),HDD.out]);clear hown9 hgr9 hat9 hnew hcl;go_wp2_with fail;clear hca9;have hpd := HPD.out;have hlen : (putDocs c.docs q.doc).length = (c.docs.length + 1) := by rw [hpd];exact ins_len
    have hv9 := HV9.out;rw [← hpd] at hv9;have HVP := hide hv9;have hdk : DocOk q.doc := ⟨by rw [HKP.out],HDF.out,HDC.out⟩;have hdocs : ∀ d ∈ putDocs c.docs q.doc,DocOk d := fun d hm => by
     rcases putDocs_mem hm with rfl | hm
     ·exact hdk
     exact HCOK.out.docs d hm
    have hnoe : ∀ x ∈ c.ixs,entsE x.path (putDocs c.docs q.doc) = 0 := fun x hx => entsE_all.2 fun d hm => by
     rcases putDocs_mem hm with rfl | hm
     ·exact ixsE_all.1 HIE.out x hx
     exact entsE_all.1 (HCOK.out.noerr x hx) d hm
    have HDOCS := hide hdocs;have HNOE := hide hnoe;have hS9 : ∀ g,ablk A9 = some g → ¬ Sp mb gb g := fun g hg hs => by
     obtain ⟨cur,hgbk,-⟩ := HM9.out.gblk HHA.out (by have := HLT.out;omega);rcases hs with rfl | rfl
     ·exact ownT_blk hv9.row HM9.out.blk (by decide) hg
     exact ownT_blk hv9.row hgbk (by decide) hg
    have HENS := hide (fun (xq : Ix) (W : World) (hp : xq.path.size ≤ 200) (hg : Grow w9 W) => show Calls Tryz.prog 60 #[.agg #[.string ⟨#[]⟩,.slice A9 (c.docs.length + 1) c9,.slice none 0 0],.agg xq.cells] W (EnsC (fun _ => False) W W.heap.size xq.path (putDocs c.docs q.doc)) from by
     have he := entries_in ⟨#[]⟩ (putDocs c.docs q.doc) A9 none c9 0 0 xq W (VR.inL (hv9.grow vR_mono hg) hS9 (by omega)) (by omega) hdocs (putDocs_keys HCOK.out.keys) (by omega) ((HT.out.grow HG9.out).grow hg) ((HL1.out.grow HG9.out).grow hg);rw [hlen] at he;exact he)
    have HLEN := hide hlen;clear hpd hlen hv9 hdk hdocs hnoe hS9;go_loopg [100] (c.ixs.length + 1) (fun gk i wr => ∃ j : Nat,j ≤ c.ixs.length ∧ gk + j = c.ixs.length + 1 ∧ i = .int .i64 j ∧ (∀ i (hi : i < c.ixs.length),i < j → c.ixs[i].uniq = true → twiceP (entP c.ixs[i].path (putDocs c.docs q.doc)) = false) ∧ Grow w9 wr)
    case atStart => exact ⟨0,Nat.zero_le _,rfl,rfl,fun _ _ h => absurd h (by omega),Grow.refl w9⟩
    case round =>
     obtain ⟨j,hj,hg,rfl,hz,hgr⟩ := hrel;obtain ⟨gk',rfl⟩ := gk_ gk (by omega);have HZ2 := hide hz;have HGR9 := hide hgr;have HGW9 := hide (HG9.out.trans hgr);clear hz hgr;by_cases hlt : j < c.ixs.length
     ·obtain ⟨xbk,xo,hxA,hxb,hxc⟩ := ixs_rowR (HCO.out.grow HM.out.le HGW9.out).ixs j hlt;dsimp only at hxA;obtain ⟨xq,hxq⟩ : ∃ x,c.ixs[j] = x := ⟨_,rfl⟩;have hget : c.ixs.getD j Ix.zero = xq := by rw [List.getD_eq_getElem?_getD,List.getElem?_eq_getElem hlt,hxq];rfl
      have hxc' : ∀ i v,xq.cells[i]? = some v → wr.cell? ⟨xbk,xo + j * 3 + i,none⟩ = some v := fun i v hv => hxc i v (by dsimp only;rw [hget];exact hv)
      subst hxA;have x0 := hxc' 0 (.string xq.name) rfl;have x1 := hxc' 1 (.string xq.path) rfl;have x2 := hxc' 2 (.bool xq.uniq) rfl;rw [Nat.add_zero] at x0;have hmem : xq ∈ c.ixs := by rw [← hxq];exact List.getElem_mem hlt
      have HXP := hide (show xq.path.size ≤ 200 from HCOK.out.path xq hmem);have HXE := hide (HNOE.out xq hmem);have HXQ := hide hxq;have HGA := hide (HGR9.out.alloc (.cells #[.string xq.name,.string xq.path,.bool xq.uniq] 64));have HX1 := hide (Blk.new wr 64 #[.string xq.name,.string xq.path,.bool xq.uniq]);have hx1 := HX1.out.cell;clear hxc hxc' hget hxq hmem;go_wp2_with fail;clear x0 x1 x2 hx1;refine (HENS.out xq _ HXP.out HGA.out).mono ?_;rintro e w11 ⟨hg11,⟨hne,-⟩ | ⟨-,A10,c10,ens,rfl,hen⟩⟩
      ·exact absurd HXE.out hne
      have HEN := hide hen;have HG11 := hide (HGA.out.trans hg11);have HX11 := hide (HX1.out.grow hg11);clear hen hg11;rcases Bool.eq_false_or_eq_true xq.uniq with hu | hu
      rotate_left
      ·have hx2 : w11.cell? ⟨wr.heap.size,2,none⟩ = some (.bool false) := by rw [HX11.out.cell];rw [← hu];rfl
       have HU := hide hu;clear hu;go_wp2_with fail;clear hx2;go_roundg gk'
       case measure => omega
       case rel =>
        refine ⟨j + 1,by omega,by omega,by go_num,fun i hi hij hiu => ?_,HG11.out⟩;rcases Nat.lt_succ_iff_lt_or_eq.1 hij with h | h
        ·exact HZ2.out i hi h hiu
        subst h;rw [HXQ.out,HU.out] at hiu;cases hiu
      have hx2 : w11.cell? ⟨wr.heap.size,2,none⟩ = some (.bool true) := by rw [HX11.out.cell];rw [← hu];rfl
      have htw := twice_any _ _ _ c10 A10 ens (entP xq.path (putDocs c.docs q.doc)) w11 HEN.out (entP_sz HDOCS.out) (by have h1 := entP_le xq.path (putDocs c.docs q.doc);have h2 := HEN.out.two.1;have h3 := HLEN.out;omega);rw [HEN.out.two.1] at htw;have HTW := hide htw;have HU := hide hu;obtain ⟨TW,hTW⟩ : ∃ b,twiceP (entP xq.path (putDocs c.docs q.doc)) = b := ⟨_,rfl⟩;rw [hTW] at HTW;have HTT := hide hTW;clear hu htw hTW;go_wp2_with fail;refine HTW.out.mono ?_;rintro e w12 ⟨rfl,hg12⟩;have HG12 := hide (HG11.out.trans hg12);clear hg12 hx2
      cases TW with
      | true =>
       go_wp2_with fail;refine (pmust_no 13 w12).mono ?_;rintro e w13 ⟨rfl,rfl⟩;go_wp2_with fail;exact ⟨rfl,MethC.err ((HG9.out.trans HG12.out).below.mono HM.out.le) (by unfold putP;rw [if_neg (by rw [HF.out];decide),HKP.out,if_neg (by simp),HCC.out,HIE.out,if_neg (by simp),if_neg (by rw [HTH.out];simp),if_pos (clashP_true hlt (by rw [HXQ.out];exact HU.out) (by rw [HXQ.out];exact HTT.out))])⟩
      | false =>
       go_wp2_with fail;refine (pmust_yes 13 w12).mono ?_;rintro e w13 ⟨rfl,rfl⟩;go_wp2_with fail;go_roundg gk'
       case measure => omega
       case rel =>
        refine ⟨j + 1,by omega,by omega,by go_num,fun i hi hij hiu => ?_,HG12.out⟩;rcases Nat.lt_succ_iff_lt_or_eq.1 hij with h | h
        ·exact HZ2.out i hi h hiu
        subst h;rw [HXQ.out];exact HTT.out
     have hjc : j = c.ixs.length := by omega
     subst hjc;have HCL := hide (show clashP (putDocs c.docs q.doc) c.ixs = false from clashP_all.2 fun x hx hu => by obtain ⟨i,hi,rfl⟩ := List.getElem_of_mem hx;exact HZ2.out i hi hi hu);have HMW := hide (HM.out.grow HGW9.out);obtain ⟨cur,hgbk,-⟩ := HMW.out.gblk HHA.out (by have := HLT.out;omega);have hgf := hgbk.frozen;have hcd := (HCA.out wr HGW9.out).1;have hgm : gb ≠ mb := HNE.out;have HB1 := hide (HMW.out.blk.far (p := ⟨gb,P * 3 + 1,none⟩) (fun e => hgm e.symm) (.slice A9 (c.docs.length + 1) c9));have hbf := HB1.out.frozen;have hbc := HB1.out.cell;clear hgbk;go_wp2_with fail;go_end0;have HB := HB1.out;have hk6 := Kept.refl (fun k => k = mb) (wr.setCell ⟨gb,P * 3 + 1,none⟩ (.slice A9 (c.docs.length + 1) c9))
     obtain ⟨hkk,hst⟩ := put_close HMW.out HHA.out HHE.out (HCO.out.grow HM.out.le HGW9.out) HLT.out hgm (HOK.out.dl hN) (by have := HLEN.out;omega) (HVP.out.grow vR_mono HGR9.out) HLEN.out hk6;refine MethC.ok (st' := st.set P ⟨c.name,putDocs c.docs q.doc,c.ixs⟩) (n := 0) (docs := []) ((HGW9.out.below.mono HM.out.le).trans (hkk.below HMW.out.le ?_)) ?_ (Nat.lt_of_lt_of_le HMW.out.lt hkk.size) (A := A) (cap := cap) (dA := none) (dc := 0) ((HB.cell 0).trans (by rw [List.length_set];rfl)) hst (HB.cell 28) (HB.cell 29) (InL.nil _)
     ·rintro k (rfl | rfl | hk)
      ·exact HM.out.lo
      ·exact HGB.out
      cases hk
     unfold putP;rw [if_neg (by rw [HF.out];decide),HKP.out,if_neg (by simp),HCC.out,HIE.out,if_neg (by simp),if_neg (by rw [HTH.out];simp),HCL.out,if_neg (by decide),HP.out,HTH.out];rfl
   | true =>
    rcases Decidable.em (q.do_ = 3) with h3 | h3
    ·have h3' : (q.do_ == 3) = true := by simp [h3]
     go_wp2_with fail;refine (pmust_yes 6 w6).mono ?_;rintro e w7 ⟨rfl,rfl⟩;go_wp2_with fail;refine (HCLN.out w6 HG6.out).mono ?_;rintro e w7 ⟨A7,c7,cs,rfl,hown7,htwo7,hg7⟩;have hDl : D < c.docs.length := by rw [← HDD.out];exact docF_lt HTH.out
     obtain ⟨nb,cur7,hA7,hb7,hgg7,hnc7,hcm7,hcs7,ht7,hl7⟩ := own_open hown7 (by omega);subst hA7;have HG7 := hide (HG6.out.trans hg7);have HM7 := hide (HM6.out.grow hg7);have hm7 := HM7.out.blk.cell;have HOWN7 := hide hown7;have HTWO7 := hide htwo7;have HCPY := hide (copy_any q.doc HSML.out w7 cx ((HM7.out.doc.in_ HM7.out.le)));have HW67 := hide (show w6.heap.size ≤ w7.heap.size from hg7.size);have HGG7 := hide (show Blk w7 nb 27 cur7 from hgg7);have HDL := hide hDl;have HCS7 := hide hcs7;have hDi : (D : Int) < (c.docs.length : Int) := by omega
     have HNC7 := hide hnc7;have HNB7 := hide hb7;clear hown7 htwo7 hg7 hm6 hca hgg7 hcs7 ht7 hl7 hb7 hcm7;go_wp2_with fail;refine HCPY.out.mono ?_;rintro e w8 ⟨cv,rfl,hin,hg8⟩;have HIN := hide hin;have HG78 := hide hg8;have HGG8 := hide (HGG7.out.grow hg8);have hsz7 : D * 5 + 5 ≤ cur7.size := by rw [HCS7.out];have := HNC7.out;omega
     have HTHERE := hide (show w8.there nb (D * 5) 5 from fun k hk => own_cells HGG8.out (D * 5 + k) (by omega));have HG8 := hide (HG7.out.trans hg8);have HNB := hide (show w.heap.size ≤ nb ∧ nb < w7.heap.size from ⟨Nat.le_trans HG6.out.size HNB7.out,HGG7.out.lt⟩);have HSET := hide (own_put (vs := cv.cells.toList) (ownG HOWN7.out hg8) hDl rfl);have HKN := hide (Kept.of_grown (setCells_grown nb (some nb) rfl cv.cells.toList w8 (D * 5)));clear hin hg8 hm7 hsz7;go_wp2_with (first
      | ((with_reducible refine at_storeV 27 ?_);refine wpList_store_mid rfl 27 (.tmp 84) (.tmp 83) rfl nb (D * 5) cv.cells rfl rfl HTHERE.out (by kernel_rfl) (by simp [Value.oneCell']) ?_;(generalize w8.setCells nb (D * 5) cv.cells.toList = w9 at HSET HKN ⊢);have HG9 := hide (show Grow w w9 from HG8.out.trans' (HKN.out.below HG8.out.size (fun q hq => by cases hq;exact HNB.out.1)));have hca9 := (HCA.out w9 HG9.out).2)
      | fail)
     have HM9 := hide (HM.out.grow HG9.out);have hnew := put_new (w9 := w9) (A7 := some ⟨nb,0,none⟩) (A9 := some ⟨nb,0,none⟩) (mb := mb) (gb := gb) HTWO7.out HIN.out HM7.out.le HG78.out (HKN.out.mono (fun k hk => by cases hk;rfl))
      (fun g hg => by cases hg;exact ⟨Nat.le_trans HM.out.le HNB.out.1,HNB.out.2⟩) (fun g hg => .inl hg) HM.out.lo HGB.out HM7.out.lt (Nat.lt_of_lt_of_le HGL.out HG7.out.size)
     have hcl : cs.length = c.docs.length := HTWO7.out.1.symm;have HV9 := hide (show VR (Sp mb gb) w9 w6.heap.size (some ⟨nb,0,none⟩) c7 (cs.set D cv) (c.docs.set D q.doc) from ⟨by
      rw [List.length_set,hcl,show ((cs.set D cv).map vF).flatten = (cellsV cs).take (D * 5) ++ cv.cells.toList ++ (cellsV cs).drop ((D + 1) * 5) from (fz_set _ 5 (fun _ => rfl) cs D cv (by omega)).symm];exact HSET.out,⟨by rw [List.length_set,List.length_set,hcl],fun j a b ha hb => by
       have ht := (hnew.1.set D hnew.2);exact ht.2 j b a hb ha⟩⟩)
     have HPD := hide (show putDocs c.docs q.doc = c.docs.set D q.doc by unfold putDocs;rw [HKP.out,if_pos HTH.out,HDD.out]);clear hnew hcl hca9;have hpd := HPD.out;have hlen : (putDocs c.docs q.doc).length = c.docs.length := by rw [hpd];exact List.length_set
     have hv9 := HV9.out;rw [← hpd] at hv9;have HVP := hide hv9;have hdk : DocOk q.doc := ⟨by rw [HKP.out],HDF.out,HDC.out⟩;have hdocs : ∀ d ∈ putDocs c.docs q.doc,DocOk d := fun d hm => by
      rcases putDocs_mem hm with rfl | hm
      ·exact hdk
      exact HCOK.out.docs d hm
     have hnoe : ∀ x ∈ c.ixs,entsE x.path (putDocs c.docs q.doc) = 0 := fun x hx => entsE_all.2 fun d hm => by
      rcases putDocs_mem hm with rfl | hm
      ·exact ixsE_all.1 HIE.out x hx
      exact entsE_all.1 (HCOK.out.noerr x hx) d hm
     have HDOCS := hide hdocs;have HNOE := hide hnoe;have hS9 : ∀ g,ablk (some ⟨nb,0,none⟩) = some g → ¬ Sp mb gb g := fun g hg hs => by
      obtain ⟨cur,hgbk,-⟩ := HM9.out.gblk HHA.out (by have := HLT.out;omega);rcases hs with rfl | rfl
      ·exact ownT_blk hv9.row HM9.out.blk (by decide) hg
      exact ownT_blk hv9.row hgbk (by decide) hg
     have HENS := hide (fun (xq : Ix) (W : World) (hp : xq.path.size ≤ 200) (hg : Grow w9 W) => show Calls Tryz.prog 60 #[.agg #[.string ⟨#[]⟩,.slice (some ⟨nb,0,none⟩) c.docs.length c7,.slice none 0 0],.agg xq.cells] W (EnsC (fun _ => False) W W.heap.size xq.path (putDocs c.docs q.doc)) from by
      have he := entries_in ⟨#[]⟩ (putDocs c.docs q.doc) (some ⟨nb,0,none⟩) none c7 0 0 xq W (VR.inL (hv9.grow vR_mono hg) hS9 (by omega)) (by omega) hdocs (putDocs_keys HCOK.out.keys) (by omega) ((HT.out.grow HG9.out).grow hg) ((HL1.out.grow HG9.out).grow hg);rw [hlen] at he;exact he)
     have HLEN := hide hlen;clear hpd hlen hv9 hdk hdocs hnoe hS9;go_loopg [100] (c.ixs.length + 1) (fun gk i wr => ∃ j : Nat,j ≤ c.ixs.length ∧ gk + j = c.ixs.length + 1 ∧ i = .int .i64 j ∧ (∀ i (hi : i < c.ixs.length),i < j → c.ixs[i].uniq = true → twiceP (entP c.ixs[i].path (putDocs c.docs q.doc)) = false) ∧ Grow w9 wr)
     case atStart => exact ⟨0,Nat.zero_le _,rfl,rfl,fun _ _ h => absurd h (by omega),Grow.refl w9⟩
     case round =>
      obtain ⟨j,hj,hg,rfl,hz,hgr⟩ := hrel;obtain ⟨gk',rfl⟩ := gk_ gk (by omega);have HZ2 := hide hz;have HGR9 := hide hgr;have HGW9 := hide (HG9.out.trans hgr);clear hz hgr;by_cases hlt : j < c.ixs.length
      ·obtain ⟨xbk,xo,hxA,hxb,hxc⟩ := ixs_rowR (HCO.out.grow HM.out.le HGW9.out).ixs j hlt;dsimp only at hxA;obtain ⟨xq,hxq⟩ : ∃ x,c.ixs[j] = x := ⟨_,rfl⟩;have hget : c.ixs.getD j Ix.zero = xq := by rw [List.getD_eq_getElem?_getD,List.getElem?_eq_getElem hlt,hxq];rfl
       have hxc' : ∀ i v,xq.cells[i]? = some v → wr.cell? ⟨xbk,xo + j * 3 + i,none⟩ = some v := fun i v hv => hxc i v (by dsimp only;rw [hget];exact hv)
       subst hxA;have x0 := hxc' 0 (.string xq.name) rfl;have x1 := hxc' 1 (.string xq.path) rfl;have x2 := hxc' 2 (.bool xq.uniq) rfl;rw [Nat.add_zero] at x0;have hmem : xq ∈ c.ixs := by rw [← hxq];exact List.getElem_mem hlt
       have HXP := hide (show xq.path.size ≤ 200 from HCOK.out.path xq hmem);have HXE := hide (HNOE.out xq hmem);have HXQ := hide hxq;have HGA := hide (HGR9.out.alloc (.cells #[.string xq.name,.string xq.path,.bool xq.uniq] 64));have HX1 := hide (Blk.new wr 64 #[.string xq.name,.string xq.path,.bool xq.uniq]);have hx1 := HX1.out.cell;clear hxc hxc' hget hxq hmem;go_wp2_with fail;clear x0 x1 x2 hx1;refine (HENS.out xq _ HXP.out HGA.out).mono ?_;rintro e w11 ⟨hg11,⟨hne,-⟩ | ⟨-,A10,c10,ens,rfl,hen⟩⟩
       ·exact absurd HXE.out hne
       have HEN := hide hen;have HG11 := hide (HGA.out.trans hg11);have HX11 := hide (HX1.out.grow hg11);clear hen hg11;rcases Bool.eq_false_or_eq_true xq.uniq with hu | hu
       rotate_left
       ·have hx2 : w11.cell? ⟨wr.heap.size,2,none⟩ = some (.bool false) := by rw [HX11.out.cell];rw [← hu];rfl
        have HU := hide hu;clear hu;go_wp2_with fail;clear hx2;go_roundg gk'
        case measure => omega
        case rel =>
         refine ⟨j + 1,by omega,by omega,by go_num,fun i hi hij hiu => ?_,HG11.out⟩;rcases Nat.lt_succ_iff_lt_or_eq.1 hij with h | h
         ·exact HZ2.out i hi h hiu
         subst h;rw [HXQ.out,HU.out] at hiu;cases hiu
       have hx2 : w11.cell? ⟨wr.heap.size,2,none⟩ = some (.bool true) := by rw [HX11.out.cell];rw [← hu];rfl
       have htw := twice_any _ _ _ c10 A10 ens (entP xq.path (putDocs c.docs q.doc)) w11 HEN.out (entP_sz HDOCS.out) (by have h1 := entP_le xq.path (putDocs c.docs q.doc);have h2 := HEN.out.two.1;have h3 := HLEN.out;omega);rw [HEN.out.two.1] at htw;have HTW := hide htw;have HU := hide hu;obtain ⟨TW,hTW⟩ : ∃ b,twiceP (entP xq.path (putDocs c.docs q.doc)) = b := ⟨_,rfl⟩;rw [hTW] at HTW;have HTT := hide hTW;clear hu htw hTW;go_wp2_with fail;refine HTW.out.mono ?_;rintro e w12 ⟨rfl,hg12⟩;have HG12 := hide (HG11.out.trans hg12);clear hg12 hx2
       cases TW with
       | true =>
        go_wp2_with fail;refine (pmust_no 13 w12).mono ?_;rintro e w13 ⟨rfl,rfl⟩;go_wp2_with fail;exact ⟨rfl,MethC.err ((HG9.out.trans HG12.out).below.mono HM.out.le) (by unfold putP;rw [if_neg (by rw [HF.out];decide),HKP.out,if_neg (by simp),HCC.out,HIE.out,if_neg (by simp),if_neg (by exact fun h => h.2 h3),if_pos (clashP_true hlt (by rw [HXQ.out];exact HU.out) (by rw [HXQ.out];exact HTT.out))])⟩
       | false =>
        go_wp2_with fail;refine (pmust_yes 13 w12).mono ?_;rintro e w13 ⟨rfl,rfl⟩;go_wp2_with fail;go_roundg gk'
        case measure => omega
        case rel =>
         refine ⟨j + 1,by omega,by omega,by go_num,fun i hi hij hiu => ?_,HG12.out⟩;rcases Nat.lt_succ_iff_lt_or_eq.1 hij with h | h
         ·exact HZ2.out i hi h hiu
         subst h;rw [HXQ.out];exact HTT.out
      have hjc : j = c.ixs.length := by omega
      subst hjc;have HCL := hide (show clashP (putDocs c.docs q.doc) c.ixs = false from clashP_all.2 fun x hx hu => by obtain ⟨i,hi,rfl⟩ := List.getElem_of_mem hx;exact HZ2.out i hi hi hu);have HMW := hide (HM.out.grow HGW9.out);obtain ⟨cur,hgbk,-⟩ := HMW.out.gblk HHA.out (by have := HLT.out;omega);have hgf := hgbk.frozen;have hcd := (HCA.out wr HGW9.out).1;have hgm : gb ≠ mb := HNE.out;have HB1 := hide (HMW.out.blk.far (p := ⟨gb,P * 3 + 1,none⟩) (fun e => hgm e.symm) (.slice (some ⟨nb,0,none⟩) c.docs.length c7));have hbf := HB1.out.frozen;have hbc := HB1.out.cell;clear hgbk;go_wp2_with fail;go_end0;have HB := HB1.out.set_ 28 (.int .i64 1);have hk6 := Kept.set (S := fun k => k = mb) (Kept.refl _ (wr.setCell ⟨gb,P * 3 + 1,none⟩ (.slice (some ⟨nb,0,none⟩) c.docs.length c7))) (p := ⟨mb,28,none⟩) rfl (.int .i64 1)
      obtain ⟨hkk,hst⟩ := put_close HMW.out HHA.out HHE.out (HCO.out.grow HM.out.le HGW9.out) HLT.out hgm (HOK.out.dl hN) (by have := HLEN.out;omega) (HVP.out.grow vR_mono HGR9.out) HLEN.out hk6;refine MethC.ok (st' := st.set P ⟨c.name,putDocs c.docs q.doc,c.ixs⟩) (n := 1) (docs := []) ((HGW9.out.below.mono HM.out.le).trans (hkk.below HMW.out.le ?_)) ?_ (Nat.lt_of_lt_of_le HMW.out.lt hkk.size) (A := A) (cap := cap) (dA := none) (dc := 0) ((HB.cell 0).trans (by rw [List.length_set];rfl)) hst (HB.cell 28) (HB.cell 29) (InL.nil _)
      ·rintro k (rfl | rfl | hk)
       ·exact HM.out.lo
       ·exact HGB.out
       cases hk
      unfold putP;rw [if_neg (by rw [HF.out];decide),HKP.out,if_neg (by simp),HCC.out,HIE.out,if_neg (by simp),if_neg (by exact fun h => h.2 h3),HCL.out,if_neg (by decide),HP.out,HTH.out];rfl
    have h3' : (q.do_ == 3) = false := by simp [h3]
    go_wp2_with fail;refine (pmust_no 6 w6).mono ?_;rintro e w7 ⟨rfl,rfl⟩;go_wp2_with fail;exact ⟨rfl,MethC.err (HG6.out.below.mono HM.out.le) (by unfold putP;rw [if_neg (by rw [HF.out];decide),HKP.out,if_neg (by simp),HCC.out,HIE.out,if_neg (by simp),if_pos ⟨HTH.out,h3⟩])⟩
end
end Go.Proofs.YtndjopkdbdcmdaaGreatDoor
