/- Walks: the document's answer: get: documents. Written by wip/tools/gen_rget4.py. -/
import Derived.Test.YthjjmndjfoebgaaDoorRget3
set_option linter.unusedVariables false
set_option linter.unusedSimpArgs false
namespace Go.Proofs.YthjjmndjfoebgaaDoor
open Go.RowKit Go.Shelf

theorem Src.oneF1 {w : World} {o : Obj} (s : ByteArray) (c : Cv) (e : TypeId) : Src Tryd.prog 6 25 (.slice (some ⟨w.heap.size + 1, 0, none⟩) 1 1) 1 (nameHead s ++ c.cells.toList) ((w.alloc o).alloc (.cells (c.fcells s) e)) := by
  have h := Src.oneF (w := w.alloc o) s c e
  rwa [show (w.alloc o).heap.size = w.heap.size + 1 by simp] at h
/-- A part of bytes as a string. -/
theorem conv_part {w : World} {bk o q e cap : Nat} {b : List UInt8} (h : InB w (some ⟨bk, o, none⟩) b) (hq : q ≤ e) (he : e ≤ b.length) (hc : b.length ≤ cap) :
    (convert 23 9 (.slice (if cap = q then some ⟨bk, o, none⟩ else some ⟨bk, o + q, none⟩) (e - q) (cap - q))).run Tryd.prog w = .ok (.string ⟨((b.drop q).take (e - q)).toArray⟩) w := by
  have hlen : ((b.drop q).take (e - q)).length = e - q := by rw [List.length_take, List.length_drop]; omega
  by_cases hcq : cap = q
  · rw [if_pos hcq]
    have h0 : e - q = 0 := by omega
    refine conv_bstr (lo := 0) (hi := w.heap.size) (A := some ⟨bk, o, none⟩) hlen ?_
    rw [h0, List.take_zero]
    exact ⟨rfl, fun h => absurd h (by omega)⟩
  · rw [if_neg hcq]
    refine conv_bstr (lo := 0) (hi := w.heap.size) (A := some ⟨bk, o + q, none⟩) hlen ⟨by rw [u8s_length, hlen, Nat.mul_one], fun _ => ⟨bk, o + q, rfl, fun j u hu => ?_⟩⟩
    have hj : j < e - q := by
      have := (List.getElem?_eq_some_iff.1 hu).1
      rwa [u8s_length, hlen] at this
    obtain ⟨bk', o', e', hlt, hcell⟩ := h.at_ (q + j) (by omega)
    injection e' with e'
    injection e' with e1 e2
    subst e1 e2
    rw [u8s_get _ j (by omega)] at hu
    injection hu with hu
    subst hu
    refine ⟨?_, Nat.zero_le _, hlt⟩
    rw [Nat.add_assoc, hcell]
    simp

set_option maxRecDepth 100000 in
set_option maxHeartbeats 1600000 in
theorem rget_8a (above at_ : Nat) (b : List UInt8) (A : Option Addr) (cap : Nat) (w : World) (hb : InB w A b) (hl : b.length ≤ 140737488355328) (hcap : b.length ≤ cap) (hat : at_ < b.length) (ha : 16 ≤ above) (hk : b[at_].toNat = 8) :
    Calls Tryd.prog 145 #[.slice A b.length cap, .int .i64 at_, .int .i64 above] w (RefC w b (.error 3)) := by
  have HB := hide hb
  obtain ⟨bk, o, rfl, hbk, e0⟩ := hb.at_ at_ (by omega)
  rw [hk] at e0
  clear hb hk
  go_enter Tryd.func145, Tryd.ntmps145
  go_wp2_with fail
  exact ref_err rfl rfl rfl (((Blk.new w _ _).alloc _).alloc _) ((((Grow.refl w).alloc _).alloc _).alloc _)
set_option maxRecDepth 100000 in
set_option maxHeartbeats 1600000 in
theorem rget_8b (above at_ : Nat) (b : List UInt8) (A : Option Addr) (cap : Nat) (w : World) (hb : InB w A b) (hl : b.length ≤ 140737488355328) (hcap : b.length ≤ cap) (hat : at_ + 1 = b.length) (ha : above < 16) (hk : b[at_].toNat = 8) :
    Calls Tryd.prog 145 #[.slice A b.length cap, .int .i64 at_, .int .i64 above] w (RefC w b (.error 4)) := by
  have HB := hide hb
  obtain ⟨bk, o, rfl, hbk, e0⟩ := hb.at_ at_ (by omega)
  rw [hk] at e0
  clear hb hk
  have hge : b.length ≤ at_ + 1 := by omega
  have hlt : at_ < b.length := by omega
  clear hat
  go_enter Tryd.func145, Tryd.ntmps145
  go_wp2_with fail
  exact ref_err rfl rfl rfl (((Blk.new w _ _).alloc _).alloc _) ((((Grow.refl w).alloc _).alloc _).alloc _)
set_option maxRecDepth 100000 in
set_option maxHeartbeats 1600000 in
theorem rget_8c (above at_ : Nat) (b : List UInt8) (A : Option Addr) (cap : Nat) (w : World) (hb : InB w A b) (hl : b.length ≤ 140737488355328) (hcap : b.length ≤ cap) (hat : at_ + 1 < b.length) (ha : above < 16) (hk : b[at_].toNat = 8) (n : Nat) (hx : b[at_ + 1].toNat = n) (hn : 64 < n) :
    Calls Tryd.prog 145 #[.slice A b.length cap, .int .i64 at_, .int .i64 above] w (RefC w b (.error 19)) := by
  have HB := hide hb
  obtain ⟨bk, o, rfl, hbk, e0⟩ := hb.at_ at_ (by omega)
  rw [hk] at e0
  clear hb hk
  obtain ⟨p, hp⟩ : ∃ p, p = at_ + 1 := ⟨_, rfl⟩
  have hpp : (at_ : Int) + 1 = (p : Int) := by omega
  obtain ⟨bk', o', e', hbk', e1⟩ := HB.out.at_ p (by omega)
  injection e' with e'
  injection e' with e1' e2'
  subst e1' e2'
  have hx2 : b[p].toNat = n := by subst hp; exact hx
  have hn256 : n < 256 := by rw [← hx]; exact (b[at_ + 1]).toNat_lt
  rw [hx2] at e1
  have e1 := (((((Grow.refl w).alloc (.cells Cv.zero.cells 27)).alloc (.cells Cv.zero.cells 27)).alloc (.cells (Cv.cells ⟨8, 0, none, 0, 0, none, 0, 0, none, 0, 0⟩) 27)).below.cell (p := ⟨bk, o + p, none⟩) hbk).trans e1
  have HP := hide hp
  have hpl : p < b.length := by omega
  clear hx hx2 hp
  go_enter Tryd.func145, Tryd.ntmps145
  go_wp2_with fail
  exact ref_err rfl rfl rfl (((Blk.new w _ _).alloc _).alloc _) ((((Grow.refl w).alloc _).alloc _).alloc _)
set_option maxRecDepth 100000 in
set_option maxHeartbeats 6400000 in
theorem rget_8d (above at_ : Nat) (b : List UInt8) (A : Option Addr) (cap : Nat) (w : World) (hb : InB w A b) (hl : b.length ≤ 140737488355328) (hcap : b.length ≤ cap) (hat : at_ + 1 < b.length) (ha : above < 16) (hk : b[at_].toNat = 8) (n : Nat) (hx : b[at_ + 1].toNat = n) (hy : n ≤ 64) (f : List UInt8 → Got) (hF : RefF f (above + 1) b A cap) (hE : ∀ bs e, f bs = .error e → e ≠ 0) :
    Calls Tryd.prog 145 #[.slice A b.length cap, .int .i64 at_, .int .i64 above] w (RefC w b (docGot f n (b.drop (at_ + 2)))) := by
  obtain ⟨i0, hi0, hz0, hz1, hz2⟩ := info_parts info_fld3
  have Hi0 := hide hi0
  have Hz0 := hide hz0
  have Hz1 := hide hz1
  have Hz2 := hide hz2
  clear hi0 hz0 hz1 hz2
  have HF := hide hF
  have HERR := hide hE
  clear hF hE
  have HB := hide hb
  obtain ⟨bk, o, rfl, hbk, e0⟩ := hb.at_ at_ (by omega)
  rw [hk] at e0
  clear hb hk
  obtain ⟨p, hp⟩ : ∃ p, p = at_ + 1 := ⟨_, rfl⟩
  have hpp : (at_ : Int) + 1 = (p : Int) := by omega
  obtain ⟨bk', o', e', hbk', e1⟩ := HB.out.at_ p (by omega)
  injection e' with e'
  injection e' with e1' e2'
  subst e1' e2'
  have hx2 : b[p].toNat = n := by subst hp; exact hx
  have hn256 : n < 256 := by rw [← hx]; exact (b[at_ + 1]).toNat_lt
  rw [hx2] at e1
  have e1 := (((((Grow.refl w).alloc (.cells Cv.zero.cells 27)).alloc (.cells Cv.zero.cells 27)).alloc (.cells (Cv.cells ⟨8, 0, none, 0, 0, none, 0, 0, none, 0, 0⟩) 27)).below.cell (p := ⟨bk, o + p, none⟩) hbk).trans e1
  have HP := hide hp
  have hpl : p < b.length := by omega
  clear hx hx2 hp
  obtain ⟨W3, hW3⟩ : ∃ W, W = (((w.alloc (.cells #[.int .i64 0, .int .u64 0, .slice none 0 0, .slice none 0 0, .slice none 0 0] 27)).alloc (.cells #[.int .i64 0, .int .u64 0, .slice none 0 0, .slice none 0 0, .slice none 0 0] 27)).alloc (.cells #[.int .i64 8, .int .u64 0, .slice none 0 0, .slice none 0 0, .slice none 0 0] 27)) := ⟨_, rfl⟩
  have HG3 := hide (show Grow w W3 by rw [hW3]; exact (((Grow.refl w).alloc _).alloc _).alloc _)
  have HV6 := hide (show Blk W3 w.heap.size 27 #[.int .i64 0, .int .u64 0, .slice none 0 0, .slice none 0 0, .slice none 0 0] by rw [hW3]; exact ((Blk.new w _ _).alloc _).alloc _)
  have HV9 := hide (show Blk W3 (w.heap.size + 1) 27 #[.int .i64 0, .int .u64 0, .slice none 0 0, .slice none 0 0, .slice none 0 0] by rw [hW3]; exact (Blk.new' (by simp) _ _).alloc _)
  have HV10 := hide (show Blk W3 (w.heap.size + 1 + 1) 27 #[.int .i64 8, .int .u64 0, .slice none 0 0, .slice none 0 0, .slice none 0 0] by rw [hW3]; exact Blk.new' (by simp) _ _)
  have HW3 := hide hW3
  have hz3 : w.heap.size + 1 + 1 < W3.heap.size := HV10.out.lt
  clear hW3
  have hab : IntKind.i64.wrap ((above : Int) + 1) = (above : Int) + 1 := IntWalk.i64_in _ (by omega)
  obtain ⟨s0, hs0⟩ : ∃ s, s = at_ + 2 := ⟨_, rfl⟩
  have hss : (p : Int) + 1 = (s0 : Int) := by have := HP.out; omega
  rw [← hs0]
  have hsl : s0 ≤ b.length := by omega
  clear hs0 hat
  go_enter Tryd.func145, Tryd.ntmps145
  go_wp2_with fail
  rw [← HW3.out]
  clear e0 e1 hpp hss
  go_loopg [1, 13] (n + 1) (fun gk at' i wr => ∃ (j pos : Nat) (es : List VE) (A : Option Addr) (cap : Nat), j ≤ n ∧ gk + j = n + 1 ∧ i = .int .i64 j ∧ at' = .int .i64 pos ∧ pos ≤ b.length ∧ es.length = j ∧ (∀ x ∈ es, x.s.size ≤ 255) ∧ SofarF f n j (b.drop s0) (b.drop pos) es ∧
    VRow wr 37 nameHead 6 w.heap.size (w.heap.size + 1 + 1) W3.heap.size (.slice A j cap) es ∧ Grow w wr ∧ Blk wr w.heap.size 27 #[.int .i64 0, .int .u64 0, .slice none 0 0, .slice none 0 0, .slice none 0 0] ∧ Blk wr (w.heap.size + 1) 27 #[.int .i64 0, .int .u64 0, .slice none 0 0, .slice none 0 0, .slice none 0 0] ∧ Blk wr (w.heap.size + 1 + 1) 27 #[.int .i64 8, .int .u64 0, .slice none 0 0, .slice none 0 0, .slice A j cap] ∧ W3.heap.size ≤ wr.heap.size)
  case atStart => exact ⟨0, s0, [], none, 0, by omega, by omega, rfl, rfl, hsl, rfl, fun x hx => by simp at hx, SofarF.start f n _, ⟨World.ownsRow_nil _ _ _ _, fun x hx => by simp at hx, fun i j hi => by simp at hi⟩, HG3.out, HV6.out, HV9.out, HV10.out, Nat.le_refl _⟩
  case round =>
    obtain ⟨j, pos, es, A', cap', hj, hg, rfl, rfl, hpos, hel, hsz, hsf, hv, hgr, h6, h9, h10, hbz⟩ := hrel
    have HV := hide hv
    have HG := hide hgr
    have H6 := hide h6
    have H9 := hide h9
    have H10 := hide h10
    have HSF := hide hsf
    have HEL := hide hel
    have HSZ := hide hsz
    have hgz := hgr.size
    clear hv hgr h6 h9 h10 hsf hel hsz
    have hc9 := H9.out.cell
    have hc10 := H10.out.cell
    have hf10 := H10.out.frozen
    have hc6 := H6.out.cell
    have hf6 := H6.out.frozen
    have hl6 := H6.out.lt
    have hl9 := H9.out.lt
    have hl10 := H10.out.lt
    by_cases hlt2 : j < n
    · obtain ⟨gk', rfl⟩ : ∃ g, gk = g + 1 := ⟨gk - 1, by omega⟩
      by_cases hpl2 : pos < b.length
      · obtain ⟨bk', o', e', hbk2, e2⟩ := (HB.out.grow HG.out).at_ pos hpl2
        injection e' with e'
        injection e' with e1' e2'
        subst e1' e2'
        obtain ⟨m, hm⟩ : ∃ m, b[pos].toNat = m := ⟨_, rfl⟩
        rw [hm] at e2
        have hm255 : m < 256 := by rw [← hm]; exact b[pos].toNat_lt
        have hdrop : b.drop pos = b[pos] :: b.drop (pos + 1) := List.drop_eq_getElem_cons hpl2
        have hrdn : rdN (b.drop pos) = if m ≤ (b.drop (pos + 1)).length then some (⟨((b.drop (pos + 1)).take m).toArray⟩, (b.drop (pos + 1)).drop m) else none := by rw [hdrop, rdN, hm]
        rw [List.length_drop] at hrdn
        obtain ⟨q, hq⟩ : ∃ q, q = pos + 1 := ⟨_, rfl⟩
        have hqq : (pos : Int) + 1 = (q : Int) := by omega
        obtain ⟨e, he⟩ : ∃ e, e = q + m := ⟨_, rfl⟩
        have hee : (q : Int) + (m : Int) = (e : Int) := by omega
        by_cases hel2 : e ≤ b.length
        · rw [if_pos (by omega), List.drop_drop, ← hq, ← he] at hrdn
          have hqe : q ≤ e := by omega
          have hmq : m = e - q := by omega
          have hec : e ≤ cap := by omega
          rw [hmq] at hrdn
          obtain ⟨s, hs⟩ : ∃ s : ByteArray, (⟨((b.drop q).take (e - q)).toArray⟩ : ByteArray) = s := ⟨_, rfl⟩
          have hcv := conv_part (cap := cap) (HB.out.grow HG.out) hqe hel2 hcap
          rw [hs] at hcv hrdn
          have hss : s.size ≤ 255 := by
            rw [← hs]
            show ((b.drop q).take (e - q)).toArray.size ≤ 255
            rw [List.size_toArray, List.length_take]
            omega
          have HRD := hide hrdn
          clear hm hdrop hrdn hq he hmq
          by_cases hcq : cap = q
          · have hs0 : V.name s = false := by
              have : s.size = 0 := by
                rw [← hs]
                show ((b.drop q).take (e - q)).toArray.size = 0
                rw [List.size_toArray, List.length_take]
                omega
              simp [V.name, this]
            have hgot : docGot f n (b.drop s0) = .error 4 := by unfold docGot; rw [HSF.out.bad hlt2 HRD.out (fun h => by rw [hs0] at h; exact Bool.false_ne_true h.1)]
            have HGOT := hide hgot
            have HS0 := hide hs0
            rw [if_pos hcq, show e - q = 0 by omega, show cap - q = 0 by omega] at hcv
            subst hcq
            clear hs hs0 hgot
            go_wp2_with fail
            refine (isName_any s wr (by omega)).mono ?_
            rintro ee w2 ⟨rfl, hg2⟩
            rw [HS0.out]
            have HG2 := hide (HG.out.trans hg2)
            have H62 := hide (H6.out.grow hg2)
            have H92 := hide (H9.out.grow hg2)
            clear hg2 hc9 hc10 hf10 hc6 hf6 hl6 hl9 hl10 e2 hcv
            have hc9 := H92.out.cell
            have hc6 := H62.out.cell
            have hf6 := H62.out.frozen
            go_wp2_with fail
            rw [HGOT.out]
            exact ref_err rfl rfl rfl (set5_from (c := Cv.zero) H62.out) (HG2.out.grown (set5_grown _ w.heap.size Cv.zero) (fun k e => by injection e with e; omega))
          rw [if_neg hcq] at hcv
          clear hs
          go_wp2_with fail
          refine (isName_any s wr (by omega)).mono ?_
          rintro ee w2 ⟨rfl, hg2⟩
          obtain ⟨R, hR⟩ : ∃ R, V.name s = R := ⟨_, rfl⟩
          rw [hR]
          have HR := hide hR
          have e22 := (hg2.below.cell (p := ⟨bk, o + pos, none⟩) hbk2).trans e2
          have hbk3 : bk < w2.heap.size := Nat.lt_of_lt_of_le hbk2 hg2.size
          have hz2 := hg2.size
          have HG2 := hide (HG.out.trans hg2)
          have H62 := hide (H6.out.grow hg2)
          have H92 := hide (H9.out.grow hg2)
          have H102 := hide (H10.out.grow hg2)
          have HV2 := hide (HV.out.grow hg2)
          clear hR hg2 hc9 hc10 hf10 hc6 hf6 hl6 hl9 hl10 e2 hcv
          have hc9 := H92.out.cell
          have hc10 := H102.out.cell
          have hf10 := H102.out.frozen
          have hc6 := H62.out.cell
          have hf6 := H62.out.frozen
          have hl6 := H62.out.lt
          have hl9 := H92.out.lt
          have hl10 := H102.out.lt
          cases R
          · have hgot : docGot f n (b.drop s0) = .error 4 := by unfold docGot; rw [HSF.out.bad hlt2 HRD.out (fun q => by rw [HR.out] at q; exact Bool.false_ne_true q.1)]
            have HGOT := hide hgot
            clear hgot
            go_wp2_with fail
            rw [HGOT.out]
            exact ref_err rfl rfl rfl (set5_from (c := Cv.zero) H62.out) (HG2.out.grown (set5_grown _ w.heap.size Cv.zero) (fun k e => by injection e with e; omega))
          · go_wp2_with fail
            go_loopg [15] (j + 1) (fun gk kv wr => w2 = wr ∧ ∃ k : Nat, k ≤ j ∧ gk + k = j + 1 ∧ kv = .int .i64 k ∧ ∀ i (hi : i < es.length), i < k → es[i].s ≠ s)
            case atStart => exact ⟨rfl, 0, by omega, by omega, rfl, fun i hi h => by omega⟩
            case round =>
              obtain ⟨rfl, k, hk, hgk2, rfl, hne⟩ := hrel
              have HNE := hide hne
              clear hne
              by_cases hlk : k < j
              · obtain ⟨gk2', rfl⟩ : ∃ g, gk = g + 1 := ⟨gk - 1, by omega⟩
                have hke : k < es.length := by rw [HEL.out]; exact hlk
                obtain ⟨g, hA, hgb, hgl, hcell⟩ := HV2.out.cellAt (k := 1) (fun _ => rfl) rfl HEL.out.symm k hke
                subst hA
                have hcs : w2.cell? ⟨g, k * 6, none⟩ = some (.string es[k].s) := by
                  have := (hcell 0 _ (by omega) rfl).1
                  simpa using this
                obtain ⟨nm, hnm⟩ : ∃ nm, es[k].s = nm := ⟨_, rfl⟩
                rw [hnm] at hcs
                have HNM := hide hnm
                clear hcell hnm
                by_cases hes : nm = s
                · have hn1 : (nm.toList == s.toList) = true := (str_beq _ _).2 hes
                  have hmem : s ∈ es.map VE.s := List.mem_map.2 ⟨es[k], List.getElem_mem hke, by rw [HNM.out, hes]⟩
                  have hgot : docGot f n (b.drop s0) = .error 4 := by unfold docGot; rw [HSF.out.bad hlt2 HRD.out (fun q => q.2 hmem)]
                  have HGOT := hide hgot
                  clear hgot hmem hes
                  go_wp2_with fail
                  rw [HGOT.out]
                  exact ref_err rfl rfl rfl (set5_from (c := Cv.zero) H62.out) (HG2.out.grown (set5_grown _ w.heap.size Cv.zero) (fun k e => by injection e with e; omega))
                · have hn1 : (nm.toList == s.toList) = false := by rw [Bool.eq_false_iff]; exact fun h => hes ((str_beq _ _).1 h)
                  have HES := hide hes
                  clear hes
                  go_wp2_with fail
                  go_roundg gk2'
                  case measure => omega
                  case rel => exact ⟨rfl, k + 1, by omega, by omega, by go_num, fun i hi h => by
                    rcases Nat.lt_or_ge i k with h' | h'
                    · exact HNE.out i hi h'
                    · obtain rfl : i = k := by omega
                      rw [HNM.out]; exact HES.out⟩
              · obtain rfl : k = j := by omega
                have hnin : ¬ s ∈ es.map VE.s := fun h => by
                  obtain ⟨x, hx, hxs⟩ := List.mem_map.1 h
                  obtain ⟨i, hi, rfl⟩ := List.mem_iff_getElem.1 hx
                  exact HNE.out i hi (by rw [HEL.out] at hi; exact hi) hxs
                have HCOND := hide (show V.name s = true ∧ ¬ s ∈ es.map VE.s from ⟨HR.out, hnin⟩)
                have hcall := HF.out w2 e (HB.out.grow HG2.out) hel2
                rw [show ((above + 1 : Nat) : Int) = (above : Int) + 1 by omega] at hcall
                clear hnin hgk2 hlk
                cases hfx : f (b.drop e) with
                | error ee =>
                  rw [hfx] at hcall
                  have hne : (ee != 0) = true := by simpa using HERR.out _ _ hfx
                  have hgot : docGot f n (b.drop s0) = .error ee := by unfold docGot; rw [HSF.out.fail hlt2 HRD.out HCOND.out hfx]
                  have HGOT := hide hgot
                  have HC := hide hcall
                  clear hcall hfx hgot
                  go_wp2_with fail
                  refine HC.out.mono ?_
                  rintro e' w3 ⟨rfl, hg3⟩
                  have h9' := H92.out.grow hg3
                  have h6' := H62.out.grow hg3
                  have h9l := h9'.lt
                  have h6l := h6'.lt
                  have hd9 := (h9'.alloc (.cells Cv.zero.cells 27)).cell
                  have hd6 := (h6'.alloc (.cells Cv.zero.cells 27)).cell
                  have he6 := (h6'.alloc (.cells Cv.zero.cells 27)).frozen
                  have hd6w := h6'.cell
                  have he6w := h6'.frozen
                  have H6' := hide h6'
                  have HG3 := hide (HG2.out.trans hg3)
                  clear h9' h6' hg3 hc9 hc10 hc6 hf6 hf10
                  go_wp2_with fail
                  rw [HGOT.out]
                  exact ref_err rfl rfl rfl ((set5_from (c := Cv.zero) H6'.out).alloc _) ((HG3.out.grown (set5_grown _ w.heap.size Cv.zero) (fun k e => by injection e with e; omega)).alloc _)
                | ok xr =>
                  obtain ⟨xv, rest'⟩ := xr
                  rw [hfx] at hcall
                  have HC := hide hcall
                  have HX := hide hfx
                  clear hcall hfx
                  go_wp2_with fail
                  refine HC.out.mono ?_
                  rintro e' w3 ⟨c, p2, rfl, hx2, hg3, hre, hp2⟩
                  have HX2 := hide hx2
                  have h10' := H102.out.grow hg3
                  have h10l' := h10'.lt
                  have hd10 := (h10'.alloc (.cells c.cells 27)).cell
                  have he10 := (h10'.alloc (.cells c.cells 27)).frozen
                  have H6' := hide (H62.out.grow hg3)
                  have H9' := hide (H92.out.grow hg3)
                  have H10' := hide h10'
                  have HG3 := hide (HG2.out.trans hg3)
                  have hz3' := hg3.size
                  have HV3 := hide (HV2.out.grow hg3)
                  have HRE := hide hre
                  have hown2 := HV3.out.own
                  rw [HEL.out] at hown2
                  clear h10' hg3 hx2 hre hc9 hc10 hc6 hf6 hf10
                  go_wp2_with (first | (at_builtin; refine wpList_append_src rfl (.tmp 242) (.tmp 246) 25 25 rfl W3.heap.size 37 i0 _ 6 104 under_flds Hi0.out Hz0.out Hz1.out Hz2.out rfl (.slice A' k cap') k (cellsOf nameHead es) rfl ((hown2.alloc _).alloc _) _ 1 (nameHead s ++ c.cells.toList) rfl (Src.oneF1 s c _) (by omega) (by simp only [maxLen]; omega) (by simp; omega) ?_; intro A3 c3 w4 hown3 hgr3 hat3; have hB3 := Blk.own ((H10'.out.alloc _).alloc _) hgr3 (fun k hk => by have := (HV3.out.own_lt hk).1; omega); have hc3 := hB3.cell; have hf3 := hB3.frozen; have HV4 := hide (VRow.set (VRow.add (s := s) (m0 := w2.heap.size) (HV3.out.grow ((Grow.refl w3).alloc (.cells c.cells 27))) (fun k hk => (HV2.out.own_lt hk).2) hl10 (by omega) (fun y hy => (HV2.out.part y hy).2.2.2.1) ((HX2.out.grow ((Grow.refl w3).alloc (.cells c.cells 27))).wider (Nat.le_refl _) (by simp) (Nat.le_refl _)) (by rw [HEL.out]; exact hown3) hgr3 hat3) hz3 4 (.slice A3 (k + 1) c3)); have H104 := hide (hB3.set_ 4 (.slice A3 (k + 1) c3)); have H64 := hide (Blk.far (Blk.own ((H6'.out.alloc _).alloc _) hgr3 (fun k hk => by have := (HV3.out.own_lt hk).1; omega)) (p := ⟨w.heap.size + 1 + 1, 4, none⟩) (by simp; omega) (.slice A3 (k + 1) c3)); have H94 := hide (Blk.far (Blk.own ((H9'.out.alloc _).alloc _) hgr3 (fun k hk => by have := (HV3.out.own_lt hk).1; omega)) (p := ⟨w.heap.size + 1 + 1, 4, none⟩) (by simp) (.slice A3 (k + 1) c3)); have HG4 := hide ((((HG3.out.alloc _).alloc _).grown hgr3 (fun k hk => by have := (HV3.out.own_lt hk).1; omega)).setCell (p := ⟨w.heap.size + 1 + 1, 4, none⟩) (by simp; omega) (.slice A3 (k + 1) c3)); have hz4 : W3.heap.size ≤ (w4.setCell ⟨w.heap.size + 1 + 1, 4, none⟩ (.slice A3 (k + 1) c3)).heap.size := by (have := hgr3.size; simp [World.setCell] at this ⊢; omega)))
                  have hsd : ∀ x ∈ es ++ [VE.mk s xv c w2.heap.size (w3.alloc (.cells c.cells 27)).heap.size], x.s.size ≤ 255 := fun x hx => by
                    rcases List.mem_append.1 hx with hx | hx
                    · exact HSZ.out x hx
                    · rw [List.mem_singleton] at hx
                      subst hx
                      exact hss
                  go_roundg gk'
                  case measure => omega
                  case rel => exact ⟨k + 1, p2, es ++ [VE.mk s xv c w2.heap.size (w3.alloc (.cells c.cells 27)).heap.size], A3, c3, by omega, by omega, by go_num, rfl, hp2, by simp [HEL.out], hsd, by have h := HSF.out.step (x := VE.mk s xv c w2.heap.size (w3.alloc (.cells c.cells 27)).heap.size) hlt2 HRD.out HCOND.out HX.out; rw [HRE.out] at h; exact h, HV4.out, HG4.out, H64.out, H94.out, H104.out, hz4⟩
        · rw [if_neg (by omega)] at hrdn
          have hgot : docGot f n (b.drop s0) = .error 4 := by unfold docGot; rw [HSF.out.none hlt2 hrdn]
          have HGOT := hide hgot
          clear hm hdrop hrdn hq he hgot
          go_wp2_with fail
          rw [HGOT.out]
          exact ref_err rfl rfl rfl (set5_from (c := Cv.zero) H6.out) (HG.out.grown (set5_grown _ w.heap.size Cv.zero) (fun k e => by injection e with e; omega))
      · have hrdn : rdN (b.drop pos) = none := by rw [List.drop_eq_nil_of_le (by omega)]; rfl
        have hgot : docGot f n (b.drop s0) = .error 4 := by unfold docGot; rw [HSF.out.none hlt2 hrdn]
        have HGOT := hide hgot
        have hge : b.length ≤ pos := by omega
        clear hrdn hgot
        go_wp2_with fail
        rw [HGOT.out]
        exact ref_err rfl rfl rfl (set5_from (c := Cv.zero) H6.out) (HG.out.grown (set5_grown _ w.heap.size Cv.zero) (fun k e => by injection e with e; omega))
    · obtain rfl : j = n := by omega
      have hgot := HSF.out.done
      have HGOT := hide hgot
      clear hgot
      go_wp2_with fail
      rw [HGOT.out]
      exact ref_ok (p := pos) (c := ⟨8, 0, none, 0, 0, none, 0, 0, A', j, cap'⟩) rfl rfl rfl (set5_from (c := ⟨8, 0, none, 0, 0, none, 0, 0, A', j, cap'⟩) H6.out) (HG.out.grown (set5_grown _ w.heap.size ⟨8, 0, none, 0, 0, none, 0, 0, A', j, cap'⟩) (fun k e => by injection e with e; omega))
        ⟨Nat.le_refl _, IsS.mono _ _ _ _ (fun p u h s => h.1.block ((set5_grown wr w.heap.size ⟨8, 0, none, 0, 0, none, 0, 0, A', j, cap'⟩).block _ s.2 (fun e => h.2 (by injection e)))) (fun q h => ⟨h.1, Nat.lt_of_lt_of_le h.2 (set5_grown wr w.heap.size ⟨8, 0, none, 0, 0, none, 0, 0, A', j, cap'⟩).size⟩) ((HV.out.lower (vb' := w.heap.size) (by omega)).isF (fun x hx => by have := HSZ.out x hx; omega) HEL.out.symm (by omega) (by omega) hy)⟩ rfl hpos
end Go.Proofs.YthjjmndjfoebgaaDoor
