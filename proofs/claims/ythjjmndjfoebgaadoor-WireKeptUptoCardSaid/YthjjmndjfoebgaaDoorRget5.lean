/- Walks: the document's answer: get, joined; Get. -/
import Derived.Test.YthjjmndjfoebgaaDoorRget4
set_option linter.unusedVariables false
set_option linter.unusedSimpArgs false
namespace Go.Proofs.YthjjmndjfoebgaaDoor
open Go.RowKit Go.Shelf

theorem rd_nz (g : Nat) (bs : List UInt8) (e : Int) (h : rd g bs = .error e) : e ≠ 0 := by
  rcases rd_err g bs e h with h | h | h | h <;> omega

theorem rget_flat (above at_ : Nat) (b : List UInt8) (A : Option Addr) (cap : Nat) (w : World) (hb : InB w A b) (hl : b.length ≤ 140737488355328) (hcap : b.length ≤ cap) (hat : at_ < b.length) (h7 : b[at_].toNat ≠ 7) (h8 : b[at_].toNat ≠ 8) :
    Calls Tryd.prog 145 #[.slice A b.length cap, .int .i64 at_, .int .i64 above] w (RefC w b (rdFlat b[at_].toNat (b.drop (at_ + 1)))) := by
  have hbl : (b.drop (at_ + 1)).length = b.length - (at_ + 1) := List.length_drop
  unfold rdFlat
  by_cases k1 : b[at_].toNat = 1
  · rw [if_pos k1]; exact rget_1 above at_ b A cap w hb hl hcap hat k1
  rw [if_neg k1]
  by_cases k2 : b[at_].toNat = 2
  · rw [if_pos k2]
    by_cases hn : at_ + 1 = b.length
    · rw [List.drop_eq_nil_of_le (by omega)]
      exact rget_2a above at_ b A cap w hb hl hcap hn k2
    · have hd : b.drop (at_ + 1) = b[at_ + 1]'(by omega) :: b.drop (at_ + 2) := List.drop_eq_getElem_cons (by omega)
      rw [hd]
      by_cases hy : (b[at_ + 1]'(by omega)).toNat ≤ 1
      · simp only [if_pos hy]; exact rget_2b above at_ b A cap w hb hl hcap (by omega) k2 _ rfl hy
      · simp only [if_neg hy]; exact rget_2c above at_ b A cap w hb hl hcap (by omega) k2 _ rfl (by omega)
  rw [if_neg k2]
  by_cases k3 : b[at_].toNat = 3 ∨ b[at_].toNat = 4
  · rw [if_pos k3]
    by_cases hl8 : 8 ≤ (b.drop (at_ + 1)).length
    · rw [if_pos hl8, List.drop_drop]
      rcases k3 with k | k
      · rw [k]; exact rget_3b above at_ b A cap w hb hl hcap (by omega) k
      · rw [k]; exact rget_4b above at_ b A cap w hb hl hcap (by omega) k
    · rw [if_neg hl8]
      rcases k3 with k | k
      · exact rget_3a above at_ b A cap w hb hl hcap hat (by omega) k
      · exact rget_4a above at_ b A cap w hb hl hcap hat (by omega) k
  rw [if_neg k3]
  by_cases k5 : b[at_].toNat = 5 ∨ b[at_].toNat = 6
  · rw [if_pos k5]
    by_cases hl2 : 2 ≤ (b.drop (at_ + 1)).length
    · rw [if_pos hl2, List.drop_drop]
      have hbl2 : (b.drop (at_ + 1 + 2)).length = b.length - (at_ + 1 + 2) := List.length_drop
      by_cases hm : le ((b.drop (at_ + 1)).take 2) ≤ (b.drop (at_ + 1 + 2)).length
      · rw [if_pos hm, List.drop_drop]
        rcases k5 with k | k
        · by_cases hu : Lib.validD ((b.drop (at_ + 1 + 2)).take (le ((b.drop (at_ + 1)).take 2))) = true
          · rw [if_pos (Or.inr hu), k]; exact rget_5c above at_ b A cap w hb hl hcap (by omega) k (by omega) hu
          · rw [if_neg (by rw [k]; simpa using hu)]; exact rget_5d above at_ b A cap w hb hl hcap (by omega) k (by omega) (by simpa using hu)
        · rw [if_pos (Or.inl k), k]; exact rget_6c above at_ b A cap w hb hl hcap (by omega) k (by omega)
      · rw [if_neg hm]
        rcases k5 with k | k
        · exact rget_5b above at_ b A cap w hb hl hcap (by omega) k (by omega)
        · exact rget_6b above at_ b A cap w hb hl hcap (by omega) k (by omega)
    · rw [if_neg hl2]
      rcases k5 with k | k
      · exact rget_5a above at_ b A cap w hb hl hcap hat (by omega) k
      · exact rget_6a above at_ b A cap w hb hl hcap hat (by omega) k
  rw [if_neg k5]
  by_cases k0 : b[at_].toNat < 1
  · exact rget_low above at_ b A cap w hb hl hcap hat _ rfl k0
  · exact rget_high above at_ b A cap w hb hl hcap hat _ rfl (by omega)

theorem rget_any (g : Nat) : ∀ (above : Nat) (b : List UInt8) (A : Option Addr) (cap : Nat), g + above = 16 → b.length ≤ 140737488355328 → b.length ≤ cap → RefF (rd g) above b A cap := by
  induction g with
  | zero =>
    intro above b A cap ha hl hcap w at_ hb hat
    by_cases hn : at_ = b.length
    · rw [List.drop_eq_nil_of_le (by omega)]; exact rget_none above at_ b A cap w hb hl hcap hn
    · have hd : b.drop at_ = b[at_]'(by omega) :: b.drop (at_ + 1) := List.drop_eq_getElem_cons (by omega)
      rw [hd]
      by_cases h7 : (b[at_]'(by omega)).toNat = 7
      · rw [rd, rdStep, if_pos h7]; exact rget_7a above at_ b A cap w hb hl hcap (by omega) (by omega) h7
      · by_cases h8 : (b[at_]'(by omega)).toNat = 8
        · rw [rd, rdStep, if_neg h7, if_pos h8]; exact rget_8a above at_ b A cap w hb hl hcap (by omega) (by omega) h8
        · rw [rd_flat _ _ _ h7 h8]; exact rget_flat above at_ b A cap w hb hl hcap (by omega) h7 h8
  | succ g ih =>
    intro above b A cap ha hl hcap w at_ hb hat
    by_cases hn : at_ = b.length
    · rw [List.drop_eq_nil_of_le (by omega)]; exact rget_none above at_ b A cap w hb hl hcap hn
    · have hd : b.drop at_ = b[at_]'(by omega) :: b.drop (at_ + 1) := List.drop_eq_getElem_cons (by omega)
      rw [hd]
      by_cases h7 : (b[at_]'(by omega)).toNat = 7
      · rw [rd_list _ _ _ h7]
        by_cases hn1 : at_ + 1 = b.length
        · rw [List.drop_eq_nil_of_le (by omega)]; exact rget_7b above at_ b A cap w hb hl hcap hn1 (by omega) h7
        · have hd1 : b.drop (at_ + 1) = b[at_ + 1]'(by omega) :: b.drop (at_ + 2) := List.drop_eq_getElem_cons (by omega)
          rw [hd1, rdM]
          by_cases hy : (b[at_ + 1]'(by omega)).toNat ≤ 64
          · rw [if_pos hy]
            exact rget_7d above at_ b A cap w hb hl hcap (by omega) (by omega) h7 _ rfl hy (rd g) (ih (above + 1) b A cap (by omega) hl hcap) (rd_nz g)
          · rw [if_neg hy]
            exact rget_7c above at_ b A cap w hb hl hcap (by omega) (by omega) h7 _ rfl (by omega)
      · by_cases h8 : (b[at_]'(by omega)).toNat = 8
        · rw [rd_doc _ _ _ h8]
          by_cases hn1 : at_ + 1 = b.length
          · rw [List.drop_eq_nil_of_le (by omega)]; exact rget_8b above at_ b A cap w hb hl hcap hn1 (by omega) h8
          · have hd1 : b.drop (at_ + 1) = b[at_ + 1]'(by omega) :: b.drop (at_ + 2) := List.drop_eq_getElem_cons (by omega)
            rw [hd1, rdM]
            by_cases hy : (b[at_ + 1]'(by omega)).toNat ≤ 64
            · rw [if_pos hy]
              exact rget_8d above at_ b A cap w hb hl hcap (by omega) (by omega) h8 _ rfl hy (rd g) (ih (above + 1) b A cap (by omega) hl hcap) (rd_nz g)
            · rw [if_neg hy]
              exact rget_8c above at_ b A cap w hb hl hcap (by omega) (by omega) h8 _ rfl (by omega)
        · rw [rd_flat _ _ _ h7 h8]; exact rget_flat above at_ b A cap w hb hl hcap (by omega) h7 h8

theorem refres2 {W : World} {vb : Nat} {tmps : Array Value} {e : Int} (h2 : tmps.getD 2 undef = .pointer (some ⟨vb, 0, none⟩)) (h3 : tmps.getD 3 undef = .int .i64 e) (c : Cv) (hv : Blk W vb 27 c.cells) :
    (results Tryd.f109 tmps).run Tryd.prog W = .ok (.tuple #[c.agg, .int .i64 e]) W := by
  have hvc := hv.cell
  have h2' : tmps[2]?.getD undef = .pointer (some ⟨vb, 0, none⟩) := by simpa using h2
  have h3' : tmps[3]?.getD undef = .int .i64 e := by simpa using h3
  simp [results, Tryd.results109, go_sem, h2', h3', hvc]
theorem get2_err {w W : World} {tmps : Array Value} {vb : Nat} {x : Int} (h2 : tmps.getD 2 undef = .pointer (some ⟨vb, 0, none⟩)) (h3 : tmps.getD 3 undef = .int .i64 x) (hB : Blk W vb 27 Cv.zero.cells) (hg : Grow w W) :
    bodyPost Tryd.prog Tryd.f109 (GetC w (.error x)) .ret { tmps := tmps, defers := [] } W :=
  bodyPost_ret (refres2 h2 h3 Cv.zero hB) rfl ⟨rfl, hg⟩
theorem get2_ok {w W : World} {tmps : Array Value} {vb : Nat} {c : Cv} {v : V} (h2 : tmps.getD 2 undef = .pointer (some ⟨vb, 0, none⟩)) (h3 : tmps.getD 3 undef = .int .i64 0) (hB : Blk W vb 27 c.cells) (hg : Grow w W) (hin : InS W w.heap.size W.heap.size v c) :
    bodyPost Tryd.prog Tryd.f109 (GetC w (.ok v)) .ret { tmps := tmps, defers := [] } W :=
  bodyPost_ret (refres2 h2 h3 c hB) rfl ⟨c, rfl, hin, hg⟩

set_option maxRecDepth 100000 in
set_option maxHeartbeats 1600000 in
theorem refGetAll_any (b : List UInt8) (A : Option Addr) (cap : Nat) (w : World) (hb : InB w A b) (hl : b.length ≤ 140737488355328) (hcap : b.length ≤ cap) :
    Calls Tryd.prog 109 #[.slice A b.length cap] w (GetC w (rdAll b)) := by
  have HB := hide hb
  clear hb
  obtain ⟨got, hgot⟩ : ∃ g, rdAll b = g := ⟨_, rfl⟩
  rw [hgot]
  have HG := hide hgot
  clear hgot
  by_cases h4 : 4096 < b.length
  · have hres : got = .error 2 := by rw [← HG.out, rdAll, if_pos h4]
    subst hres
    go_enter Tryd.func109, Tryd.ntmps109
    go_wp2_with fail
    exact get2_err rfl rfl (Blk.new w _ _) ((Grow.refl w).alloc _)
  · have hcall := rget_any 16 0 b A cap rfl hl hcap (w.alloc (.cells Cv.zero.cells 27)) 0 (HB.out.grow ((Grow.refl w).alloc _)) (Nat.zero_le _)
    rw [List.drop_zero] at hcall
    have HV0 := hide (Blk.new w 27 Cv.zero.cells)
    have HG0 := hide ((Grow.refl w).alloc (.cells Cv.zero.cells 27))
    cases hrd : rd 16 b with
    | error ee =>
      have hres : got = .error ee := by rw [← HG.out, rdAll, if_neg h4, hrd]
      subst hres
      rw [hrd] at hcall
      have hne : (ee != 0) = true := by simpa using rd_nz _ _ _ hrd
      have HC := hide hcall
      clear hcall hrd
      go_enter Tryd.func109, Tryd.ntmps109
      go_wp2_with fail
      refine HC.out.mono ?_
      rintro e w1 ⟨rfl, hg1⟩
      have hV1 := HV0.out.grow hg1
      have hc := hV1.cell
      have hf := hV1.frozen
      have hlt := hV1.lt
      have HV1 := hide hV1
      have HG1 := hide (HG0.out.trans hg1)
      clear hV1 hg1
      go_wp2_with fail
      exact get2_err rfl rfl ((set5_from (c := Cv.zero) HV1.out).alloc _) ((HG1.out.grown (set5_grown _ w.heap.size Cv.zero) (fun k e => by injection e with e; omega)).alloc _)
    | ok vr =>
      obtain ⟨v, r⟩ := vr
      rw [hrd] at hcall
      have HRD := hide hrd
      have HC := hide hcall
      clear hcall hrd
      go_enter Tryd.func109, Tryd.ntmps109
      go_wp2_with fail
      refine HC.out.mono ?_
      rintro e w1 ⟨c, p, rfl, hin, hg1, hr, hp⟩
      have hV1 := HV0.out.grow hg1
      have hc := hV1.cell
      have hf := hV1.frozen
      have hlt := hV1.lt
      have HV1 := hide hV1
      have HG1 := hide (HG0.out.trans hg1)
      have HI := hide hin
      have HR := hide hr
      have hz0 : w.heap.size ≤ (w.alloc (.cells Cv.zero.cells 27)).heap.size := HG0.out.size
      clear hV1 hg1 hin hr
      by_cases hpl : p = b.length
      · have hres : got = .ok v := by rw [← HG.out, rdAll, if_neg h4, HRD.out, HR.out, hpl, List.drop_length]; rfl
        subst hres
        have hpb : ((p : Int) != (b.length : Int)) = false := by simp [hpl]
        clear hpl
        go_wp2_with fail
        have hs := set5_grown w1 w.heap.size c
        have hI2 := ((HI.out.blocks hs.size (fun k h1 h2 => hs.block k (Nat.lt_of_lt_of_le h2 HI.out.1) (fun e => by have e2 := Option.some.inj e; have e3 : (w.alloc (.cells Cv.zero.cells 27)).heap.size = w.heap.size + 1 := (by simp); omega))).grow ((Grow.refl _).alloc (.cells c.cells 27)))
        exact get2_ok (c := c) rfl rfl ((set5_from (c := c) HV1.out).alloc _) ((HG1.out.grown hs (fun k e => by injection e with e; omega)).alloc _) (hI2.wider hz0 (Nat.le_trans HI.out.1 (Nat.le_trans hs.size (Grow.size ((Grow.refl (set5 w1 w.heap.size c)).alloc (.cells c.cells 27))))) (Nat.le_refl _))
      · have hres : got = .error 4 := by
          rw [← HG.out, rdAll, if_neg h4, HRD.out]
          simp only
          rw [if_neg (fun h => by have := HR.out; rw [h] at this; have := congrArg List.length this; simp at this; omega)]
        subst hres
        have hpb : ((p : Int) != (b.length : Int)) = true := by simp; omega
        clear hpl
        go_wp2_with fail
        exact get2_err rfl rfl ((set5_from (c := Cv.zero) HV1.out).alloc _) ((HG1.out.grown (set5_grown _ w.heap.size Cv.zero) (fun k e => by injection e with e; omega)).alloc _)
end Go.Proofs.YthjjmndjfoebgaaDoor
