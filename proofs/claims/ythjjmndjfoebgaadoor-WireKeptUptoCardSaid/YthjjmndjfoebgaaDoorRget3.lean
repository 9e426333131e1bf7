/- Walks: the document's answer: get: lists. Written by wip/tools/gen_rget3.py. -/
import Derived.Test.YthjjmndjfoebgaaDoorRget2
import Derived.Test.YthjjmndjfoebgaaDoorPls
set_option linter.unusedVariables false
set_option linter.unusedSimpArgs false
namespace Go.Proofs.YthjjmndjfoebgaaDoor
open Go.RowKit Go.Shelf

theorem Src.oneV1 {w : World} {o : Obj} (c : Cv) (e : TypeId) : Src Tryd.prog 5 24 (.slice (some ⟨w.heap.size + 1, 0, none⟩) 1 1) 1 c.cells.toList ((w.alloc o).alloc (.cells c.cells e)) := by
  have h := Src.oneV (w := w.alloc o) c e
  rwa [show (w.alloc o).heap.size = w.heap.size + 1 by simp] at h
/-- The document's reader reads as f, so deep. -/
def RefF (f : List UInt8 → Got) (above : Nat) (b : List UInt8) (A : Option Addr) (cap : Nat) : Prop := ∀ (w : World) (at_ : Nat), InB w A b → at_ ≤ b.length →
  Calls Tryd.prog 145 #[.slice A b.length cap, .int .i64 at_, .int .i64 above] w (RefC w b (f (b.drop at_)))

set_option maxRecDepth 100000 in
set_option maxHeartbeats 1600000 in
theorem rget_7a (above at_ : Nat) (b : List UInt8) (A : Option Addr) (cap : Nat) (w : World) (hb : InB w A b) (hl : b.length ≤ 140737488355328) (hcap : b.length ≤ cap) (hat : at_ < b.length) (ha : 16 ≤ above) (hk : b[at_].toNat = 7) :
    Calls Tryd.prog 145 #[.slice A b.length cap, .int .i64 at_, .int .i64 above] w (RefC w b (.error 3)) := by
  have HB := hide hb
  obtain ⟨bk, o, rfl, hbk, e0⟩ := hb.at_ at_ (by omega)
  rw [hk] at e0
  clear hb hk
  go_enter Tryd.func145, Tryd.ntmps145
  go_wp2_with fail
  exact ref_err rfl rfl rfl (((Blk.new w _ _).alloc _).alloc _) ((((Grow.refl w).alloc _).alloc _).alloc _)
set_option maxRecDepth 100000 in
set_option maxHeartbeats 1600000 in
theorem rget_7b (above at_ : Nat) (b : List UInt8) (A : Option Addr) (cap : Nat) (w : World) (hb : InB w A b) (hl : b.length ≤ 140737488355328) (hcap : b.length ≤ cap) (hat : at_ + 1 = b.length) (ha : above < 16) (hk : b[at_].toNat = 7) :
    Calls Tryd.prog 145 #[.slice A b.length cap, .int .i64 at_, .int .i64 above] w (RefC w b (.error 4)) := by
  have HB := hide hb
  obtain ⟨bk, o, rfl, hbk, e0⟩ := hb.at_ at_ (by omega)
  rw [hk] at e0
  clear hb hk
  have hge : b.length ≤ at_ + 1 := by omega
  have hlt : at_ < b.length := by omega
  clear hat
  go_enter Tryd.func145, Tryd.ntmps145
  go_wp2_with fail
  exact ref_err rfl rfl rfl (((Blk.new w _ _).alloc _).alloc _) ((((Grow.refl w).alloc _).alloc _).alloc _)
set_option maxRecDepth 100000 in
set_option maxHeartbeats 1600000 in
theorem rget_7c (above at_ : Nat) (b : List UInt8) (A : Option Addr) (cap : Nat) (w : World) (hb : InB w A b) (hl : b.length ≤ 140737488355328) (hcap : b.length ≤ cap) (hat : at_ + 1 < b.length) (ha : above < 16) (hk : b[at_].toNat = 7) (n : Nat) (hx : b[at_ + 1].toNat = n) (hn : 64 < n) :
    Calls Tryd.prog 145 #[.slice A b.length cap, .int .i64 at_, .int .i64 above] w (RefC w b (.error 19)) := by
  have HB := hide hb
  obtain ⟨bk, o, rfl, hbk, e0⟩ := hb.at_ at_ (by omega)
  rw [hk] at e0
  clear hb hk
  obtain ⟨p, hp⟩ : ∃ p, p = at_ + 1 := ⟨_, rfl⟩
  have hpp : (at_ : Int) + 1 = (p : Int) := by omega
  obtain ⟨bk', o', e', hbk', e1⟩ := HB.out.at_ p (by omega)
  injection e' with e'
  injection e' with e1' e2'
  subst e1' e2'
  have hx2 : b[p].toNat = n := by subst hp; exact hx
  have hn256 : n < 256 := by rw [← hx]; exact (b[at_ + 1]).toNat_lt
  rw [hx2] at e1
  have e1 := (((((Grow.refl w).alloc (.cells Cv.zero.cells 27)).alloc (.cells Cv.zero.cells 27)).alloc (.cells (Cv.cells ⟨7, 0, none, 0, 0, none, 0, 0, none, 0, 0⟩) 27)).below.cell (p := ⟨bk, o + p, none⟩) hbk).trans e1
  have HP := hide hp
  have hpl : p < b.length := by omega
  clear hx hx2 hp
  go_enter Tryd.func145, Tryd.ntmps145
  go_wp2_with fail
  exact ref_err rfl rfl rfl (((Blk.new w _ _).alloc _).alloc _) ((((Grow.refl w).alloc _).alloc _).alloc _)
set_option maxRecDepth 100000 in
set_option maxHeartbeats 3200000 in
theorem rget_7d (above at_ : Nat) (b : List UInt8) (A : Option Addr) (cap : Nat) (w : World) (hb : InB w A b) (hl : b.length ≤ 140737488355328) (hcap : b.length ≤ cap) (hat : at_ + 1 < b.length) (ha : above < 16) (hk : b[at_].toNat = 7) (n : Nat) (hx : b[at_ + 1].toNat = n) (hy : n ≤ 64) (f : List UInt8 → Got) (hF : RefF f (above + 1) b A cap) (hE : ∀ bs e, f bs = .error e → e ≠ 0) :
    Calls Tryd.prog 145 #[.slice A b.length cap, .int .i64 at_, .int .i64 above] w (RefC w b (listGot f n (b.drop (at_ + 2)))) := by
  obtain ⟨i0, hi0, hz0, hz1, hz2⟩ := info_parts info_val3
  have Hi0 := hide hi0
  have Hz0 := hide hz0
  have Hz1 := hide hz1
  have Hz2 := hide hz2
  clear hi0 hz0 hz1 hz2
  have HF := hide hF
  have HERR := hide hE
  clear hF hE
  have HB := hide hb
  obtain ⟨bk, o, rfl, hbk, e0⟩ := hb.at_ at_ (by omega)
  rw [hk] at e0
  clear hb hk
  obtain ⟨p, hp⟩ : ∃ p, p = at_ + 1 := ⟨_, rfl⟩
  have hpp : (at_ : Int) + 1 = (p : Int) := by omega
  obtain ⟨bk', o', e', hbk', e1⟩ := HB.out.at_ p (by omega)
  injection e' with e'
  injection e' with e1' e2'
  subst e1' e2'
  have hx2 : b[p].toNat = n := by subst hp; exact hx
  have hn256 : n < 256 := by rw [← hx]; exact (b[at_ + 1]).toNat_lt
  rw [hx2] at e1
  have e1 := (((((Grow.refl w).alloc (.cells Cv.zero.cells 27)).alloc (.cells Cv.zero.cells 27)).alloc (.cells (Cv.cells ⟨7, 0, none, 0, 0, none, 0, 0, none, 0, 0⟩) 27)).below.cell (p := ⟨bk, o + p, none⟩) hbk).trans e1
  have HP := hide hp
  have hpl : p < b.length := by omega
  clear hx hx2 hp
  obtain ⟨W3, hW3⟩ : ∃ W, W = (((w.alloc (.cells #[.int .i64 0, .int .u64 0, .slice none 0 0, .slice none 0 0, .slice none 0 0] 27)).alloc (.cells #[.int .i64 0, .int .u64 0, .slice none 0 0, .slice none 0 0, .slice none 0 0] 27)).alloc (.cells #[.int .i64 7, .int .u64 0, .slice none 0 0, .slice none 0 0, .slice none 0 0] 27)) := ⟨_, rfl⟩
  have HG3 := hide (show Grow w W3 by rw [hW3]; exact (((Grow.refl w).alloc _).alloc _).alloc _)
  have HV6 := hide (show Blk W3 w.heap.size 27 #[.int .i64 0, .int .u64 0, .slice none 0 0, .slice none 0 0, .slice none 0 0] by rw [hW3]; exact ((Blk.new w _ _).alloc _).alloc _)
  have HV9 := hide (show Blk W3 (w.heap.size + 1) 27 #[.int .i64 0, .int .u64 0, .slice none 0 0, .slice none 0 0, .slice none 0 0] by rw [hW3]; exact (Blk.new' (by simp) _ _).alloc _)
  have HV10 := hide (show Blk W3 (w.heap.size + 1 + 1) 27 #[.int .i64 7, .int .u64 0, .slice none 0 0, .slice none 0 0, .slice none 0 0] by rw [hW3]; exact Blk.new' (by simp) _ _)
  have HW3 := hide hW3
  have hz3 : w.heap.size + 1 + 1 < W3.heap.size := HV10.out.lt
  clear hW3
  have hab : IntKind.i64.wrap ((above : Int) + 1) = (above : Int) + 1 := IntWalk.i64_in _ (by omega)
  obtain ⟨s0, hs0⟩ : ∃ s, s = at_ + 2 := ⟨_, rfl⟩
  have hss : (p : Int) + 1 = (s0 : Int) := by have := HP.out; omega
  rw [← hs0]
  have hsl : s0 ≤ b.length := by omega
  have HS0 := hide hs0
  clear hs0 hat
  go_enter Tryd.func145, Tryd.ntmps145
  go_wp2_with fail
  rw [← HW3.out]
  clear e0 e1
  go_loopg [1, 13] (n + 1) (fun gk at' i wr => ∃ (j pos : Nat) (es : List VE) (A : Option Addr) (cap : Nat), j ≤ n ∧ gk + j = n + 1 ∧ i = .int .i64 j ∧ at' = .int .i64 pos ∧ pos ≤ b.length ∧ es.length = j ∧ Sofar f n j (b.drop s0) (b.drop pos) es ∧
    VRow wr 27 noHead 5 w.heap.size (w.heap.size + 1 + 1) W3.heap.size (.slice A j cap) es ∧ Grow w wr ∧ Blk wr w.heap.size 27 #[.int .i64 0, .int .u64 0, .slice none 0 0, .slice none 0 0, .slice none 0 0] ∧ Blk wr (w.heap.size + 1) 27 #[.int .i64 0, .int .u64 0, .slice none 0 0, .slice none 0 0, .slice none 0 0] ∧ Blk wr (w.heap.size + 1 + 1) 27 #[.int .i64 7, .int .u64 0, .slice none 0 0, .slice A j cap, .slice none 0 0] ∧ W3.heap.size ≤ wr.heap.size)
  case atStart => exact ⟨0, s0, [], none, 0, by omega, by omega, rfl, rfl, hsl, rfl, Sofar.start f n _, ⟨World.ownsRow_nil _ _ _ _, fun x hx => by simp at hx, fun i j hi => by simp at hi⟩, HG3.out, HV6.out, HV9.out, HV10.out, Nat.le_refl _⟩
  case round =>
    obtain ⟨j, pos, es, A', cap', hj, hg, rfl, rfl, hpos, hel, hsf, hv, hgr, h6, h9, h10, hbz⟩ := hrel
    have HV := hide hv
    have HG := hide hgr
    have H6 := hide h6
    have H9 := hide h9
    have H10 := hide h10
    have HSF := hide hsf
    have HEL := hide hel
    have hc9 := h9.cell
    have hc10 := h10.cell
    have hc6 := h6.cell
    have hf6 := h6.frozen
    have hf10 := h10.frozen
    have h10l := h10.lt
    have hgz := hgr.size
    clear hv hgr h6 h9 h10 hsf hel
    by_cases hlt2 : j < n
    · obtain ⟨gk', rfl⟩ : ∃ g, gk = g + 1 := ⟨gk - 1, by omega⟩
      have hcall := HF.out wr pos (HB.out.grow HG.out) hpos
      rw [show ((above + 1 : Nat) : Int) = (above : Int) + 1 by omega] at hcall
      cases hfx : f (b.drop pos) with
      | error ee =>
        rw [hfx] at hcall
        have hne : (ee != 0) = true := by simpa using HERR.out _ _ hfx
        have hgot : listGot f n (b.drop s0) = .error ee := by unfold listGot; rw [HSF.out.fail hlt2 hfx]
        have HGOT := hide hgot
        have HC := hide hcall
        clear hcall hfx hgot
        go_wp2_with fail
        refine HC.out.mono ?_
        rintro e w2 ⟨rfl, hg2⟩
        have h9' := H9.out.grow hg2
        have h6' := H6.out.grow hg2
        have h9l := h9'.lt
        have h6l := h6'.lt
        have hd9 := (h9'.alloc (.cells Cv.zero.cells 27)).cell
        have hd6 := (h6'.alloc (.cells Cv.zero.cells 27)).cell
        have he6 := (h6'.alloc (.cells Cv.zero.cells 27)).frozen
        have hd6w := h6'.cell
        have he6w := h6'.frozen
        have H6' := hide h6'
        have HG2 := hide (HG.out.trans hg2)
        clear h9' h6' hg2 hc9 hc10 hc6 hf6 hf10
        go_wp2_with fail
        rw [HGOT.out]
        exact ref_err rfl rfl rfl ((set5_from (c := Cv.zero) H6'.out).alloc _) ((HG2.out.grown (set5_grown _ w.heap.size Cv.zero) (fun k e => by injection e with e; omega)).alloc _)
      | ok xr =>
        obtain ⟨xv, rest'⟩ := xr
        rw [hfx] at hcall
        have HC := hide hcall
        have HX := hide hfx
        clear hcall hfx
        go_wp2_with fail
        refine HC.out.mono ?_
        rintro e w2 ⟨c, p2, rfl, hx2, hg2, hre, hp2⟩
        have HX2 := hide hx2
        have h9' := H9.out.grow hg2
        have h6' := H6.out.grow hg2
        have h10' := H10.out.grow hg2
        have h10l' := h10'.lt
        have hd10 := (h10'.alloc (.cells c.cells 27)).cell
        have he10 := (h10'.alloc (.cells c.cells 27)).frozen
        have hd10b := ((h10'.alloc (.cells c.cells 27)).alloc (.cells c.cells 27)).cell
        have H6' := hide h6'
        have H9' := hide h9'
        have H10' := hide h10'
        have HG2 := hide (HG.out.trans hg2)
        have hz2 := hg2.size
        have HV2 := hide (HV.out.grow hg2)
        have HRE := hide hre
        have hown2 := HV2.out.own
        rw [HEL.out] at hown2
        clear h9' h6' h10' hg2 hx2 hre hc9 hc10 hc6 hf6 hf10
        go_wp2_with (first | (at_builtin; refine wpList_append_src rfl (.tmp 250) (.tmp 252) 24 24 rfl W3.heap.size 27 i0 _ 5 88 under_vals Hi0.out Hz0.out Hz1.out Hz2.out rfl (.slice A' j cap') j (cellsOf noHead es) rfl ((hown2.alloc _).alloc _) _ 1 c.cells.toList rfl (Src.oneV1 c _) (by omega) (by simp only [maxLen]; omega) (by simp; omega) ?_; intro A3 c3 w3 hown3 hgr3 hat3; have hB3 := Blk.own ((H10'.out.alloc _).alloc _) hgr3 (fun k hk => by have := (HV2.out.own_lt hk).1; omega); have hc3 := hB3.cell; have hf3 := hB3.frozen; have HV4 := hide (VRow.set (VRow.add (s := ⟨#[]⟩) (m0 := wr.heap.size) (HV2.out.grow ((Grow.refl w2).alloc (.cells c.cells 27))) (fun k hk => (HV.out.own_lt hk).2) h10l (by omega) (fun y hy => (HV.out.part y hy).2.2.2.1) ((HX2.out.grow ((Grow.refl w2).alloc (.cells c.cells 27))).wider (Nat.le_refl _) (by simp) (Nat.le_refl _)) (by rw [HEL.out]; exact hown3) hgr3 hat3) hz3 3 (.slice A3 (j + 1) c3)); have H104 := hide (hB3.set_ 3 (.slice A3 (j + 1) c3)); have H64 := hide (Blk.far (Blk.own ((H6'.out.alloc _).alloc _) hgr3 (fun k hk => by have := (HV2.out.own_lt hk).1; omega)) (p := ⟨w.heap.size + 1 + 1, 3, none⟩) (by simp; omega) (.slice A3 (j + 1) c3)); have H94 := hide (Blk.far (Blk.own ((H9'.out.alloc _).alloc _) hgr3 (fun k hk => by have := (HV2.out.own_lt hk).1; omega)) (p := ⟨w.heap.size + 1 + 1, 3, none⟩) (by simp) (.slice A3 (j + 1) c3)); have HG4 := hide ((((HG2.out.alloc _).alloc _).grown hgr3 (fun k hk => by have := (HV2.out.own_lt hk).1; omega)).setCell (p := ⟨w.heap.size + 1 + 1, 3, none⟩) (by simp; omega) (.slice A3 (j + 1) c3)); have hz4 : W3.heap.size ≤ (w3.setCell ⟨w.heap.size + 1 + 1, 3, none⟩ (.slice A3 (j + 1) c3)).heap.size := by (have := hgr3.size; simp [World.setCell] at this ⊢; omega)))
        go_roundg gk'
        case measure => omega
        case rel => exact ⟨j + 1, p2, es ++ [VE.mk ⟨#[]⟩ xv c wr.heap.size (w2.alloc (.cells c.cells 27)).heap.size], A3, c3, by omega, by omega, by go_num, rfl, hp2, by simp [HEL.out], by have h := HSF.out.step (x := VE.mk ⟨#[]⟩ xv c wr.heap.size (w2.alloc (.cells c.cells 27)).heap.size) hlt2 HX.out; rw [HRE.out] at h; exact h, HV4.out, HG4.out, H64.out, H94.out, H104.out, hz4⟩
    · obtain rfl : j = n := by omega
      have hgot : listGot f j (b.drop s0) = .ok (.mk 7 0 [] (es.map VE.v) [], b.drop pos) := by unfold listGot; rw [HSF.out.done]
      have HGOT := hide hgot
      clear hgot
      go_wp2_with fail
      rw [HGOT.out]
      exact ref_ok (p := pos) (c := ⟨7, 0, none, 0, 0, A', j, cap', none, 0, 0⟩) rfl rfl rfl (set5_from (c := ⟨7, 0, none, 0, 0, A', j, cap', none, 0, 0⟩) H6.out) (HG.out.grown (set5_grown _ w.heap.size ⟨7, 0, none, 0, 0, A', j, cap', none, 0, 0⟩) (fun k e => by injection e with e; omega))
        ⟨Nat.le_refl _, IsS.mono _ _ _ _ (fun p u h s => h.1.block ((set5_grown wr w.heap.size ⟨7, 0, none, 0, 0, A', j, cap', none, 0, 0⟩).block _ s.2 (fun e => h.2 (by injection e)))) (fun q h => ⟨h.1, Nat.lt_of_lt_of_le h.2 (set5_grown wr w.heap.size ⟨7, 0, none, 0, 0, A', j, cap', none, 0, 0⟩).size⟩) ((HV.out.lower (vb' := w.heap.size) (by omega)).isL HEL.out.symm (by omega) (by omega) hy)⟩ rfl hpos
end Go.Proofs.YthjjmndjfoebgaaDoor
