/- Walks: the document's answer: get: bytes and text. Written by wip/tools/gen_rget2.py. -/
import Derived.Test.YthjjmndjfoebgaaDoorRget1
set_option linter.unusedVariables false
set_option linter.unusedSimpArgs false
namespace Go.Proofs.YthjjmndjfoebgaaDoor
open Go.RowKit Go.Shelf

theorem src_part {W : World} {bk o : Nat} {b : List UInt8} (h : InB W (some ⟨bk, o, none⟩) b) (q n c : Nat) (hq : q + n ≤ b.length) : Src Tryd.prog 1 23 (.slice (some ⟨bk, o + q, none⟩) n c) n (u8s ((b.drop q).take n)) W :=
  Src.ofSlice _ under_u8s ⟨bk, o + q, none⟩ n c _ (by rw [u8s_length, List.length_take, List.length_drop]; omega) (fun j u hu => by
    have hj : j < n := by
      have := (List.getElem?_eq_some_iff.1 hu).1
      rw [u8s_length, List.length_take] at this
      omega
    obtain ⟨bk', o', e, _, hc⟩ := h.at_ (q + j) (by omega)
    injection e with e
    injection e with e1 e2
    subst e1 e2
    rw [add_lit, Nat.add_assoc, hc]
    rw [u8s_get _ j (by rw [List.length_take, List.length_drop]; omega)] at hu
    rw [← hu]
    simp) (u8s_one _)
/-- Bytes of the call's own as a value. -/
theorem bytes_end {w W3 w4 : World} {b6 b10 m c4 : Nat} {A4 : Option Addr} {xs : List UInt8} {kk : Int} (u : Value) (hr : Row w4 W3.heap.size (.slice A4 m c4) m xs) (h6 : b6 < W3.heap.size) (h10 : b10 < W3.heap.size) (hw : w.heap.size ≤ W3.heap.size) (hm : m ≤ 140737488355328)
    (hk1 : -9223372036854775808 ≤ kk) (hk2 : kk ≤ 9223372036854775807) :
    InS (set5 (w4.setCell ⟨b10, 2, none⟩ u) b6 ⟨kk, 0, A4, m, c4, none, 0, 0, none, 0, 0⟩) w.heap.size (set5 (w4.setCell ⟨b10, 2, none⟩ u) b6 ⟨kk, 0, A4, m, c4, none, 0, 0, none, 0, 0⟩).heap.size (.mk kk 0 xs [] []) ⟨kk, 0, A4, m, c4, none, 0, 0, none, 0, 0⟩ := by
  have hlen : xs.length = m := by have := hr.1; simpa [u8s] using this
  have hcap := hr.cap
  have hg1 := grown_set w4 b10 2 u
  have hg2 := set5_grown (w4.setCell ⟨b10, 2, none⟩ u) b6 ⟨kk, 0, A4, m, c4, none, 0, 0, none, 0, 0⟩
  refine ⟨Nat.le_refl _, IsS.flat (C := fun p u => AtW w4 W3.heap.size w4.heap.size p u ∧ w4.frozen? p = false) ⟨rfl, rfl⟩ (fun p v h => ?_) ?_⟩
  · have e1 := hg1.block p.block h.1.2.2 (fun e => by injection e with e; have := h.1.2.1; omega)
    have e2 := hg2.block p.block (Nat.lt_of_lt_of_le h.1.2.2 hg1.size) (fun e => by injection e with e; have := h.1.2.1; omega)
    exact ⟨CF.block ⟨h.1.1, h.2⟩ (e2.trans e1), by have := h.1.2.1; omega, Nat.lt_of_lt_of_le h.1.2.2 (Nat.le_trans hg1.size hg2.size)⟩
  · rw [IsV]
    exact ⟨rfl, rfl, hlen.symm, rfl, rfl, hk1, hk2, by omega, by rw [hlen]; exact hcap, by rw [hlen]; exact hm, Nat.le_refl _, by simp, Nat.le_refl _, by simp, by rw [hlen]; exact hr.from_, fun i h => absurd h (by simp), fun i h => absurd h (by simp)⟩
theorem bytes_in {W3 w4 : World} {b10 m c4 : Nat} {A4 : Option Addr} {xs : List UInt8} (u : Value) (hr : Row w4 W3.heap.size (.slice A4 m c4) m xs) (h10 : b10 < W3.heap.size) : InB (w4.setCell ⟨b10, 2, none⟩ u) A4 xs := by
  have hg1 := grown_set w4 b10 2 u
  have hr' : Row (w4.setCell ⟨b10, 2, none⟩ u) W3.heap.size (.slice A4 m c4) m xs := World.ownsRow.kept hr hg1 (by
    cases hv : Value.ownBlock (.slice A4 m c4) with
    | none => exact .inl rfl
    | some k => right; intro e; injection e with e; have := (World.ownsRow.lt hr k hv).1; omega)
  exact hr'.reads.1
set_option maxRecDepth 100000 in
set_option maxHeartbeats 1600000 in
theorem rget_5a (above at_ : Nat) (b : List UInt8) (A : Option Addr) (cap : Nat) (w : World) (hb : InB w A b) (hl : b.length ≤ 140737488355328) (hcap : b.length ≤ cap) (hat : at_ < b.length) (hat2 : b.length < at_ + 1 + 2) (hk : b[at_].toNat = 5) :
    Calls Tryd.prog 145 #[.slice A b.length cap, .int .i64 at_, .int .i64 above] w (RefC w b (.error 4)) := by
  have HB := hide hb
  obtain ⟨bk, o, rfl, hbk, e0⟩ := hb.at_ at_ (by omega)
  rw [hk] at e0
  clear hb hk
  go_enter Tryd.func145, Tryd.ntmps145
  go_wp2_with fail
  exact ref_err rfl rfl rfl (((Blk.new w _ _).alloc _).alloc _) ((((Grow.refl w).alloc _).alloc _).alloc _)
set_option maxRecDepth 100000 in
set_option maxHeartbeats 1600000 in
theorem rget_5b (above at_ : Nat) (b : List UInt8) (A : Option Addr) (cap : Nat) (w : World) (hb : InB w A b) (hl : b.length ≤ 140737488355328) (hcap : b.length ≤ cap) (hat : at_ + 1 + 2 ≤ b.length) (hk : b[at_].toNat = 5) (hm : b.length < at_ + 1 + 2 + le ((b.drop (at_ + 1)).take 2)) :
    Calls Tryd.prog 145 #[.slice A b.length cap, .int .i64 at_, .int .i64 above] w (RefC w b (.error 4)) := by
  have HB := hide hb
  obtain ⟨bk, o, rfl, hbk, e0⟩ := hb.at_ at_ (by omega)
  rw [hk] at e0
  clear hb hk
  obtain ⟨p, hp⟩ : ∃ p, p = at_ + 1 := ⟨_, rfl⟩
  have hpp : (at_ : Int) + 1 = (p : Int) := by omega
  have HP := hide hp
  obtain ⟨W3, hW3⟩ : ∃ W, W = (((w.alloc (.cells #[.int .i64 0, .int .u64 0, .slice none 0 0, .slice none 0 0, .slice none 0 0] 27)).alloc (.cells #[.int .i64 0, .int .u64 0, .slice none 0 0, .slice none 0 0, .slice none 0 0] 27)).alloc (.cells #[.int .i64 5, .int .u64 0, .slice none 0 0, .slice none 0 0, .slice none 0 0] 27)) := ⟨_, rfl⟩
  have HG3 := hide (show Grow w W3 by rw [hW3]; exact (((Grow.refl w).alloc _).alloc _).alloc _)
  have HV6 := hide (show Blk W3 w.heap.size 27 #[.int .i64 0, .int .u64 0, .slice none 0 0, .slice none 0 0, .slice none 0 0] by rw [hW3]; exact ((Blk.new w _ _).alloc _).alloc _)
  have HV9 := hide (show Blk W3 (w.heap.size + 1) 27 #[.int .i64 0, .int .u64 0, .slice none 0 0, .slice none 0 0, .slice none 0 0] by rw [hW3]; exact (Blk.new' (by simp) _ _).alloc _)
  have HV10 := hide (show Blk W3 (w.heap.size + 1 + 1) 27 #[.int .i64 5, .int .u64 0, .slice none 0 0, .slice none 0 0, .slice none 0 0] by rw [hW3]; exact Blk.new' (by simp) _ _)
  have HW3 := hide hW3
  clear hW3
  have hlt := le_lt ((b.drop p).take 2)
  rw [show ((b.drop p).take 2).length = 2 by rw [List.length_take, List.length_drop]; omega] at hlt
  obtain ⟨n, hn⟩ : ∃ n, le ((b.drop p).take 2) = n := ⟨_, rfl⟩
  have hn' : le ((b.drop (at_ + 1)).take 2) = n := by rw [← hn, hp]
  rw [hn'] at hm
  rw [hn] at hlt
  have hlt : n < 65536 := by simpa using hlt
  have HN := hide hn
  have hc8 := refGet_any b (some ⟨bk, o, none⟩) cap p 2 W3 (HB.out.grow HG3.out) (by omega) (by omega) hl
  rw [HN.out, HW3.out] at hc8
  have HC := hide hc8
  have hwr : IntKind.i64.wrap (n : Int) = (n : Int) := IntWalk.i64_in _ (by omega)
  clear hc8 hn hn' hp
  have hm2 : b.length < p + 2 + n := by have := HP.out; omega
  have hat2 : p + 2 ≤ b.length := by have := HP.out; omega
  clear hm hat
  go_enter Tryd.func145, Tryd.ntmps145
  go_wp2_with fail
  refine HC.out.mono ?_
  rintro e w' ⟨rfl, rfl⟩
  go_wp2_with fail
  exact ref_err rfl rfl rfl (((Blk.new w _ _).alloc _).alloc _) ((((Grow.refl w).alloc _).alloc _).alloc _)
set_option maxRecDepth 100000 in
set_option maxHeartbeats 3200000 in
theorem rget_5c (above at_ : Nat) (b : List UInt8) (A : Option Addr) (cap : Nat) (w : World) (hb : InB w A b) (hl : b.length ≤ 140737488355328) (hcap : b.length ≤ cap) (hat : at_ + 1 + 2 ≤ b.length) (hk : b[at_].toNat = 5) (hm : at_ + 1 + 2 + le ((b.drop (at_ + 1)).take 2) ≤ b.length) (hv : Lib.validD ((b.drop (at_ + 1 + 2)).take (le ((b.drop (at_ + 1)).take 2))) = true) :
    Calls Tryd.prog 145 #[.slice A b.length cap, .int .i64 at_, .int .i64 above] w (RefC w b (.ok (.mk 5 0 ((b.drop (at_ + 1 + 2)).take (le ((b.drop (at_ + 1)).take 2))) [] [], b.drop (at_ + 1 + 2 + le ((b.drop (at_ + 1)).take 2))))) := by
  have HB := hide hb
  obtain ⟨bk, o, rfl, hbk, e0⟩ := hb.at_ at_ (by omega)
  rw [hk] at e0
  clear hb hk
  obtain ⟨i0, hi0, hz0, hz1, hz2⟩ := info_parts info_u8
  have Hi0 := hide hi0
  have Hz0 := hide hz0
  have Hz1 := hide hz1
  have Hz2 := hide hz2
  clear hi0 hz0 hz1 hz2
  obtain ⟨p, hp⟩ : ∃ p, p = at_ + 1 := ⟨_, rfl⟩
  have hpp : (at_ : Int) + 1 = (p : Int) := by omega
  have HP := hide hp
  obtain ⟨W3, hW3⟩ : ∃ W, W = (((w.alloc (.cells #[.int .i64 0, .int .u64 0, .slice none 0 0, .slice none 0 0, .slice none 0 0] 27)).alloc (.cells #[.int .i64 0, .int .u64 0, .slice none 0 0, .slice none 0 0, .slice none 0 0] 27)).alloc (.cells #[.int .i64 5, .int .u64 0, .slice none 0 0, .slice none 0 0, .slice none 0 0] 27)) := ⟨_, rfl⟩
  have HG3 := hide (show Grow w W3 by rw [hW3]; exact (((Grow.refl w).alloc _).alloc _).alloc _)
  have HV6 := hide (show Blk W3 w.heap.size 27 #[.int .i64 0, .int .u64 0, .slice none 0 0, .slice none 0 0, .slice none 0 0] by rw [hW3]; exact ((Blk.new w _ _).alloc _).alloc _)
  have HV9 := hide (show Blk W3 (w.heap.size + 1) 27 #[.int .i64 0, .int .u64 0, .slice none 0 0, .slice none 0 0, .slice none 0 0] by rw [hW3]; exact (Blk.new' (by simp) _ _).alloc _)
  have HV10 := hide (show Blk W3 (w.heap.size + 1 + 1) 27 #[.int .i64 5, .int .u64 0, .slice none 0 0, .slice none 0 0, .slice none 0 0] by rw [hW3]; exact Blk.new' (by simp) _ _)
  have HW3 := hide hW3
  clear hW3
  rw [← hp] at hm hat hv ⊢
  have hlt := le_lt ((b.drop p).take 2)
  rw [show ((b.drop p).take 2).length = 2 by rw [List.length_take, List.length_drop]; omega] at hlt
  obtain ⟨n, hn⟩ : ∃ n, le ((b.drop p).take 2) = n := ⟨_, rfl⟩
  rw [hn] at hlt hm hv ⊢
  have hlt : n < 65536 := by simpa using hlt
  have HN := hide hn
  have hc8 := refGet_any b (some ⟨bk, o, none⟩) cap p 2 W3 (HB.out.grow HG3.out) (by omega) (by omega) hl
  rw [HN.out, HW3.out] at hc8
  have HC := hide hc8
  have hwr : IntKind.i64.wrap (n : Int) = (n : Int) := IntWalk.i64_in _ (by omega)
  have hwq : IntKind.i64.wrap ((p : Int) + 2) = ((p + 2 : Nat) : Int) := (IntWalk.i64_in _ (by omega)).trans (by omega)
  have hws : IntKind.i64.wrap (((p + 2 : Nat) : Int) + (n : Int)) = ((p + 2 + n : Nat) : Int) := (IntWalk.i64_in _ (by omega)).trans (by omega)
  have hm2 : p + 2 + n ≤ b.length := hm
  obtain ⟨q, hq⟩ : ∃ q, q = p + 2 := ⟨_, rfl⟩
  rw [← hq] at hwq hws hm hat hv ⊢
  obtain ⟨s, hs⟩ : ∃ s, s = q + n := ⟨_, rfl⟩
  rw [← hs] at hws hm ⊢
  have hqs : q ≤ s := by omega
  have hsc : s ≤ cap := by omega
  have hn3 : n = s - q := by omega
  have hlen : ((b.drop q).take (s - q)).length = s - q := by rw [List.length_take, List.length_drop]; omega
  have HN3 := hide hn3
  have HLEN := hide hlen
  have hpq : p + 2 ≤ b.length := by omega
  rw [hn3] at hv ⊢
  have HWQ := hide hwq
  have HWS := hide hws
  have HVV := hide hv
  clear hv
  clear hc8 hn hp hs hq hn3 hlen hwq hws
  rcases Nat.lt_or_ge q cap with hqc | hqc
  · have hne : ¬ cap = q := by omega
    go_enter Tryd.func145, Tryd.ntmps145
    go_wp2_with fail
    refine HC.out.mono ?_
    rintro e w' ⟨rfl, rfl⟩
    rw [← HW3.out]
    have hc10 := HV10.out.cell
    have hf10 := HV10.out.frozen
    go_wp2_with fail
    have hwq := HWQ.out
    have hws := HWS.out
    have HBd := hide ((HB.out.grow HG3.out).grow (Grow.refl W3).drew)
    have h10l := HV10.out.lt
    go_region_law ((refine step_append_src (by rfl) (.tmp 110) (.tmp 118) 23 23 (by rfl) W3.heap.size 5 i0 _ 1 1 under_u8s Hi0.out Hz0.out Hz1.out Hz2.out (by rfl) (.slice none 0 0) 0 [] (by rfl) (World.ownsRow_nil _ _ _ _) (.slice (some ⟨bk, o + q, none⟩) (s - q) (cap - q)) (s - q) (u8s ((b.drop q).take (s - q))) (by rfl) (src_part HBd.out q (s - q) (cap - q) (by omega)) (by omega) (by simp only [maxLen]; omega) (by simp) ?_; intro A4 c4 w4 hown4 hgr4 hat4; have hV10 := Blk.own HV10.out.drew hgr4 (fun k hk => by cases hk); have hcA := hV10.cell; have hfA := hV10.frozen))
    all_goals
      have hr4 : Row w4 W3.heap.size (.slice A4 (s - q) c4) (s - q) ((b.drop q).take (s - q)) := by have h := hown4; rw [Nat.zero_add, List.nil_append] at h; exact h
      have hV6 := Blk.own HV6.out.drew hgr4 (fun k hk => by cases hk)
      have hV9 := Blk.own HV9.out.drew hgr4 (fun k hk => by cases hk)
      have h6l := HV6.out.lt
      have hg4 := hgr4.size
      have hcB := hV6.cell
      have hfB := hV6.frozen
      have hcC := hV9.cell
      have HG5 := hide (((HG3.out.drew).grown hgr4 (fun k hk => by cases hk)).setCell (p := ⟨w.heap.size + 1 + 1, 2, none⟩) (by simp; omega) (.slice A4 (s - q) c4))
      have HV6' := hide (hV6.far (p := ⟨w.heap.size + 1 + 1, 2, none⟩) (by simp; omega) (.slice A4 (s - q) c4))
      have hu := utf_any ((b.drop q).take (s - q)) A4 c4 _ (bytes_in (.slice A4 (s - q) c4) hr4 h10l) (by rw [HLEN.out]; omega)
      rw [HLEN.out] at hu
      have HU := hide hu
      have HE := hide (bytes_end (w := w) (b6 := w.heap.size) (b10 := w.heap.size + 1 + 1) (kk := 5) (.slice A4 (s - q) c4) hr4 h6l h10l HG3.out.size (by omega) (by omega) (by omega))
      clear hr4 hu hown4 hgr4 hat4 hV6 hV9 hV10 hc10 hf10
      go_wp2_with fail
      refine HU.out.mono ?_
      rintro e w5 ⟨rfl, rfl⟩
      rw [HVV.out]
      go_wp2_with fail
      exact ref_ok (p := s) (c := ⟨5, 0, A4, (s - q), c4, none, 0, 0, none, 0, 0⟩) rfl rfl rfl (set5_from (c := ⟨5, 0, A4, (s - q), c4, none, 0, 0, none, 0, 0⟩) HV6'.out) (HG5.out.grown (set5_grown _ w.heap.size ⟨5, 0, A4, (s - q), c4, none, 0, 0, none, 0, 0⟩) (fun k e => by injection e with e; omega)) (HE.out) rfl (by omega)
  · obtain rfl : cap = q := by omega
    obtain rfl : s = cap := by omega
    go_enter Tryd.func145, Tryd.ntmps145
    go_wp2_with fail
    refine HC.out.mono ?_
    rintro e w' ⟨rfl, rfl⟩
    rw [← HW3.out]
    have hc10 := HV10.out.cell
    have hf10 := HV10.out.frozen
    go_wp2_with fail
    have hwq := HWQ.out
    have hws := HWS.out
    have HBd := hide ((HB.out.grow HG3.out).grow (Grow.refl W3).drew)
    have h10l := HV10.out.lt
    go_region_law ((refine step_append_src (by rfl) (.tmp 110) (.tmp 118) 23 23 (by rfl) W3.heap.size 5 i0 _ 1 1 under_u8s Hi0.out Hz0.out Hz1.out Hz2.out (by rfl) (.slice none 0 0) 0 [] (by rfl) (World.ownsRow_nil _ _ _ _) (.slice (some ⟨bk, o, none⟩) 0 0) (0) ([]) (by rfl) (Src.ofSlice _ under_u8s ⟨bk, o, none⟩ 0 0 [] rfl (fun j u hu => by simp at hu) (fun u hu => by simp at hu)) (by omega) (by simp only [maxLen]; omega) (by simp) ?_; intro A4 c4 w4 hown4 hgr4 hat4; have hV10 := Blk.own HV10.out.drew hgr4 (fun k hk => by cases hk); have hcA := hV10.cell; have hfA := hV10.frozen))
    all_goals
      have hr4 : Row w4 W3.heap.size (.slice A4 0 c4) 0 [] := hown4
      have hV6 := Blk.own HV6.out.drew hgr4 (fun k hk => by cases hk)
      have hV9 := Blk.own HV9.out.drew hgr4 (fun k hk => by cases hk)
      have h6l := HV6.out.lt
      have hg4 := hgr4.size
      have hcB := hV6.cell
      have hfB := hV6.frozen
      have hcC := hV9.cell
      have HG5 := hide (((HG3.out.drew).grown hgr4 (fun k hk => by cases hk)).setCell (p := ⟨w.heap.size + 1 + 1, 2, none⟩) (by simp; omega) (.slice A4 0 c4))
      have HV6' := hide (hV6.far (p := ⟨w.heap.size + 1 + 1, 2, none⟩) (by simp; omega) (.slice A4 0 c4))
      have hu := utf_any [] A4 c4 _ (bytes_in (.slice A4 0 c4) hr4 h10l) (by rw [show ([] : List UInt8).length = 0 from rfl]; omega)
      rw [show ([] : List UInt8).length = 0 from rfl] at hu
      have HU := hide hu
      have HE := hide (bytes_end (w := w) (b6 := w.heap.size) (b10 := w.heap.size + 1 + 1) (kk := 5) (.slice A4 0 c4) hr4 h6l h10l HG3.out.size (by omega) (by omega) (by omega))
      clear hr4 hu hown4 hgr4 hat4 hV6 hV9 hV10 hc10 hf10
      go_wp2_with fail
      refine HU.out.mono ?_
      rintro e w5 ⟨rfl, rfl⟩
      rw [show Lib.validD [] = true by have h := HVV.out; rwa [Nat.sub_self, List.take_zero] at h]
      go_wp2_with fail
      exact ref_ok (p := s) (c := ⟨5, 0, A4, 0, c4, none, 0, 0, none, 0, 0⟩) rfl rfl rfl (set5_from (c := ⟨5, 0, A4, 0, c4, none, 0, 0, none, 0, 0⟩) HV6'.out) (HG5.out.grown (set5_grown _ w.heap.size ⟨5, 0, A4, 0, c4, none, 0, 0, none, 0, 0⟩) (fun k e => by injection e with e; omega)) (by rw [Nat.sub_self, List.take_zero]; exact HE.out) rfl (by omega)
set_option maxRecDepth 100000 in
set_option maxHeartbeats 3200000 in
theorem rget_5d (above at_ : Nat) (b : List UInt8) (A : Option Addr) (cap : Nat) (w : World) (hb : InB w A b) (hl : b.length ≤ 140737488355328) (hcap : b.length ≤ cap) (hat : at_ + 1 + 2 ≤ b.length) (hk : b[at_].toNat = 5) (hm : at_ + 1 + 2 + le ((b.drop (at_ + 1)).take 2) ≤ b.length) (hv : Lib.validD ((b.drop (at_ + 1 + 2)).take (le ((b.drop (at_ + 1)).take 2))) = false) :
    Calls Tryd.prog 145 #[.slice A b.length cap, .int .i64 at_, .int .i64 above] w (RefC w b (.error 4)) := by
  have HB := hide hb
  obtain ⟨bk, o, rfl, hbk, e0⟩ := hb.at_ at_ (by omega)
  rw [hk] at e0
  clear hb hk
  obtain ⟨i0, hi0, hz0, hz1, hz2⟩ := info_parts info_u8
  have Hi0 := hide hi0
  have Hz0 := hide hz0
  have Hz1 := hide hz1
  have Hz2 := hide hz2
  clear hi0 hz0 hz1 hz2
  obtain ⟨p, hp⟩ : ∃ p, p = at_ + 1 := ⟨_, rfl⟩
  have hpp : (at_ : Int) + 1 = (p : Int) := by omega
  have HP := hide hp
  obtain ⟨W3, hW3⟩ : ∃ W, W = (((w.alloc (.cells #[.int .i64 0, .int .u64 0, .slice none 0 0, .slice none 0 0, .slice none 0 0] 27)).alloc (.cells #[.int .i64 0, .int .u64 0, .slice none 0 0, .slice none 0 0, .slice none 0 0] 27)).alloc (.cells #[.int .i64 5, .int .u64 0, .slice none 0 0, .slice none 0 0, .slice none 0 0] 27)) := ⟨_, rfl⟩
  have HG3 := hide (show Grow w W3 by rw [hW3]; exact (((Grow.refl w).alloc _).alloc _).alloc _)
  have HV6 := hide (show Blk W3 w.heap.size 27 #[.int .i64 0, .int .u64 0, .slice none 0 0, .slice none 0 0, .slice none 0 0] by rw [hW3]; exact ((Blk.new w _ _).alloc _).alloc _)
  have HV9 := hide (show Blk W3 (w.heap.size + 1) 27 #[.int .i64 0, .int .u64 0, .slice none 0 0, .slice none 0 0, .slice none 0 0] by rw [hW3]; exact (Blk.new' (by simp) _ _).alloc _)
  have HV10 := hide (show Blk W3 (w.heap.size + 1 + 1) 27 #[.int .i64 5, .int .u64 0, .slice none 0 0, .slice none 0 0, .slice none 0 0] by rw [hW3]; exact Blk.new' (by simp) _ _)
  have HW3 := hide hW3
  clear hW3
  rw [← hp] at hm hat hv
  have hlt := le_lt ((b.drop p).take 2)
  rw [show ((b.drop p).take 2).length = 2 by rw [List.length_take, List.length_drop]; omega] at hlt
  obtain ⟨n, hn⟩ : ∃ n, le ((b.drop p).take 2) = n := ⟨_, rfl⟩
  rw [hn] at hlt hm hv
  have hlt : n < 65536 := by simpa using hlt
  have HN := hide hn
  have hc8 := refGet_any b (some ⟨bk, o, none⟩) cap p 2 W3 (HB.out.grow HG3.out) (by omega) (by omega) hl
  rw [HN.out, HW3.out] at hc8
  have HC := hide hc8
  have hwr : IntKind.i64.wrap (n : Int) = (n : Int) := IntWalk.i64_in _ (by omega)
  have hwq : IntKind.i64.wrap ((p : Int) + 2) = ((p + 2 : Nat) : Int) := (IntWalk.i64_in _ (by omega)).trans (by omega)
  have hws : IntKind.i64.wrap (((p + 2 : Nat) : Int) + (n : Int)) = ((p + 2 + n : Nat) : Int) := (IntWalk.i64_in _ (by omega)).trans (by omega)
  have hm2 : p + 2 + n ≤ b.length := hm
  obtain ⟨q, hq⟩ : ∃ q, q = p + 2 := ⟨_, rfl⟩
  rw [← hq] at hwq hws hm hat hv
  obtain ⟨s, hs⟩ : ∃ s, s = q + n := ⟨_, rfl⟩
  rw [← hs] at hws hm
  have hqs : q ≤ s := by omega
  have hsc : s ≤ cap := by omega
  have hn3 : n = s - q := by omega
  have hlen : ((b.drop q).take (s - q)).length = s - q := by rw [List.length_take, List.length_drop]; omega
  have HN3 := hide hn3
  have HLEN := hide hlen
  have hpq : p + 2 ≤ b.length := by omega
  rw [hn3] at hv
  have HWQ := hide hwq
  have HWS := hide hws
  have HVV := hide hv
  clear hv
  clear hc8 hn hp hs hq hn3 hlen hwq hws
  rcases Nat.lt_or_ge q cap with hqc | hqc
  · have hne : ¬ cap = q := by omega
    go_enter Tryd.func145, Tryd.ntmps145
    go_wp2_with fail
    refine HC.out.mono ?_
    rintro e w' ⟨rfl, rfl⟩
    rw [← HW3.out]
    have hc10 := HV10.out.cell
    have hf10 := HV10.out.frozen
    go_wp2_with fail
    have hwq := HWQ.out
    have hws := HWS.out
    have HBd := hide ((HB.out.grow HG3.out).grow (Grow.refl W3).drew)
    have h10l := HV10.out.lt
    go_region_law ((refine step_append_src (by rfl) (.tmp 110) (.tmp 118) 23 23 (by rfl) W3.heap.size 5 i0 _ 1 1 under_u8s Hi0.out Hz0.out Hz1.out Hz2.out (by rfl) (.slice none 0 0) 0 [] (by rfl) (World.ownsRow_nil _ _ _ _) (.slice (some ⟨bk, o + q, none⟩) (s - q) (cap - q)) (s - q) (u8s ((b.drop q).take (s - q))) (by rfl) (src_part HBd.out q (s - q) (cap - q) (by omega)) (by omega) (by simp only [maxLen]; omega) (by simp) ?_; intro A4 c4 w4 hown4 hgr4 hat4; have hV10 := Blk.own HV10.out.drew hgr4 (fun k hk => by cases hk); have hcA := hV10.cell; have hfA := hV10.frozen))
    all_goals
      have hr4 : Row w4 W3.heap.size (.slice A4 (s - q) c4) (s - q) ((b.drop q).take (s - q)) := by have h := hown4; rw [Nat.zero_add, List.nil_append] at h; exact h
      have hV6 := Blk.own HV6.out.drew hgr4 (fun k hk => by cases hk)
      have hV9 := Blk.own HV9.out.drew hgr4 (fun k hk => by cases hk)
      have h6l := HV6.out.lt
      have hg4 := hgr4.size
      have hcB := hV6.cell
      have hfB := hV6.frozen
      have hcC := hV9.cell
      have HG5 := hide (((HG3.out.drew).grown hgr4 (fun k hk => by cases hk)).setCell (p := ⟨w.heap.size + 1 + 1, 2, none⟩) (by simp; omega) (.slice A4 (s - q) c4))
      have HV6' := hide (hV6.far (p := ⟨w.heap.size + 1 + 1, 2, none⟩) (by simp; omega) (.slice A4 (s - q) c4))
      have hu := utf_any ((b.drop q).take (s - q)) A4 c4 _ (bytes_in (.slice A4 (s - q) c4) hr4 h10l) (by rw [HLEN.out]; omega)
      rw [HLEN.out] at hu
      have HU := hide hu
      have HE := hide (bytes_end (w := w) (b6 := w.heap.size) (b10 := w.heap.size + 1 + 1) (kk := 5) (.slice A4 (s - q) c4) hr4 h6l h10l HG3.out.size (by omega) (by omega) (by omega))
      clear hr4 hu hown4 hgr4 hat4 hV6 hV9 hV10 hc10 hf10
      go_wp2_with fail
      refine HU.out.mono ?_
      rintro e w5 ⟨rfl, rfl⟩
      rw [HVV.out]
      go_wp2_with fail
      exact ref_err rfl rfl rfl (set5_from (c := Cv.zero) HV6'.out) (HG5.out.grown (set5_grown _ w.heap.size Cv.zero) (fun k e => by injection e with e; omega))
  · obtain rfl : cap = q := by omega
    obtain rfl : s = cap := by omega
    go_enter Tryd.func145, Tryd.ntmps145
    go_wp2_with fail
    refine HC.out.mono ?_
    rintro e w' ⟨rfl, rfl⟩
    rw [← HW3.out]
    have hc10 := HV10.out.cell
    have hf10 := HV10.out.frozen
    go_wp2_with fail
    have hwq := HWQ.out
    have hws := HWS.out
    have HBd := hide ((HB.out.grow HG3.out).grow (Grow.refl W3).drew)
    have h10l := HV10.out.lt
    go_region_law ((refine step_append_src (by rfl) (.tmp 110) (.tmp 118) 23 23 (by rfl) W3.heap.size 5 i0 _ 1 1 under_u8s Hi0.out Hz0.out Hz1.out Hz2.out (by rfl) (.slice none 0 0) 0 [] (by rfl) (World.ownsRow_nil _ _ _ _) (.slice (some ⟨bk, o, none⟩) 0 0) (0) ([]) (by rfl) (Src.ofSlice _ under_u8s ⟨bk, o, none⟩ 0 0 [] rfl (fun j u hu => by simp at hu) (fun u hu => by simp at hu)) (by omega) (by simp only [maxLen]; omega) (by simp) ?_; intro A4 c4 w4 hown4 hgr4 hat4; have hV10 := Blk.own HV10.out.drew hgr4 (fun k hk => by cases hk); have hcA := hV10.cell; have hfA := hV10.frozen))
    all_goals
      have hr4 : Row w4 W3.heap.size (.slice A4 0 c4) 0 [] := hown4
      have hV6 := Blk.own HV6.out.drew hgr4 (fun k hk => by cases hk)
      have hV9 := Blk.own HV9.out.drew hgr4 (fun k hk => by cases hk)
      have h6l := HV6.out.lt
      have hg4 := hgr4.size
      have hcB := hV6.cell
      have hfB := hV6.frozen
      have hcC := hV9.cell
      have HG5 := hide (((HG3.out.drew).grown hgr4 (fun k hk => by cases hk)).setCell (p := ⟨w.heap.size + 1 + 1, 2, none⟩) (by simp; omega) (.slice A4 0 c4))
      have HV6' := hide (hV6.far (p := ⟨w.heap.size + 1 + 1, 2, none⟩) (by simp; omega) (.slice A4 0 c4))
      have hu := utf_any [] A4 c4 _ (bytes_in (.slice A4 0 c4) hr4 h10l) (by rw [show ([] : List UInt8).length = 0 from rfl]; omega)
      rw [show ([] : List UInt8).length = 0 from rfl] at hu
      have HU := hide hu
      have HE := hide (bytes_end (w := w) (b6 := w.heap.size) (b10 := w.heap.size + 1 + 1) (kk := 5) (.slice A4 0 c4) hr4 h6l h10l HG3.out.size (by omega) (by omega) (by omega))
      clear hr4 hu hown4 hgr4 hat4 hV6 hV9 hV10 hc10 hf10
      go_wp2_with fail
      refine HU.out.mono ?_
      rintro e w5 ⟨rfl, rfl⟩
      rw [show Lib.validD [] = false by have h := HVV.out; rwa [Nat.sub_self, List.take_zero] at h]
      go_wp2_with fail
      exact ref_err rfl rfl rfl (set5_from (c := Cv.zero) HV6'.out) (HG5.out.grown (set5_grown _ w.heap.size Cv.zero) (fun k e => by injection e with e; omega))
set_option maxRecDepth 100000 in
set_option maxHeartbeats 1600000 in
theorem rget_6a (above at_ : Nat) (b : List UInt8) (A : Option Addr) (cap : Nat) (w : World) (hb : InB w A b) (hl : b.length ≤ 140737488355328) (hcap : b.length ≤ cap) (hat : at_ < b.length) (hat2 : b.length < at_ + 1 + 2) (hk : b[at_].toNat = 6) :
    Calls Tryd.prog 145 #[.slice A b.length cap, .int .i64 at_, .int .i64 above] w (RefC w b (.error 4)) := by
  have HB := hide hb
  obtain ⟨bk, o, rfl, hbk, e0⟩ := hb.at_ at_ (by omega)
  rw [hk] at e0
  clear hb hk
  go_enter Tryd.func145, Tryd.ntmps145
  go_wp2_with fail
  exact ref_err rfl rfl rfl (((Blk.new w _ _).alloc _).alloc _) ((((Grow.refl w).alloc _).alloc _).alloc _)
set_option maxRecDepth 100000 in
set_option maxHeartbeats 1600000 in
theorem rget_6b (above at_ : Nat) (b : List UInt8) (A : Option Addr) (cap : Nat) (w : World) (hb : InB w A b) (hl : b.length ≤ 140737488355328) (hcap : b.length ≤ cap) (hat : at_ + 1 + 2 ≤ b.length) (hk : b[at_].toNat = 6) (hm : b.length < at_ + 1 + 2 + le ((b.drop (at_ + 1)).take 2)) :
    Calls Tryd.prog 145 #[.slice A b.length cap, .int .i64 at_, .int .i64 above] w (RefC w b (.error 4)) := by
  have HB := hide hb
  obtain ⟨bk, o, rfl, hbk, e0⟩ := hb.at_ at_ (by omega)
  rw [hk] at e0
  clear hb hk
  obtain ⟨p, hp⟩ : ∃ p, p = at_ + 1 := ⟨_, rfl⟩
  have hpp : (at_ : Int) + 1 = (p : Int) := by omega
  have HP := hide hp
  obtain ⟨W3, hW3⟩ : ∃ W, W = (((w.alloc (.cells #[.int .i64 0, .int .u64 0, .slice none 0 0, .slice none 0 0, .slice none 0 0] 27)).alloc (.cells #[.int .i64 0, .int .u64 0, .slice none 0 0, .slice none 0 0, .slice none 0 0] 27)).alloc (.cells #[.int .i64 6, .int .u64 0, .slice none 0 0, .slice none 0 0, .slice none 0 0] 27)) := ⟨_, rfl⟩
  have HG3 := hide (show Grow w W3 by rw [hW3]; exact (((Grow.refl w).alloc _).alloc _).alloc _)
  have HV6 := hide (show Blk W3 w.heap.size 27 #[.int .i64 0, .int .u64 0, .slice none 0 0, .slice none 0 0, .slice none 0 0] by rw [hW3]; exact ((Blk.new w _ _).alloc _).alloc _)
  have HV9 := hide (show Blk W3 (w.heap.size + 1) 27 #[.int .i64 0, .int .u64 0, .slice none 0 0, .slice none 0 0, .slice none 0 0] by rw [hW3]; exact (Blk.new' (by simp) _ _).alloc _)
  have HV10 := hide (show Blk W3 (w.heap.size + 1 + 1) 27 #[.int .i64 6, .int .u64 0, .slice none 0 0, .slice none 0 0, .slice none 0 0] by rw [hW3]; exact Blk.new' (by simp) _ _)
  have HW3 := hide hW3
  clear hW3
  have hlt := le_lt ((b.drop p).take 2)
  rw [show ((b.drop p).take 2).length = 2 by rw [List.length_take, List.length_drop]; omega] at hlt
  obtain ⟨n, hn⟩ : ∃ n, le ((b.drop p).take 2) = n := ⟨_, rfl⟩
  have hn' : le ((b.drop (at_ + 1)).take 2) = n := by rw [← hn, hp]
  rw [hn'] at hm
  rw [hn] at hlt
  have hlt : n < 65536 := by simpa using hlt
  have HN := hide hn
  have hc8 := refGet_any b (some ⟨bk, o, none⟩) cap p 2 W3 (HB.out.grow HG3.out) (by omega) (by omega) hl
  rw [HN.out, HW3.out] at hc8
  have HC := hide hc8
  have hwr : IntKind.i64.wrap (n : Int) = (n : Int) := IntWalk.i64_in _ (by omega)
  clear hc8 hn hn' hp
  have hm2 : b.length < p + 2 + n := by have := HP.out; omega
  have hat2 : p + 2 ≤ b.length := by have := HP.out; omega
  clear hm hat
  go_enter Tryd.func145, Tryd.ntmps145
  go_wp2_with fail
  refine HC.out.mono ?_
  rintro e w' ⟨rfl, rfl⟩
  go_wp2_with fail
  exact ref_err rfl rfl rfl (((Blk.new w _ _).alloc _).alloc _) ((((Grow.refl w).alloc _).alloc _).alloc _)
set_option maxRecDepth 100000 in
set_option maxHeartbeats 3200000 in
theorem rget_6c (above at_ : Nat) (b : List UInt8) (A : Option Addr) (cap : Nat) (w : World) (hb : InB w A b) (hl : b.length ≤ 140737488355328) (hcap : b.length ≤ cap) (hat : at_ + 1 + 2 ≤ b.length) (hk : b[at_].toNat = 6) (hm : at_ + 1 + 2 + le ((b.drop (at_ + 1)).take 2) ≤ b.length) :
    Calls Tryd.prog 145 #[.slice A b.length cap, .int .i64 at_, .int .i64 above] w (RefC w b (.ok (.mk 6 0 ((b.drop (at_ + 1 + 2)).take (le ((b.drop (at_ + 1)).take 2))) [] [], b.drop (at_ + 1 + 2 + le ((b.drop (at_ + 1)).take 2))))) := by
  have HB := hide hb
  obtain ⟨bk, o, rfl, hbk, e0⟩ := hb.at_ at_ (by omega)
  rw [hk] at e0
  clear hb hk
  obtain ⟨i0, hi0, hz0, hz1, hz2⟩ := info_parts info_u8
  have Hi0 := hide hi0
  have Hz0 := hide hz0
  have Hz1 := hide hz1
  have Hz2 := hide hz2
  clear hi0 hz0 hz1 hz2
  obtain ⟨p, hp⟩ : ∃ p, p = at_ + 1 := ⟨_, rfl⟩
  have hpp : (at_ : Int) + 1 = (p : Int) := by omega
  have HP := hide hp
  obtain ⟨W3, hW3⟩ : ∃ W, W = (((w.alloc (.cells #[.int .i64 0, .int .u64 0, .slice none 0 0, .slice none 0 0, .slice none 0 0] 27)).alloc (.cells #[.int .i64 0, .int .u64 0, .slice none 0 0, .slice none 0 0, .slice none 0 0] 27)).alloc (.cells #[.int .i64 6, .int .u64 0, .slice none 0 0, .slice none 0 0, .slice none 0 0] 27)) := ⟨_, rfl⟩
  have HG3 := hide (show Grow w W3 by rw [hW3]; exact (((Grow.refl w).alloc _).alloc _).alloc _)
  have HV6 := hide (show Blk W3 w.heap.size 27 #[.int .i64 0, .int .u64 0, .slice none 0 0, .slice none 0 0, .slice none 0 0] by rw [hW3]; exact ((Blk.new w _ _).alloc _).alloc _)
  have HV9 := hide (show Blk W3 (w.heap.size + 1) 27 #[.int .i64 0, .int .u64 0, .slice none 0 0, .slice none 0 0, .slice none 0 0] by rw [hW3]; exact (Blk.new' (by simp) _ _).alloc _)
  have HV10 := hide (show Blk W3 (w.heap.size + 1 + 1) 27 #[.int .i64 6, .int .u64 0, .slice none 0 0, .slice none 0 0, .slice none 0 0] by rw [hW3]; exact Blk.new' (by simp) _ _)
  have HW3 := hide hW3
  clear hW3
  rw [← hp] at hm hat ⊢
  have hlt := le_lt ((b.drop p).take 2)
  rw [show ((b.drop p).take 2).length = 2 by rw [List.length_take, List.length_drop]; omega] at hlt
  obtain ⟨n, hn⟩ : ∃ n, le ((b.drop p).take 2) = n := ⟨_, rfl⟩
  rw [hn] at hlt hm ⊢
  have hlt : n < 65536 := by simpa using hlt
  have HN := hide hn
  have hc8 := refGet_any b (some ⟨bk, o, none⟩) cap p 2 W3 (HB.out.grow HG3.out) (by omega) (by omega) hl
  rw [HN.out, HW3.out] at hc8
  have HC := hide hc8
  have hwr : IntKind.i64.wrap (n : Int) = (n : Int) := IntWalk.i64_in _ (by omega)
  have hwq : IntKind.i64.wrap ((p : Int) + 2) = ((p + 2 : Nat) : Int) := (IntWalk.i64_in _ (by omega)).trans (by omega)
  have hws : IntKind.i64.wrap (((p + 2 : Nat) : Int) + (n : Int)) = ((p + 2 + n : Nat) : Int) := (IntWalk.i64_in _ (by omega)).trans (by omega)
  have hm2 : p + 2 + n ≤ b.length := hm
  obtain ⟨q, hq⟩ : ∃ q, q = p + 2 := ⟨_, rfl⟩
  rw [← hq] at hwq hws hm hat ⊢
  obtain ⟨s, hs⟩ : ∃ s, s = q + n := ⟨_, rfl⟩
  rw [← hs] at hws hm ⊢
  have hqs : q ≤ s := by omega
  have hsc : s ≤ cap := by omega
  have hn3 : n = s - q := by omega
  have hlen : ((b.drop q).take (s - q)).length = s - q := by rw [List.length_take, List.length_drop]; omega
  have HN3 := hide hn3
  have HLEN := hide hlen
  have hpq : p + 2 ≤ b.length := by omega
  rw [hn3] at ⊢
  have HWQ := hide hwq
  have HWS := hide hws
  skip
  clear hc8 hn hp hs hq hn3 hlen hwq hws
  rcases Nat.lt_or_ge q cap with hqc | hqc
  · have hne : ¬ cap = q := by omega
    go_enter Tryd.func145, Tryd.ntmps145
    go_wp2_with fail
    refine HC.out.mono ?_
    rintro e w' ⟨rfl, rfl⟩
    rw [← HW3.out]
    have hc10 := HV10.out.cell
    have hf10 := HV10.out.frozen
    go_wp2_with fail
    have hwq := HWQ.out
    have hws := HWS.out
    have HBd := hide ((HB.out.grow HG3.out).grow (Grow.refl W3).drew)
    have h10l := HV10.out.lt
    go_region_law ((refine step_append_src (by rfl) (.tmp 110) (.tmp 118) 23 23 (by rfl) W3.heap.size 5 i0 _ 1 1 under_u8s Hi0.out Hz0.out Hz1.out Hz2.out (by rfl) (.slice none 0 0) 0 [] (by rfl) (World.ownsRow_nil _ _ _ _) (.slice (some ⟨bk, o + q, none⟩) (s - q) (cap - q)) (s - q) (u8s ((b.drop q).take (s - q))) (by rfl) (src_part HBd.out q (s - q) (cap - q) (by omega)) (by omega) (by simp only [maxLen]; omega) (by simp) ?_; intro A4 c4 w4 hown4 hgr4 hat4; have hV10 := Blk.own HV10.out.drew hgr4 (fun k hk => by cases hk); have hcA := hV10.cell; have hfA := hV10.frozen))
    all_goals
      have hr4 : Row w4 W3.heap.size (.slice A4 (s - q) c4) (s - q) ((b.drop q).take (s - q)) := by have h := hown4; rw [Nat.zero_add, List.nil_append] at h; exact h
      have hV6 := Blk.own HV6.out.drew hgr4 (fun k hk => by cases hk)
      have hV9 := Blk.own HV9.out.drew hgr4 (fun k hk => by cases hk)
      have h6l := HV6.out.lt
      have hg4 := hgr4.size
      have hcB := hV6.cell
      have hfB := hV6.frozen
      have hcC := hV9.cell
      have HG5 := hide (((HG3.out.drew).grown hgr4 (fun k hk => by cases hk)).setCell (p := ⟨w.heap.size + 1 + 1, 2, none⟩) (by simp; omega) (.slice A4 (s - q) c4))
      have HV6' := hide (hV6.far (p := ⟨w.heap.size + 1 + 1, 2, none⟩) (by simp; omega) (.slice A4 (s - q) c4))
      have HE := hide (bytes_end (w := w) (b6 := w.heap.size) (b10 := w.heap.size + 1 + 1) (kk := 6) (.slice A4 (s - q) c4) hr4 h6l h10l HG3.out.size (by omega) (by omega) (by omega))
      clear hr4 hown4 hgr4 hat4 hV6 hV9 hV10 hc10 hf10
      go_wp2_with fail
      exact ref_ok (p := s) (c := ⟨6, 0, A4, (s - q), c4, none, 0, 0, none, 0, 0⟩) rfl rfl rfl (set5_from (c := ⟨6, 0, A4, (s - q), c4, none, 0, 0, none, 0, 0⟩) HV6'.out) (HG5.out.grown (set5_grown _ w.heap.size ⟨6, 0, A4, (s - q), c4, none, 0, 0, none, 0, 0⟩) (fun k e => by injection e with e; omega)) (HE.out) rfl (by omega)
  · obtain rfl : cap = q := by omega
    obtain rfl : s = cap := by omega
    go_enter Tryd.func145, Tryd.ntmps145
    go_wp2_with fail
    refine HC.out.mono ?_
    rintro e w' ⟨rfl, rfl⟩
    rw [← HW3.out]
    have hc10 := HV10.out.cell
    have hf10 := HV10.out.frozen
    go_wp2_with fail
    have hwq := HWQ.out
    have hws := HWS.out
    have HBd := hide ((HB.out.grow HG3.out).grow (Grow.refl W3).drew)
    have h10l := HV10.out.lt
    go_region_law ((refine step_append_src (by rfl) (.tmp 110) (.tmp 118) 23 23 (by rfl) W3.heap.size 5 i0 _ 1 1 under_u8s Hi0.out Hz0.out Hz1.out Hz2.out (by rfl) (.slice none 0 0) 0 [] (by rfl) (World.ownsRow_nil _ _ _ _) (.slice (some ⟨bk, o, none⟩) 0 0) (0) ([]) (by rfl) (Src.ofSlice _ under_u8s ⟨bk, o, none⟩ 0 0 [] rfl (fun j u hu => by simp at hu) (fun u hu => by simp at hu)) (by omega) (by simp only [maxLen]; omega) (by simp) ?_; intro A4 c4 w4 hown4 hgr4 hat4; have hV10 := Blk.own HV10.out.drew hgr4 (fun k hk => by cases hk); have hcA := hV10.cell; have hfA := hV10.frozen))
    all_goals
      have hr4 : Row w4 W3.heap.size (.slice A4 0 c4) 0 [] := hown4
      have hV6 := Blk.own HV6.out.drew hgr4 (fun k hk => by cases hk)
      have hV9 := Blk.own HV9.out.drew hgr4 (fun k hk => by cases hk)
      have h6l := HV6.out.lt
      have hg4 := hgr4.size
      have hcB := hV6.cell
      have hfB := hV6.frozen
      have hcC := hV9.cell
      have HG5 := hide (((HG3.out.drew).grown hgr4 (fun k hk => by cases hk)).setCell (p := ⟨w.heap.size + 1 + 1, 2, none⟩) (by simp; omega) (.slice A4 0 c4))
      have HV6' := hide (hV6.far (p := ⟨w.heap.size + 1 + 1, 2, none⟩) (by simp; omega) (.slice A4 0 c4))
      have HE := hide (bytes_end (w := w) (b6 := w.heap.size) (b10 := w.heap.size + 1 + 1) (kk := 6) (.slice A4 0 c4) hr4 h6l h10l HG3.out.size (by omega) (by omega) (by omega))
      clear hr4 hown4 hgr4 hat4 hV6 hV9 hV10 hc10 hf10
      go_wp2_with fail
      exact ref_ok (p := s) (c := ⟨6, 0, A4, 0, c4, none, 0, 0, none, 0, 0⟩) rfl rfl rfl (set5_from (c := ⟨6, 0, A4, 0, c4, none, 0, 0, none, 0, 0⟩) HV6'.out) (HG5.out.grown (set5_grown _ w.heap.size ⟨6, 0, A4, 0, c4, none, 0, 0, none, 0, 0⟩) (fun k e => by injection e with e; omega)) (by rw [Nat.sub_self, List.take_zero]; exact HE.out) rfl (by omega)
end Go.Proofs.YthjjmndjfoebgaaDoor
