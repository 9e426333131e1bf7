/- Walks: the deferred closure of the reading of a key: a thrown error is caught; where nothing was thrown it does nothing. · Walk of key.read: what is read off bytes, and the bytes behind it; a thrown error is caught. Copy's contract is given. -/
import Derived.Test.YtpjhhkndfmcaoaaDoorKeyTH
import Derived.Test.YtpjhhkndfmcaoaaDoorCatchG
import Derived.Recover
set_option linter.unusedVariables false
set_option linter.unusedSimpArgs false
namespace Go.Proofs.YtpjhhkndfmcaoaaDoor
open Go.RowKit Go.Shelf

/-- What Copy tells: the value, in new memory. -/
def CopyC (w : World) (v : V) (e : Ending) (w' : World) : Prop :=
  ∃ c : Cv, e = .returned c.agg ∧ InS w' w.heap.size w'.heap.size v c ∧ Grow w w'

/-- The world behind the catching of an error. -/
def kcaught (w : World) (vb sb eb : Nat) (e : Int) : World :=
  ((((((w.setCell ⟨vb, 0, none⟩ (.int .i64 0)).setCell ⟨vb, 1, none⟩ (.int .u64 0)).setCell ⟨vb, 2, none⟩ (.slice none 0 0)).setCell ⟨vb, 3, none⟩ (.slice none 0 0)).setCell ⟨vb, 4, none⟩ (.slice none 0 0)).setCell ⟨sb, 0, none⟩ (.slice none 0 0)).setCell ⟨eb, 0, none⟩ (.int .i64 e)

set_option maxRecDepth 100000 in
set_option maxHeartbeats 400000 in
theorem kcatch_panicking (vb sb eb : Nat) (e : Int) (c0 c1 c2 c3 c4 : Value) (x y : Value) (older : List PanicEntry) (w : World) (hv : Blk w vb 27 #[c0, c1, c2, c3, c4]) (hs : Blk w sb 23 #[y]) (he : Blk w eb 29 #[x]) (hne : vb ≠ eb) (hne2 : vb ≠ sb) (hne3 : sb ≠ eb) :
    CallsD Tryd.prog 109 #[.pointer (some ⟨vb, 0, none⟩), .pointer (some ⟨sb, 0, none⟩), .pointer (some ⟨eb, 0, none⟩)] (.panicking ({ v := .iface 29 (.int .i64 e), recovered := false } :: older)) w fun r u' w' =>
      r = .returned (.tuple #[]) ∧ u' = .panicking ({ v := .iface 29 (.int .i64 e), recovered := true } :: older) ∧ w' = kcaught w vb sb eb e := by
  have hvc := hv.cell
  have hvf := hv.frozen
  have hsc := hs.cell
  have hsf := hs.frozen
  have hec := he.cell
  have hef := he.frozen
  have hta := assert_yes
  clear hv he hs
  refine callsD_of_wpS Tryd.func109 rfl fun c₀ cs hu => ?_
  apply wpS_seq
  apply wpS_region
  simp [wpOpsS, go_sem, recoverD, hu, Tryd.ntmps109, Exit.thenS]
  simp only [Array.replicate, List.replicate, Array.setIfInBounds]
  refine wpS_of_wp ?_
  clear hu
  go_wp2_with fail
  simp [bodyPostS, results, Tryd.results109, go_sem, kcaught]

set_option maxRecDepth 100000 in
set_option maxHeartbeats 400000 in
theorem kcatch_idle (vb sb eb : Nat) (w : World) :
    CallsD Tryd.prog 109 #[.pointer (some ⟨vb, 0, none⟩), .pointer (some ⟨sb, 0, none⟩), .pointer (some ⟨eb, 0, none⟩)] .returning w fun r u' w' =>
      r = .returned (.tuple #[]) ∧ u' = .returning ∧ w' = w := by
  have hta := assert_nil
  refine callsD_of_wpS Tryd.func109 rfl fun c₀ cs hu => ?_
  apply wpS_seq
  apply wpS_region
  simp [wpOpsS, go_sem, recoverD, hu, Tryd.ntmps109, Exit.thenS]
  simp only [Array.replicate, List.replicate, Array.setIfInBounds]
  refine wpS_of_wp ?_
  go_wp2_with fail
  cases c₀
  simp_all [bodyPostS, results, Tryd.results109, go_sem]
theorem kcaught_grow {w W : World} {vb sb eb : Nat} (h : Grow w W) (h1 : w.heap.size ≤ vb) (h2 : w.heap.size ≤ sb) (h3 : w.heap.size ≤ eb) (e : Int) : Grow w (kcaught W vb sb eb e) :=
  ((((((h.setCell (by simpa using h1) _).setCell (by simpa using h1) _).setCell (by simpa using h1) _).setCell (by simpa using h1) _).setCell (by simpa using h1) _).setCell (by simpa using h2) _).setCell (by simpa using h3) _
theorem kread_results {W : World} {vb sb eb : Nat} {tmps : Array Value} (h4 : tmps.getD 4 undef = .pointer (some ⟨vb, 0, none⟩)) (h5 : tmps.getD 5 undef = .pointer (some ⟨sb, 0, none⟩)) (h6 : tmps.getD 6 undef = .pointer (some ⟨eb, 0, none⟩)) (c : Cv) (s : Value) (e : Int) (hv : Blk W vb 27 c.cells) (hs : Blk W sb 23 #[s]) (he : Blk W eb 29 #[.int .i64 e]) :
    (results Tryd.f62 tmps).run Tryd.prog W = .ok (.tuple #[c.agg, s, .int .i64 e]) W := by
  have hvc := hv.cell
  have hsc := hs.cell
  have hec := he.cell
  have h4' : tmps[4]?.getD undef = .pointer (some ⟨vb, 0, none⟩) := by simpa using h4
  have h5' : tmps[5]?.getD undef = .pointer (some ⟨sb, 0, none⟩) := by simpa using h5
  have h6' : tmps[6]?.getD undef = .pointer (some ⟨eb, 0, none⟩) := by simpa using h6
  simp [results, Tryd.results62, go_sem, h4', h5', h6', hvc, hsc, hec]
end Go.Proofs.YtpjhhkndfmcaoaaDoor

set_option linter.unusedVariables false
set_option linter.unusedSimpArgs false
namespace Go.Proofs.YtpjhhkndfmcaoaaDoor
open Go.RowKit Go.Shelf Go.WideShapes

/-- What read tells. -/
def KRdC (w : World) (hi : Nat) (t : Bool) (g : KGot) (e : Ending) (w' : World) : Prop :=
  Grow w w' ∧ (g = none → e = .returned (.tuple #[Cv.zero.agg, .slice none 0 0, .int .i64 14])) ∧
    ∀ v r, g = some (v, r) → ∃ (c : Cv) (A : Option Addr) (cap : Nat), e = .returned (.tuple #[c.agg, .slice A r.length cap, .int .i64 0]) ∧ InS w' w.heap.size w'.heap.size v c ∧ r.length ≤ cap ∧ Reads (AtW w' 0 hi) 1 A r.length (u8s (flip t r))
theorem KRdC.no {w w' : World} {hi : Nat} {t : Bool} (hg : Grow w w') : KRdC w hi t none (.returned (.tuple #[Cv.zero.agg, .slice none 0 0, .int .i64 14])) w' :=
  ⟨hg, fun _ => rfl, fun v r e => by cases e⟩
theorem KRdC.yes {w w' : World} {hi : Nat} {t : Bool} {v : V} {r : List UInt8} {c : Cv} {A : Option Addr} {cap : Nat} (hg : Grow w w') (hv : InS w' w.heap.size w'.heap.size v c) (hc : r.length ≤ cap) (hr : Reads (AtW w' 0 hi) 1 A r.length (u8s (flip t r))) : KRdC w hi t (some (v, r)) (.returned (.tuple #[c.agg, .slice A r.length cap, .int .i64 0])) w' :=
  ⟨hg, fun e => (by cases e), fun v' r' e => (by cases e; exact ⟨c, A, cap, rfl, hv, hc, hr⟩)⟩

set_option maxRecDepth 100000 in
set_option maxHeartbeats 3200000 in
theorem kread_any (b : List UInt8) (t : Bool) (B : Option Addr) (bc : Nat) (w : World) (hi : Nat) (hhi : hi ≤ w.heap.size) (hb : Reads (AtW w 0 hi) 1 B b.length (u8s (flip t b))) (hl : b.length ≤ 1000000000) (hcap : b.length ≤ bc)
    (hcopy : ∀ v r, kd false 17 b = some (v, r) → ∀ W c, In W v c → Calls Tryd.prog 89 #[c.agg] W (CopyC W v)) :
    Calls Tryd.prog 62 #[.slice B b.length bc, .bool t] w (KRdC w hi t (kd false 17 b)) := by
  have hmf : ∀ (fn : Fn) (first cap : Array Value) (w : World), (Instr.makeFunc fn first cap).run Tryd.prog w = .ok (.func fn first cap) w := fun _ _ _ _ => rfl
  have HB := hide hb
  have HCP := hide hcopy
  clear hb hcopy
  obtain ⟨W4, hW4⟩ : ∃ W, W = (((w.alloc (.cells #[.int .i64 0, .int .u64 0, .slice none 0 0, .slice none 0 0, .slice none 0 0] 27)).alloc (.cells #[.slice none 0 0] 23)).alloc (.cells #[.int .i64 0] 29)).alloc (.cells #[.slice B b.length bc, .bool t] 141) := ⟨_, rfl⟩
  have hG4 : Grow w W4 := by rw [hW4]; exact ((((Grow.refl w).alloc _).alloc _).alloc _).alloc _
  have hV4 : Blk W4 w.heap.size 27 #[.int .i64 0, .int .u64 0, .slice none 0 0, .slice none 0 0, .slice none 0 0] := by rw [hW4]; exact (((Blk.new w _ _).alloc _).alloc _).alloc _
  have hS4 : Blk W4 (w.heap.size + 1) 23 #[.slice none 0 0] := by rw [hW4]; exact ((Blk.new' (by simp) _ _).alloc _).alloc _
  have hE4 : Blk W4 (w.heap.size + 1 + 1) 29 #[.int .i64 0] := by rw [hW4]; exact (Blk.new' (by simp) _ _).alloc _
  have hP4 : Blk W4 (w.heap.size + 1 + 1 + 1) 141 #[.slice B b.length bc, .bool t] := by rw [hW4]; exact Blk.new' (by simp) _ _
  have hz4 : W4.heap.size = w.heap.size + 1 + 1 + 1 + 1 := by rw [hW4]; simp
  have hK4 : Kr W4 (w.heap.size + 1 + 1 + 1) hi t b := ⟨B, bc, hP4, hcap, by omega, Reads.mono (AtW.below hG4.below (Nat.le_refl _) hhi (by omega)) HB.out⟩
  have hcall := valK_any (w.heap.size + 1 + 1 + 1) hi t 17 (by omega) W4 b hK4 hl
  rw [show (((17 : Nat) : Int) - 1) = 16 from rfl] at hcall
  have HG4 := hide hG4
  have HV4 := hide hV4
  have HS4 := hide hS4
  have HE4 := hide hE4
  have HW4 := hide hW4
  have HZ4 := hide hz4
  clear hG4 hV4 hS4 hE4 hP4 hK4 hW4 hz4
  cases hkd : kd false 17 b with
  | none =>
    rw [hkd, HW4.out] at hcall
    have HC := hide hcall
    clear hcall hkd
    go_enter_defers Tryd.func62, Tryd.ntmps62
    go_wp2_with fail
    refine HC.out.mono ?_
    rintro e' W5 ⟨rfl, hg⟩
    rw [← HW4.out] at hg
    have HV5 := hide (Blk.grownBy HV4.out hg (by omega))
    have HS5 := hide (Blk.grownBy HS4.out hg (by omega))
    have HE5 := hide (Blk.grownBy HE4.out hg (by omega))
    have HG5 := hide (HG4.out.grown hg (fun k e => by injection e with e; omega))
    clear hg
    go_wp2_with fail
    refine leaves_cons (f := 109) (args := #[.pointer (some ⟨w.heap.size, 0, none⟩), .pointer (some ⟨w.heap.size + 1, 0, none⟩), .pointer (some ⟨w.heap.size + 1 + 1, 0, none⟩)]) (by simp) (by simp [go_sem]) ?_
    refine (kcatch_panicking w.heap.size (w.heap.size + 1) (w.heap.size + 1 + 1) 14 _ _ _ _ _ _ _ [] _ HV5.out HS5.out HE5.out (by omega) (by omega) (by omega)).mono ?_
    rintro r u' w'' ⟨rfl, rfl, rfl⟩
    exact ⟨_, kread_results rfl rfl rfl Cv.zero (.slice none 0 0) 14 (((((((HV5.out.set_ 0 _).set_ 1 _).set_ 2 _).set_ 3 _).set_ 4 _).far (by simp) _).far (by simp; omega) _) ((((((((HS5.out.far (by simp) _).far (by simp) _).far (by simp) _).far (by simp) _).far (by simp) _)).set_ 0 _).far (by simp) _) ((((((((HE5.out.far (by simp; omega) _).far (by simp; omega) _).far (by simp; omega) _).far (by simp; omega) _).far (by simp; omega) _)).far (by simp) _).set_ 0 _), KRdC.no (kcaught_grow HG5.out (by omega) (by omega) (by omega) 14)⟩
  | some vr =>
    obtain ⟨v, r⟩ := vr
    rw [hkd, HW4.out] at hcall
    have HC := hide hcall
    have HCV := hide (HCP.out v r hkd)
    clear hcall hkd HCP
    go_enter_defers Tryd.func62, Tryd.ntmps62
    go_wp2_with fail
    refine HC.out.mono ?_
    rintro e' W5 ⟨c, rfl, hin, hr, hg⟩
    rw [← HW4.out] at hg hin
    obtain ⟨A', c', hb', hc', _, hrd⟩ := hr
    have hV5 := Blk.grownBy HV4.out hg (by omega)
    have hvc := hV5.cell
    have hvf := hV5.frozen
    have HV5 := hide hV5
    have HS5 := hide (Blk.grownBy HS4.out hg (by omega))
    have HE5 := hide (Blk.grownBy HE4.out hg (by omega))
    have HG5 := hide (HG4.out.grown hg (fun k e => by injection e with e; omega))
    have HP5 := hide hb'
    have HI := hide hin
    have HRD := hide hrd
    have hz5 := hg.size
    clear hg hin hb' hrd hV5
    have HRW : Reads (AtW w 0 hi) 1 A' r.length (u8s (flip t r)) := Reads.mono (fun p u h => ⟨(HG5.out.below.cell (by have := h.2.2; omega)).symm.trans h.1, h.2.1, by have := h.2.2; omega⟩) HRD.out
    go_upto_region 4 with fail
    have hs6 := set5_grown W5 w.heap.size c
    have HV6 := hide (set5_from (c := c) HV5.out)
    have HS6 := hide (HS5.out.own hs6 (fun k e => by injection e with e; omega))
    have HE6 := hide (HE5.out.own hs6 (fun k e => by injection e with e; omega))
    have HP6 := hide (HP5.out.own hs6 (fun k e => by injection e with e; omega))
    have HG6 := hide (HG5.out.grown hs6 (fun k e => by injection e with e; omega))
    have HI6 := hide (HI.out.blocks hs6.size (fun k h1 h2 => hs6.block k (Nat.lt_of_lt_of_le h2 HI.out.1) (fun e => by injection e with e; have := HZ4.out; omega)))
    have hz6 : w.heap.size + 1 + 1 + 1 < W5.heap.size := HP5.out.lt
    rw [← set5_size W5 w.heap.size c] at hz6
    have HRW' := hide HRW
    change Code.wp _ _ _ _ (set5 W5 w.heap.size c)
    generalize set5 W5 w.heap.size c = W6 at HV6 HS6 HE6 HP6 HG6 HI6 hz6 ⊢
    clear hs6 hvc hvf HRW hz5
    have hvc := HV6.out.cell
    refine wp_region_noPanic ?_
    refine wp_region_held_drew (S := fun w' => ∀ i, w'.cell? ⟨w.heap.size + 1 + 1 + 1, i, none⟩ = #[.slice A' r.length c', .bool t][i]?) (by kernel_rfl) (HP6.out.drew.cell) (fun hHeld => ?_)
    refine wpAnyH_take (i := 2) (v := ?_) (by simp only [List.getElem?_toArray, List.getElem?_cons_succ, List.getElem?_cons_zero]; rfl) (by kernel_rfl) (by kernel_rfl) (by kernel_rfl) (fun _ _ _ h => h) (Or.inl ⟨by rfl, ?_⟩) (by assumption) ?_
    rotate_left 1
    · (intro w hSw; (try dsimp only at hSw); go_simp; try with_reducible rfl)
    try simp only [Act.put, List.setIfInBounds_toArray, List.set_cons_zero, List.set_cons_succ]
    refine wpAnyH_take (i := 3) (v := ?_) (by simp only [List.getElem?_toArray, List.getElem?_cons_succ, List.getElem?_cons_zero]; rfl) (by kernel_rfl) (by kernel_rfl) (by kernel_rfl) (fun _ _ _ h => h) (Or.inl ⟨by rfl, ?_⟩) (by assumption) ?_
    rotate_left 1
    · (intro w hSw; (try dsimp only at hSw); go_simp; try with_reducible rfl)
    try simp only [Act.put, List.setIfInBounds_toArray, List.set_cons_zero, List.set_cons_succ]
    refine wpAnyH_take (i := 4) (v := ?_) (by simp only [List.getElem?_toArray, List.getElem?_cons_succ, List.getElem?_cons_zero]; rfl) (by kernel_rfl) (by kernel_rfl) (by kernel_rfl) (fun _ _ _ h => h) (Or.inl ⟨by rfl, ?_⟩) (by assumption) ?_
    rotate_left 1
    · (intro w hSw; (try dsimp only at hSw); go_simp; try with_reducible rfl)
    try simp only [Act.put, List.setIfInBounds_toArray, List.set_cons_zero, List.set_cons_succ]
    refine wpAnyH_take (i := 5) (v := ?_) (by simp only [List.getElem?_toArray, List.getElem?_cons_succ, List.getElem?_cons_zero]; rfl) (by kernel_rfl) (by kernel_rfl) (by kernel_rfl) (fun _ _ _ h => h) (Or.inl ⟨by rfl, ?_⟩) (by assumption) ?_
    rotate_left 1
    · (intro w hSw; (try dsimp only at hSw); go_simp; try with_reducible rfl)
    try simp only [Act.put, List.setIfInBounds_toArray, List.set_cons_zero, List.set_cons_succ]
    have hvd := HV6.out.drew.cell
    refine wpAnyH_ready (rs := [0]) (by kernel_rfl) (by simp) ?_
    refine AllReadyH.cons rfl (fun K hK => ?_) AllReadyH.nil
    go_simp
    refine hK.out _ _ HP6.out.drew.cell (fun hHeld => ?_)
    clear hK K
    try simp only [Act.put, List.setIfInBounds_toArray, List.set_cons_zero, List.set_cons_succ]
    refine wpAnyH_ready (rs := [1]) (by kernel_rfl) (by simp) ?_
    refine AllReadyH.cons rfl (fun K hK => ?_) AllReadyH.nil
    go_simp
    refine (HCV.out _ c (HI6.out.in_.grow (Grow.refl W6).drew)).mono ?_
    rintro e w7 ⟨c7, rfl, hin7, hg7⟩
    have hg67 := (Grow.refl W6).drew.trans hg7
    have HP7 := hide (HP6.out.grow hg67)
    have HV7 := hide (HV6.out.grow hg67)
    have HS7 := hide (HS6.out.grow hg67)
    have HE7 := hide (HE6.out.grow hg67)
    have HG7 := hide (HG6.out.trans hg67)
    have HI7 := hide hin7
    have hz7 : w.heap.size + 1 + 1 + 1 < w7.heap.size := HP7.out.lt
    have hv7 := HV7.out.cell
    have hvf7 := HV7.out.frozen
    try go_simp
    refine hK.out _ _ HP7.out.cell (fun hHeld => ?_)
    clear hK K hin7 hg7 hg67 hvc hvd
    try simp only [Act.put, List.setIfInBounds_toArray, List.set_cons_zero, List.set_cons_succ]
    refine wpAnyH_ready (rs := [6]) (by kernel_rfl) (by simp) ?_
    refine AllReadyH.cons rfl (fun K hK => ?_) AllReadyH.nil
    go_simp
    have hs8 := set5_grown w7 w.heap.size c7
    have HV8 := hide (set5_from (c := c7) HV7.out)
    have HS8 := hide (HS7.out.own hs8 (fun k e => by injection e with e; omega))
    have HE8 := hide (HE7.out.own hs8 (fun k e => by injection e with e; omega))
    have HP8 := hide (HP7.out.own hs8 (fun k e => by injection e with e; omega))
    have HG8 := hide (HG7.out.grown hs8 (fun k e => by injection e with e; omega))
    have HI8 := hide (HI7.out.blocks hs8.size (fun k h1 h2 => hs8.block k (Nat.lt_of_lt_of_le h2 HI7.out.1) (fun e => by injection e with e; have : W6.drew.heap.size = W6.heap.size := rfl; omega)))
    refine hK.out _ (set5 w7 w.heap.size c7) HP8.out.cell (fun hHeld => ?_)
    clear hK K
    generalize set5 w7 w.heap.size c7 = w8 at HV8 HS8 HE8 HP8 HG8 HI8 hs8 hHeld ⊢
    try simp only [Act.put, List.setIfInBounds_toArray, List.set_cons_zero, List.set_cons_succ]
    have hsc := HS8.out.cell
    have hsf := HS8.out.frozen
    have hz8 := hs8.size
    refine wpAnyH_ready (rs := [7]) (by kernel_rfl) (by simp) ?_
    refine AllReadyH.cons rfl (fun K hK => ?_) AllReadyH.nil
    go_simp
    have hs9 := grown_set w8 (w.heap.size + 1) 0 (.slice A' r.length c')
    have HV9 := hide (HV8.out.own hs9 (fun k e => by injection e with e; omega))
    have HS9 := hide (HS8.out.set_ 0 (.slice A' r.length c'))
    have HE9 := hide (HE8.out.own hs9 (fun k e => by injection e with e; omega))
    have HP9 := hide (HP8.out.own hs9 (fun k e => by injection e with e; omega))
    have HG9 := hide (HG8.out.grown hs9 (fun k e => by injection e with e; omega))
    have HI9 := hide (HI8.out.blocks hs9.size (fun k h1 h2 => hs9.block k (Nat.lt_of_lt_of_le h2 HI8.out.1) (fun e => by injection e with e; have : W6.drew.heap.size = W6.heap.size := rfl; omega)))
    refine hK.out _ _ HP9.out.cell (fun hHeld => ?_)
    clear hK K
    generalize w8.setCell ⟨w.heap.size + 1, 0, none⟩ (.slice A' r.length c') = w9 at HV9 HS9 HE9 HP9 HG9 HI9 hs9 hHeld ⊢
    try simp only [Act.put, List.setIfInBounds_toArray, List.set_cons_zero, List.set_cons_succ]
    have hec := HE9.out.cell
    have hef := HE9.out.frozen
    have hz9 := hs9.size
    refine wpAnyH_ready (rs := [8]) (by kernel_rfl) (by simp) ?_
    refine AllReadyH.cons rfl (fun K hK => ?_) AllReadyH.nil
    go_simp
    have hs10 := grown_set w9 (w.heap.size + 1 + 1) 0 (.int .i64 0)
    have HV10 := hide (HV9.out.own hs10 (fun k e => by injection e with e; omega))
    have HS10 := hide (HS9.out.own hs10 (fun k e => by injection e with e; omega))
    have HE10 := hide (HE9.out.set_ 0 (.int .i64 0))
    have HP10 := hide (HP9.out.own hs10 (fun k e => by injection e with e; omega))
    have HG10 := hide (HG9.out.grown hs10 (fun k e => by injection e with e; omega))
    have HI10 := hide (HI9.out.blocks hs10.size (fun k h1 h2 => hs10.block k (Nat.lt_of_lt_of_le h2 HI9.out.1) (fun e => by injection e with e; have : W6.drew.heap.size = W6.heap.size := rfl; omega)))
    have hz10 := hs10.size
    refine hK.out _ _ HP10.out.cell (fun hHeld => ?_)
    clear hK K
    generalize w9.setCell ⟨w.heap.size + 1 + 1, 0, none⟩ (.int .i64 0) = w10 at HV10 HS10 HE10 HP10 HG10 HI10 hs10 hz10 hHeld ⊢
    try simp only [Act.put, List.setIfInBounds_toArray, List.set_cons_zero, List.set_cons_succ]
    refine wpAnyH_done (by kernel_rfl) ?_ _
    refine NoPanic.normal ?_
    clear hec hef hsc hsf hv7 hvf7 hHeld
    go_wp2_with fail
    refine leaves_cons (f := 109) (args := #[.pointer (some ⟨w.heap.size, 0, none⟩), .pointer (some ⟨w.heap.size + 1, 0, none⟩), .pointer (some ⟨w.heap.size + 1 + 1, 0, none⟩)]) (by simp) (by simp [go_sem]) ?_
    refine (kcatch_idle w.heap.size (w.heap.size + 1) (w.heap.size + 1 + 1) _).mono ?_
    rintro r' u' w'' ⟨rfl, rfl, rfl⟩
    exact ⟨_, kread_results rfl rfl rfl c7 (.slice A' r.length c') 0 HV10.out HS10.out HE10.out, KRdC.yes HG10.out (HI10.out.wider (by have : W6.drew.heap.size = W6.heap.size := rfl; omega) (by omega) (Nat.le_refl _)) hc' (Reads.mono (AtW.below HG10.out.below (Nat.le_refl _) hhi (Nat.le_refl _)) HRW'.out)⟩
end Go.Proofs.YtpjhhkndfmcaoaaDoor
