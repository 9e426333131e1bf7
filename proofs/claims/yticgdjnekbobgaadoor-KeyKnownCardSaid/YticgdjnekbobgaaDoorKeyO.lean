/- Walks: key.Of. -/
import Derived.Test.YticgdjnekbobgaaDoorKeyV
import Derived.Deep.RegionHeld3
set_option linter.unusedVariables false
set_option linter.unusedSimpArgs false
namespace Go.Proofs.YticgdjnekbobgaaDoor
open Go.RowKit Go.Shelf Go.WideShapes

theorem keyL_flat (l : List V) (h : ∀ x ∈ l, x.key.length + 1 ≤ 4 * x.bytes.length) : (l.map V.keyL).flatten.length ≤ 4 * (l.map V.bytes).flatten.length := by
  induction l with
  | nil => simp
  | cons x l ih =>
    have h1 := h x List.mem_cons_self
    have h2 := ih (fun y hy => h y (List.mem_cons_of_mem _ hy))
    simp only [List.map_cons, List.flatten_cons, List.length_append, V.keyL, List.length_cons]; omega
theorem keyFd_flat (l : List (ByteArray × V)) (h : ∀ x ∈ l, x.2.key.length + 1 ≤ 4 * x.2.bytes.length) : (l.map V.keyFd).flatten.length ≤ 4 * (l.map fun x => V.item x.1 x.2.bytes).flatten.length := by
  induction l with
  | nil => simp
  | cons x l ih =>
    have h1 := h x List.mem_cons_self
    have h2 := ih (fun y hy => h y (List.mem_cons_of_mem _ hy))
    have h3 := (escB_length x.1.data.toList).2
    have h4 : x.1.data.toList.length = x.1.size := by simp
    simp only [List.map_cons, List.flatten_cons, List.length_append, V.keyFd, List.length_cons, V.item_length, esc, List.length_nil]; omega
theorem key_len (v : V) : v.formed = true → v.key.length + 1 ≤ 4 * v.bytes.length := by
  induction v using V.ind with
  | h k n b l f hl hf =>
    intro hfm
    rcases V.formed_cases hfm with h | ⟨n', hn', h⟩ | ⟨n', h⟩ | ⟨n', h⟩ | ⟨b', hb', h⟩ | ⟨b', h⟩ | ⟨l', hl', h⟩ | ⟨f', hf', hnd, h⟩ <;> cases h
    · rw [V.key_mk, V.bytes_mk]; simp
    · rw [V.key_mk, V.bytes_mk]; simp
    · rw [V.key_mk, V.bytes_mk]; simp [keyInt, be_length, toLe_length]
    · rw [V.key_mk, V.bytes_mk]; simp only [keyFloat]; simp; split <;> simp [be_length, toLe_length]
    · have := (escB_length b).2
      rw [V.key_mk, V.bytes_mk]; simp [esc, toLe_length]; omega
    · have := (escB_length b).2
      rw [V.key_mk, V.bytes_mk]; simp [esc, toLe_length]; omega
    · have := keyL_flat l (fun x hx => hl x hx (hl' x hx))
      have e : (V.mk 7 0 [] l []).key = 96 :: ((l.map V.keyL).flatten ++ [0]) := by rw [V.key_mk]; simp
      rw [e, V.bytes_list]
      simp only [List.length_cons, List.length_append, List.length_nil]
      omega
    · have := keyFd_flat f (fun x hx => hf x hx (hf' x hx).2)
      have e : (V.mk 8 0 [] [] f).key = 112 :: ((f.map V.keyFd).flatten ++ [0]) := by rw [V.key_mk]; simp
      rw [e, V.bytes_doc]
      simp only [List.length_cons, List.length_append, List.length_nil]
      omega

/-- What Of and All tell: bytes of the call's own, and an error. -/
def OfC (w : World) (p : List UInt8 × Int) (e : Ending) (w' : World) : Prop :=
  ∃ base A c, e = .returned (.tuple #[.slice A p.1.length c, .int .i64 p.2]) ∧ w.heap.size ≤ base ∧ Row w' base (.slice A p.1.length c) p.1.length p.1 ∧ Grow w w'
theorem OfC.bad {w w' : World} {e : Int} (h : Grow w w') : OfC w ([], e) (.returned (.tuple #[.slice none 0 0, .int .i64 e])) w' :=
  ⟨w.heap.size, none, 0, rfl, Nat.le_refl _, World.ownsRow_nil _ _ _ _, h⟩
theorem zero_writer (w : World) : True := trivial

set_option maxRecDepth 100000 in
set_option maxHeartbeats 6400000 in
theorem of_any (v : V) (c : Cv) (w : World) (hfit : v.fit) (hcount : v.count ≤ 20000) (hT : Tabs w) (hv : In w v c) : Calls Tryd.prog 16 #[c.agg] w (OfC w (ofK v)) := by
  have HG0 := hide ((Grow.refl w).alloc (.cells c.cells 27))
  have HB0 := hide (Blk.new w 27 c.cells)
  have hcell := (Blk.new w 27 c.cells).cell
  have HGOOD := hide (good_any v _ c hcount (hT.grow HG0.out) (hv.grow HG0.out))
  have HV := hide hv
  have HFIT := hide hfit
  obtain ⟨g, hg⟩ : ∃ g, v.good = g := ⟨_, rfl⟩
  rw [hg] at HGOOD
  have HGD := hide hg
  clear hT hv hfit hg
  go_enter Tryd.func16, Tryd.ntmps16
  go_wp2_with fail
  refine HGOOD.out.mono ?_
  rintro e w1 ⟨rfl, hg1⟩
  have hB1 := HB0.out.grow hg1
  have HG1 := hide (HG0.out.trans hg1)
  have HB1 := hide hB1
  have hc1 := hB1.cell
  have hlt1 := hB1.lt
  clear hg1 hB1 hcell
  by_cases h0 : g = 0
  · subst h0
    have hf := V.good_formed HGD.out
    have hkl := key_len v hf.1
    have hkl2 : v.key.length ≤ 16384 := by have := hf.2; omega
    have HF := hide hf
    have hrow : Row (w1.alloc (.cells #[.slice none 0 0] 96)) (w1.heap.size + 1) (.slice none 0 0) 0 [] := World.ownsRow_nil _ _ _ _
    have HC := hide (kw_any v HFIT.out hf.1 w1.heap.size none 0 [] c (w1.alloc (.cells #[.slice none 0 0] 96)) ⟨Blk.new w1 _ _, hrow⟩ (((HV.out.grow HG1.out).under).below (Below.alloc (Below.refl _ w1) (Nat.le_refl _) _) (Nat.le_refl _) (Nat.le_refl _)) (by simp only [List.length_nil]; omega))
    rw [List.nil_append] at HC
    clear hf hrow hkl
    go_wp2_with fail
    refine HC.out.mono ?_
    rintro e w2 ⟨A2, c2, rfl, h1, h2⟩
    obtain ⟨KB, hKB⟩ : ∃ K, v.key = K := ⟨_, rfl⟩
    rw [hKB] at h1 h2 hkl2
    have HKE := hide hKB
    have hcw : w2.cell? ⟨w1.heap.size, 0, none⟩ = some (.slice A2 KB.length c2) := h1.1.cell 0
    have hlw := h1.1.lt
    have HW := hide h1
    have HG12 := hide (show Grow w1 w2 from Below.trans ((Grow.refl w1).alloc (.cells #[.slice none 0 0] 96)) (h2.below (bs := []) ⟨Blk.new w1 _ _, World.ownsRow_nil _ _ _ _⟩))
    clear h1 h2 HC hKB
    by_cases hlen : 96 < KB.length
    · go_wp2_with fail
      go_ret2
      rw [show ofK v = ([], 14) by unfold ofK; rw [if_neg (by have := HGD.out; omega), if_pos (by rw [HKE.out]; exact hlen)]]
      exact OfC.bad (HG1.out.trans HG12.out)
    · obtain ⟨cur, hcur, hmk⟩ := make_u8 KB.length (by omega)
      have HROW := hide (Row.made (w := w2.drew) cur KB.length (by simp only [maxLen]; omega) hcur)
      have HSRC := hide (show Src Tryd.prog 1 23 (.slice A2 KB.length c2) KB.length (u8s KB) (w2.drew.alloc (.cells cur 5)) from Src.ofReads under_u8s (HW.out.2.reads.1.grow ((Grow.refl w2).drew.alloc _)) (u8s_one _))
      have hcw2 : (w2.drew.alloc (.cells cur 5)).cell? ⟨w1.heap.size, 0, none⟩ = some (.slice A2 KB.length c2) := (((Grow.refl w2).drew.alloc (.cells cur 5)).below.cell (p := ⟨w1.heap.size, 0, none⟩) hlw).trans hcw
      go_wp2_with fail
      refine wp_region_noPanic ?_
      refine wp_region_held_drew (S := fun w' => w'.cell? ⟨w1.heap.size, 0, none⟩ = some (.slice A2 KB.length c2)) (by kernel_rfl) (hcw) (fun hHeld => ?_)
      refine wpAnyH_take (i := 0) (v := ?_) (by simp only [List.getElem?_toArray, List.getElem?_cons_succ, List.getElem?_cons_zero]; rfl) (by kernel_rfl) (by kernel_rfl) (by kernel_rfl) (fun _ _ _ h => h) (Or.inl ⟨by rfl, ?_⟩) (by assumption) ?_
      rotate_left 1
      · (intro w hSw; (try dsimp only at hSw); go_simp; try with_reducible rfl)
      try simp only [Act.put, List.setIfInBounds_toArray, List.set_cons_zero, List.set_cons_succ]
      refine wpAnyH_take (i := 1) (v := ?_) (by simp only [List.getElem?_toArray, List.getElem?_cons_succ, List.getElem?_cons_zero]; rfl) (by kernel_rfl) (by kernel_rfl) (by kernel_rfl) (fun _ _ _ h => h) (Or.inl ⟨by rfl, ?_⟩) (by assumption) ?_
      rotate_left 1
      · (intro w hSw; (try dsimp only at hSw); go_simp; try with_reducible rfl)
      try simp only [Act.put, List.setIfInBounds_toArray, List.set_cons_zero, List.set_cons_succ]
      refine wpAnyH_take (i := 2) (v := ?_) (by simp only [List.getElem?_toArray, List.getElem?_cons_succ, List.getElem?_cons_zero]; rfl) (by kernel_rfl) (by kernel_rfl) (by kernel_rfl) (fun _ _ _ h => h) (Or.inl ⟨by rfl, ?_⟩) (by assumption) ?_
      rotate_left 1
      · (intro w hSw; (try dsimp only at hSw); go_simp; try with_reducible rfl)
      try simp only [Act.put, List.setIfInBounds_toArray, List.set_cons_zero, List.set_cons_succ]
      refine wpAnyH_take (i := 3) (v := ?_) (by simp only [List.getElem?_toArray, List.getElem?_cons_succ, List.getElem?_cons_zero]; rfl) (by kernel_rfl) (by kernel_rfl) (by kernel_rfl) (fun _ _ _ h => h) (Or.inl ⟨by rfl, ?_⟩) (by assumption) ?_
      rotate_left 1
      · (intro w hSw; (try dsimp only at hSw); go_simp; try with_reducible rfl)
      try simp only [Act.put, List.setIfInBounds_toArray, List.set_cons_zero, List.set_cons_succ]
      refine wpAnyH_take (i := 4) (v := ?_) (by simp only [List.getElem?_toArray, List.getElem?_cons_succ, List.getElem?_cons_zero]; rfl) (by kernel_rfl) (by kernel_rfl) (by kernel_rfl) (fun _ _ _ h => h) (Or.inl ⟨by rfl, ?_⟩) (by assumption) ?_
      rotate_left 1
      · (intro w hSw; (try dsimp only at hSw); go_simp; try with_reducible rfl)
      try simp only [Act.put, List.setIfInBounds_toArray, List.set_cons_zero, List.set_cons_succ]
      refine wpAnyH_take (i := 6) (v := ?_) (by simp only [List.getElem?_toArray, List.getElem?_cons_succ, List.getElem?_cons_zero]; rfl) (by kernel_rfl) (by kernel_rfl) (by kernel_rfl) (fun _ _ _ h => h) (Or.inl ⟨by rfl, ?_⟩) (by assumption) ?_
      rotate_left 1
      · (intro w hSw; (try dsimp only at hSw); go_simp; try with_reducible rfl)
      try simp only [Act.put, List.setIfInBounds_toArray, List.set_cons_zero, List.set_cons_succ]
      refine wpAnyH_take (i := 7) (v := ?_) (by simp only [List.getElem?_toArray, List.getElem?_cons_succ, List.getElem?_cons_zero]; rfl) (by kernel_rfl) (by kernel_rfl) (by kernel_rfl) (fun _ _ _ h => h) (Or.inl ⟨by rfl, ?_⟩) (by assumption) ?_
      rotate_left 1
      · (intro w hSw; (try dsimp only at hSw); go_simp; try with_reducible rfl)
      try simp only [Act.put, List.setIfInBounds_toArray, List.set_cons_zero, List.set_cons_succ]
      refine wpAnyH_take (i := 8) (v := ?_) (by simp only [List.getElem?_toArray, List.getElem?_cons_succ, List.getElem?_cons_zero]; rfl) (by kernel_rfl) (by kernel_rfl) (by kernel_rfl) (fun _ _ _ h => h) (Or.inl ⟨by rfl, ?_⟩) (by assumption) ?_
      rotate_left 1
      · (intro w hSw; (try dsimp only at hSw); go_simp; try with_reducible rfl)
      try simp only [Act.put, List.setIfInBounds_toArray, List.set_cons_zero, List.set_cons_succ]
      refine wpAnyH_take (i := 9) (v := ?_) (by simp only [List.getElem?_toArray, List.getElem?_cons_succ, List.getElem?_cons_zero]; rfl) (by kernel_rfl) (by kernel_rfl) (by kernel_rfl) (fun _ _ _ h => h) (Or.inl ⟨by rfl, ?_⟩) (by assumption) ?_
      rotate_left 1
      · (intro w hSw; (try dsimp only at hSw); go_simp; try with_reducible rfl)
      try simp only [Act.put, List.setIfInBounds_toArray, List.set_cons_zero, List.set_cons_succ]
      refine wpAnyH_ready (rs := [5]) (by kernel_rfl) (by simp) ?_
      refine AllReadyH.cons (by simp only [List.getElem?_toArray, List.getElem?_cons_succ, List.getElem?_cons_zero]; rfl) (fun K hK => ?_) AllReadyH.nil
      go_simp
      
      refine hK.out _ _ (hcw2) (fun hHeld => ?_)
      clear hK K
      try simp only [Act.put, List.setIfInBounds_toArray, List.set_cons_zero, List.set_cons_succ]
      refine wpAnyH_ready (rs := [10]) (by kernel_rfl) (by simp) ?_
      refine AllReadyH.cons (by simp only [List.getElem?_toArray, List.getElem?_cons_succ, List.getElem?_cons_zero]; rfl) (fun K hK => ?_) AllReadyH.nil
      refine step_app_src (ys := KB) rfl (.tmp 27) (.tmp 31) _ rfl rfl HROW.out _ rfl HSRC.out (by omega) (by simp) ?_
      intro A3 c3 w3 hr3 hg3
      rw [Nat.zero_add, List.nil_append] at hr3
      have HR3 := hide hr3
      have HG3 := hide (show Grow w2 w3 from Below.trans ((Grow.refl w2).drew.alloc _) (Grew.below hg3 HROW.out (by simp)))
      clear hr3 hg3
      refine hK.out _ _ ((HG3.out.below.cell (p := ⟨w1.heap.size, 0, none⟩) hlw).trans hcw) (fun hHeld => ?_)
      clear hK K
      try simp only [Act.put, List.setIfInBounds_toArray, List.set_cons_zero, List.set_cons_succ]
      refine wpAnyH_take (i := 11) (v := ?_) (by simp only [List.getElem?_toArray, List.getElem?_cons_succ, List.getElem?_cons_zero]; rfl) (by kernel_rfl) (by kernel_rfl) (by kernel_rfl) (fun _ _ _ h => h) (Or.inl ⟨by rfl, ?_⟩) (by assumption) ?_
      rotate_left 1
      · (intro w hSw; (try dsimp only at hSw); go_simp; try with_reducible rfl)
      try simp only [Act.put, List.setIfInBounds_toArray, List.set_cons_zero, List.set_cons_succ]
      refine wpAnyH_take (i := 12) (v := ?_) (by simp only [List.getElem?_toArray, List.getElem?_cons_succ, List.getElem?_cons_zero]; rfl) (by kernel_rfl) (by kernel_rfl) (by kernel_rfl) (fun _ _ _ h => h) (Or.inl ⟨by rfl, ?_⟩) (by assumption) ?_
      rotate_left 1
      · (intro w hSw; (try dsimp only at hSw); go_simp; try with_reducible rfl)
      try simp only [Act.put, List.setIfInBounds_toArray, List.set_cons_zero, List.set_cons_succ]
      refine wpAnyH_done (by kernel_rfl) ?_ _
      refine NoPanic.normal ?_
      rw [Nat.zero_add]
      go_wp2_with fail
      go_ret2
      rw [show ofK v = (KB, 0) by unfold ofK; rw [if_neg (by have := HGD.out; omega), if_neg (by rw [HKE.out]; exact hlen), HKE.out]]
      exact ⟨w2.drew.heap.size, A3, c3, rfl, by have := HG1.out.size; have := HG12.out.size; simp; omega, HR3.out, (HG1.out.trans HG12.out).trans HG3.out⟩
  · have h0' : (g == 0) = false := by simpa using h0
    have h0'' : (g != 0) = true := by simpa using h0
    clear h0
    go_wp2_with fail
    go_ret2
    rw [show ofK v = ([], g) by unfold ofK; rw [HGD.out, if_pos (by simpa using h0'')]]
    exact OfC.bad HG1.out
end Go.Proofs.YticgdjnekbobgaaDoor
