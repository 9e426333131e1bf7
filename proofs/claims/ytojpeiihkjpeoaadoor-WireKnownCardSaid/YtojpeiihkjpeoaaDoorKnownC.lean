/- The closed law WireKnown holds: chapter 19's examples. Conditions: the row's own (the two listed tables of unicode/utf8 read as their initialisers lay them; the card ties them to the program's text). -/
import Derived.Test.YtojpeiihkjpeoaaDoorWAwake
import Derived.Test.YtojpeiihkjpeoaaDoorCard0
set_option linter.unusedVariables false
set_option linter.unusedSimpArgs false
namespace Go.Proofs.YtojpeiihkjpeoaaDoor
open Go.RowKit Go.ChangeShapes Go.ChangeAt Go.Shelf Go.WideShapes

theorem known1 : getRep (frame0.take 5) = (Rp.zero, 0, 17) := getOf_less (by rw [body0]; decide) 5 (by rw [body0]; decide)
theorem known2 : getRep [77, 1] = (Rp.zero, 0, 4) := getP_bad (head_4 (by decide)) (by decide)
theorem known3 : getRep [77, 68, 255, 255] = (Rp.zero, 0, 2) := getP_bad (head_2 (by decide) (by decide) (by decide)) (by decide)
theorem known4 : split (frame0 ++ frame0 ++ [77]) = (2, 1, 17) := by
  have h1 := head_frame Rp.zero.body (frame0 ++ [77]) (by rw [body0]; decide)
  have h2 := head_frame Rp.zero.body [77] (by rw [body0]; decide)
  have l1 : (frameOf Rp.zero.body).length = Rp.zero.body.length + 8 := frameOf_length _
  have h3 : head [77] = (0, 17) := head_17 (by decide) (by decide)
  have e1 : frame0 ++ frame0 ++ [77] = frameOf Rp.zero.body ++ (frame0 ++ [77]) := by rw [List.append_assoc]; rfl
  have e2 : frame0 ++ [77] = frameOf Rp.zero.body ++ [77] := rfl
  rw [e1, split_step (by intro e; have := congrArg List.length e; simp [l1] at this) (by rw [h1]), h1]
  simp only
  rw [List.drop_left' l1, e2, split_step (by intro e; have := congrArg List.length e; simp [l1] at this) (by rw [h2]), h2]
  simp only
  rw [List.drop_left' l1, split_end (by simp) (by rw [h3]; decide), h3]
  rfl
theorem inB_blk {w : World} {g : Nat} {t : TypeId} {xs : List UInt8} (h : Blk w g t (u8s xs).toArray) : InB w (some ⟨g, 0, none⟩) xs :=
  ⟨by simp [u8s], fun _ => ⟨g, 0, rfl, fun j u hu => ⟨by rw [Nat.zero_add, h.cell j]; simpa using hu, Nat.zero_le _, h.lt⟩⟩⟩
/-- A reply of noughts. -/
theorem RetRp.zeros {w0 w : World} {u : Value} (h : RetRp w0 Rp.zero u w) : ∃ A c, u = .agg #[.int .i64 0, .int .i64 0, .slice A 0 c, .int .i64 0] := by
  obtain ⟨A, c, hu, _⟩ := h
  exact ⟨A, c, hu⟩

set_option maxRecDepth 100000 in
set_option maxHeartbeats 3200000 in
theorem known_any (w : World) (hT : Tabs w) : Calls Tryd.prog 4 #[] w fun e w' => e = .returned (.bool true) ∧ Grow w w' := by
  have HP := hide (putRp_any Rp.zero none 0 w hT (InL.nil w) (fun v hv => absurd hv (by simp [Rp.zero])) (by decide) (by decide) (by decide))
  have HT := hide hT
  rw [put0] at HP
  clear hT
  go_enter Tryd.func4, Tryd.ntmps4
  go_wp2_with fail
  refine HP.out.mono ?_
  rintro e w1 ⟨base, A, c, rfl, hb, hb2, hr, hg1⟩
  rw [frame0_length] at hr ⊢
  have hcap := hr.cap
  obtain ⟨bk, o, rfl, hbk, e0⟩ := hr.reads.1.at_ 0 (by rw [frame0_length]; omega)
  have HI1 := hide hr.reads.1
  have HG1 := hide hg1
  clear hg1 e0 hr hb hb2
  go_wp2_with fail
  refine (wawake_any _ (HT.out.grow HG1.out)).mono ?_
  rintro e w2 ⟨rfl, hg2⟩
  have HG2 := hide (HG1.out.trans hg2)
  have HI2 := hide (HI1.out.grow hg2)
  have hG := getP_any (frame0.take 5) (some ⟨bk, o, none⟩) c w2 (HT.out.grow HG2.out) (HI2.out.take 5) (by rw [List.length_take, frame0_length]; omega) (by rw [List.length_take, frame0_length]; omega)
  rw [known1, List.length_take, frame0_length] at hG
  have HGET := hide (show Calls Tryd.prog 17 #[.slice (some ⟨bk, o, none⟩) 5 c] w2 (GotP w2 (Rp.zero, 0, 17)) from hG)
  clear hG hg2 HP HI1
  go_wp2_with fail
  refine HGET.out.mono ?_
  rintro e w3 ⟨u, rfl, hret, hg3⟩
  obtain ⟨A3, c3, rfl⟩ := hret.zeros
  have HG3 := hide ((HG2.out.trans hg3).alloc (.cells (rpCells 0 0 A3 0 c3 0) 25))
  have HI3 := hide ((HI2.out.grow hg3).grow ((Grow.refl w3).alloc (.cells (rpCells 0 0 A3 0 c3 0) 25)))
  clear hg3 hret HGET HI2 HG2
  generalize hW3 : w3.alloc (.cells (rpCells 0 0 A3 0 c3 0) 25) = w4 at HG3 HI3
  have hz4 : w4.heap.size = w3.heap.size + 1 := by rw [← hW3]; simp
  have HB4 := hide (Blk.new w4 5 #[.int .u8 77, .int .u8 1])
  have hal4 := (Grow.refl w4).alloc (.cells #[.int .u8 77, .int .u8 1] 5)
  have hG := getP_any [77, 1] (some ⟨w4.heap.size, 0, none⟩) 2 _ (HT.out.grow (HG3.out.trans hal4)) (inB_blk (xs := [77, 1]) HB4.out) (by decide) (by decide)
  rw [known2, hz4, ← hW3] at hG
  have HGET := hide hG
  have HAL4 := hide hal4
  have HW3 := hide hW3
  clear hG hal4 hW3
  go_wp2_with fail
  refine HGET.out.mono ?_
  rintro e w5 ⟨u, rfl, hret, hg5⟩
  obtain ⟨A5, c5, rfl⟩ := hret.zeros
  have HG5 := hide (((HG3.out.trans (HW3.out ▸ HAL4.out)).trans (HW3.out ▸ hg5)).alloc (.cells (rpCells 0 0 A5 0 c5 0) 25))
  have HI5 := hide (((HI3.out.grow (HW3.out ▸ HAL4.out)).grow (HW3.out ▸ hg5)).grow ((Grow.refl w5).alloc (.cells (rpCells 0 0 A5 0 c5 0) 25)))
  clear hg5 hret HGET HI3 HG3 HAL4 HW3 HB4
  generalize hW5 : w5.alloc (.cells (rpCells 0 0 A5 0 c5 0) 25) = w6 at HG5 HI5
  have hz6 : w6.heap.size = w5.heap.size + 1 := by rw [← hW5]; simp
  have HB6 := hide (Blk.new w6 5 #[.int .u8 77, .int .u8 68, .int .u8 255, .int .u8 255])
  have hal6 := (Grow.refl w6).alloc (.cells #[.int .u8 77, .int .u8 68, .int .u8 255, .int .u8 255] 5)
  have hG := getP_any [77, 68, 255, 255] (some ⟨w6.heap.size, 0, none⟩) 4 _ (HT.out.grow (HG5.out.trans hal6)) (inB_blk (xs := [77, 68, 255, 255]) HB6.out) (by decide) (by decide)
  rw [known3, hz6, ← hW5] at hG
  have HGET := hide hG
  have HAL6 := hide hal6
  have HW5 := hide hW5
  clear hG hal6 hW5
  go_wp2_with fail
  refine HGET.out.mono ?_
  rintro e w7 ⟨u, rfl, hret, hg7⟩
  obtain ⟨A7, c7, rfl⟩ := hret.zeros
  have HG7 := hide (((HG5.out.trans (HW5.out ▸ HAL6.out)).trans (HW5.out ▸ hg7)).alloc (.cells (rpCells 0 0 A7 0 c7 0) 25))
  have HI7 := hide (((HI5.out.grow (HW5.out ▸ HAL6.out)).grow (HW5.out ▸ hg7)).grow ((Grow.refl w7).alloc (.cells (rpCells 0 0 A7 0 c7 0) 25)))
  clear hg7 hret HGET HI5 HG5 HAL6 HW5 HB6
  generalize hW7 : w7.alloc (.cells (rpCells 0 0 A7 0 c7 0) 25) = w8 at HG7 HI7
  have hz8 : w8.heap.size = w7.heap.size + 1 := by rw [← hW7]; simp
  have hrow := Row.made (w := w8) #[] 0 (by simp [maxLen]) rfl
  have hal8 := (Grow.refl w8).alloc (.cells #[] 5)
  have hwz : w.heap.size ≤ w7.heap.size + 1 := by have := HG7.out.size; omega
  have hi8 : Reads (AtW (w8.alloc (.cells #[] 5)) 0 w8.heap.size) 1 (some ⟨bk, o, none⟩) frame0.length (u8s frame0) := Reads.mono (AtW.below hal8.below (Nat.le_refl _) (Nat.le_refl _) (Nat.le_refl _)) HI7.out
  rw [hz8] at hi8
  have HI8 := hide hi8
  have HG8 := hide (HG7.out.trans hal8)
  rw [hz8, ← hW7] at hrow
  rw [← hW7] at HI8 HG8
  have HROW := hide hrow
  have hsrc : ∀ w' lo hi, Reads (AtW w' lo hi) 1 (some ⟨bk, o, none⟩) frame0.length (u8s frame0) → Src Tryd.prog 1 26 (.slice (some ⟨bk, o, none⟩) 18 c) frame0.length (u8s frame0) w' := fun w' lo hi h => by
    have := Src.ofReads (P := Tryd.prog) (c := c) under_u8s h (u8s_one frame0)
    rwa [frame0_length] at this ⊢
  have HSRC := hide hsrc
  have hf0 : frame0.length = 18 := frame0_length
  clear hrow hal8 hW7 hsrc HI7 HG7 hi8
  have hb1 : w7.heap.size + 1 ≤ ((w7.alloc (.cells (rpCells 0 0 A7 0 c7 0) 25)).alloc (.cells #[] 5)).heap.size := by simp
  go_wp2_with (first
    | (at_builtin; refine app_src (ys := frame0) rfl (.tmp 42) (.tmp 43) _ rfl rfl HROW.out _ rfl (HSRC.out _ _ _ HI8.out) (by omega) hb1 ?_; intro A9 c9 w9 hr9 hg9; rw [hf0, Nat.zero_add, List.nil_append] at hr9; have HG9 := hide (Grew.below hg9 HROW.out hb1); have hz9 : w7.heap.size + 1 ≤ w9.heap.size := Nat.le_trans hb1 hg9.size; have HR9 := hide hr9; have HI9 := hide (Reads.mono (AtW.below HG9.out (Nat.le_refl _) (Nat.le_refl _) (Nat.le_refl _)) HI8.out); clear hr9 hg9)
    | (at_builtin; refine app_src (ys := frame0) rfl (.tmp 44) (.tmp 45) _ rfl rfl HR9.out _ rfl (HSRC.out _ _ _ HI9.out) (by omega) (by omega) ?_; intro A10 c10 w10 hr10 hg10; rw [hf0] at hr10; have HG10 := hide (Below.trans HG9.out (Grew.below hg10 HR9.out (by omega))); have hz10 : w7.heap.size + 1 ≤ w10.heap.size := Nat.le_trans hz9 hg10.size; have HR10 := hide hr10; clear hr10 hg10)
    | (at_builtin; refine app_src (ys := [77]) rfl (.tmp 46) (.tmp 47) _ rfl rfl (HR10.out.alloc _) _ rfl (src_one 77 rfl (Blk.new w10 _ _)) (by simp only [List.length_cons, List.length_nil]; omega) (by simp; omega) ?_; intro A11 c11 w11 hr11 hg11; have HG11 := hide hg11; have HR11 := hide hr11; clear hr11 hg11))
  have hr11 := HR11.out
  have hl37 : (frame0 ++ frame0 ++ [77]).length = 37 := by rw [List.length_append, List.length_append, hf0]; rfl
  have hS := split_any (frame0 ++ frame0 ++ [77]) A11 c11 w11 hr11.reads.1 (by omega) (by rw [hl37]; exact hr11.cap)
  unfold SplitC at hS
  rw [hl37, known4] at hS
  have HS := hide hS
  have HGF := hide (show Grow w w11 from Below.trans HG8.out (Below.mono (Below.trans (Below.alloc HG10.out hz10 (.cells #[.int .u8 77] 5)) (Grew.below HG11.out (HR10.out.alloc _) (by simp; omega))) hwz))
  clear hr11 hS
  refine HS.out.mono ?_
  rintro e w12 ⟨rfl, hg12⟩
  have HG12 := hide (HGF.out.trans hg12)
  clear hg12
  go_wp2_with fail
  go_ret
  exact ⟨rfl, HG12.out⟩

theorem known_reading (os : Os) {H : Type} (enc : TypeId × Value → H) : ∃ places, DataW.whole enc Tryd.prog ((laidWorld os).forCall (fun _ _ => 0) ⟨#[], #[], []⟩).memory Tryd.f4.params.toList Rows.wireKnownSpec.vars false (#[] : Array Value).toList 8 = some ([], [], places) :=
  ⟨[], by kernel_rfl⟩

set_option maxRecDepth 100000 in
set_option maxHeartbeats 1600000 in
theorem known_lifted (os : Os) (started : os.Started) (H : Type) (enc : TypeId × Value → H) (F : Stop.Interp) :
    ReturnsInHanded {} Tryd.checked os 4 .any ((OpenSpec.ofChange Rows.wireKnownSpec).preRow enc Tryd.prog Tryd.f4 Rows.wireKnownRow.domain false Rows.wireKnownRow.laid) (((OpenSpec.ofChange Rows.wireKnownSpec).at F).post enc Tryd.prog Tryd.f4 false true false false) := by
  obtain ⟨places, hx⟩ := known_reading os enc
  refine returnsInHanded_of_row (C := Tryd.checked) (s := OpenSpec.ofChange Rows.wireKnownSpec) own_ started (by kernel_rfl) Tryd.func4
    (witness_row_atRef (enc := enc) (C := Tryd.checked) false (laidWorld os) #[] rfl (by kernel_rfl) (by kernel_rfl) (by kernel_rfl)
      (OpenSpec.preRow_of_cond 8 hx (by kernel_rfl) (fun k hk => by cases hk) (by kernel_rfl) (laid_row os _))) ?_
  intro W base args ds gs before hval0 hW _ _ hsz hL _ _
  have hval : ∀ (j : Nat) t v, Tryd.f4.params[j]? = some t → args[j]? = some v → Value.okWide Tryd.prog W .any base t v := hval0
  have hW' := hW
  obtain ⟨p, q, hA0, hV0, rfl, _, _⟩ := hW
  have hA : DataW.TrodAll enc Tryd.prog W 0 (fun _ => true) true Tryd.f4.params.toList args.toList ds p := hA0
  rw [Tryd.params4] at hA hval
  obtain ⟨rfl, rfl, rfl⟩ := trodAll_none hA
  obtain ⟨rfl, rfl⟩ := trodVars_none hV0
  refine (known_any W (tabs_row hL)).mono ?_
  rintro e W' ⟨rfl, bel⟩
  have e1 : ((OpenSpec.ofChange Rows.wireKnownSpec).at F).fn H ([] ++ []) = { results := [.lit (.bool true)], args := [] } := rfl
  refine ⟨_, rfl, _, _, _, [], [], [], hW', ?_, ?_, ?_, bel.below.frame _, fun h => by cases h⟩
  · rw [e1]; exact trodAll_mk1 (shut_bool Tryd.underlying4 _)
  · rw [e1]; exact trodAll_mk0 
  · rw [e1]; rfl

theorem known_said : Rows.WireKnownSaid :=
  OpenClaim.holds_of_cond 4 Tryd.f4 rfl rfl rfl rfl rfl rfl rfl ⟨rfl, rfl, rfl, rfl, rfl⟩ rfl rfl rfl rfl rfl (by kernel_rfl) Tryd.func4 (by kernel_rfl)
    (of_decide_eq_true (by kernel_rfl)) (by unfold Func.isWrapper; first | (rw [if_pos (by decide +kernel)]; kernel_rfl) | (rw [if_neg (by decide +kernel)]; exact ⟨rfl, rfl⟩))
    (fun os started H enc _ F => by rw [OpenClaim.pre_eq_preRow]; exact known_lifted os started H enc F)

theorem known_plain (f : FuncId) (fn : Func) (hf : Tryd.pinned.checked.prog.funcNamed "muniment/munimentlaw19.WireKnown" = some f) (hfn : Tryd.pinned.checked.prog.funcs[f]? = some fn) :
    true = Tryd.pinned.checked.prog.looks [] ∧ ∀ (j : Nat) t, fn.params[j]? = some t → Tryd.pinned.checked.prog.wantsStandIn t = false := by
  obtain rfl : f = 4 := Option.some.inj ((show Tryd.prog.funcNamed "muniment/munimentlaw19.WireKnown" = some 4 by kernel_rfl).symm.trans hf) |>.symm
  obtain rfl : fn = Tryd.f4 := (Option.some.inj (Tryd.func4.symm.trans hfn)).symm
  refine ⟨by kernel_rfl, fun j t ht => ?_⟩
  rw [Tryd.params4] at ht
  simp at ht

/-- The tied card of WireKnown. -/
theorem known_card : Rows.WireKnownCardSaid :=
  Claim7.holds_tied_plain_at .later [] _ _ _ _ known_said (fun _ h => by cases h) (by kernel_rfl) (fun _ h => by cases h) wireKnown_row_tie rfl ⟨rfl, rfl⟩ (by kernel_rfl) rfl known_plain (by kernel_rfl)
end Go.Proofs.YtojpeiihkjpeoaaDoor
