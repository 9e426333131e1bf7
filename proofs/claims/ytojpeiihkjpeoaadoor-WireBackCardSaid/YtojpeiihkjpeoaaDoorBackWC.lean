/- The law WireBack holds of every request, byte string and two numbers that come in: a request's frame, whatever stands behind it, is read as that request; a beginning of it wants more; with one bit turned it is never another request. Conditions: the row's own (the two listed tables of unicode/utf8 as they were laid, the bound on what is read). Written by wip/tools/gen_backwc.py. -/
import Derived.Test.YtojpeiihkjpeoaaDoorBackW
import Derived.Test.YtojpeiihkjpeoaaDoorCardW
set_option linter.unusedVariables false
set_option linter.unusedSimpArgs false
namespace Go.Proofs.YtojpeiihkjpeoaaDoor
open Go.RowKit Go.ChangeShapes Go.ChangeAt Go.Shelf Go.Deep Go.WideShapes

theorem wback_reading (os : Os) {H : Type} (enc : TypeId × Value → H) : ∃ places, DataW.whole enc Tryd.prog ((laidWorld os).forCall (fun _ _ => 0) ⟨#[], #[.agg zeroQ, .slice none 0 0, .int .i64 0, .int .i64 0], []⟩).memory Tryd.f8.params.toList Rows.wireBackSpec.vars false (#[.agg zeroQ, .slice none 0 0, .int .i64 0, .int .i64 0] : Array Value).toList 8 = some ([zeroQD, .nil, .lit (.int .i64 0), .lit (.int .i64 0)], [], places) :=
  ⟨[], by kernel_rfl⟩

set_option maxRecDepth 100000 in
set_option maxHeartbeats 1600000 in
theorem wback_lifted (os : Os) (started : os.Started) (H : Type) (enc : TypeId × Value → H) (F : Stop.Interp) :
    ReturnsInHanded {} Tryd.checked os 8 .any ((OpenSpec.ofChange Rows.wireBackSpec).preRow enc Tryd.prog Tryd.f8 Rows.wireBackRow.domain false Rows.wireBackRow.laid) (((OpenSpec.ofChange Rows.wireBackSpec).at F).post enc Tryd.prog Tryd.f8 false true false false) := by
  obtain ⟨places, hx⟩ := wback_reading os enc
  refine returnsInHanded_of_row (C := Tryd.checked) (s := OpenSpec.ofChange Rows.wireBackSpec) own_ started (by kernel_rfl) Tryd.func8
    (witness_row_atRef (enc := enc) (C := Tryd.checked) false (laidWorld os) #[.agg zeroQ, .slice none 0 0, .int .i64 0, .int .i64 0] rfl (by kernel_rfl) (by kernel_rfl) (by kernel_rfl)
      (OpenSpec.preRow_of_cond 8 hx (by kernel_rfl) (fun k hk => by cases hk) (by kernel_rfl) (laid_row os _))) ?_
  intro W base args ds gs before hval0 hW _ _ hsz hL _ _
  have hval : ∀ (j : Nat) t v, Tryd.f8.params[j]? = some t → args[j]? = some v → Value.okWide Tryd.prog W .any base t v := hval0
  have hW' := hW
  obtain ⟨p, q, hA0, hV0, rfl, _, _⟩ := hW
  have hA : DataW.TrodAll enc Tryd.prog W 0 (fun _ => true) true Tryd.f8.params.toList args.toList ds p := hA0
  rw [Tryd.params8] at hA hval
  obtain ⟨v0, v1, v2, v3, d0, d1, d2, d3, p0, p1, p2, p3, rfl, rfl, rfl, h0, h1, h2, h3⟩ := trodAll_four hA
  obtain ⟨rfl, rfl⟩ := trodVars_none hV0
  obtain ⟨q0, ck0, cl0, ch0, cx0, rfl, k10, k20, k30, k40, hd0, hqn0, s10, s20, s30⟩ := open_arg_request (hval 0 49 v0 rfl rfl) h0 (fun n hn => by
    have := List.all_eq_true.1 hsz _ (DataW.weights_mem_each (j := 0) (t := 49) (d := d0) (by rw [Tryd.params8]; rfl) rfl n hn)
    simpa using this)
  obtain ⟨A01, len1, cap01, rfl⟩ := okWide_slice under_u8s (hval 1 26 v1 rfl rfl)
  have h1k := h1
  obtain ⟨fuel1, h1f⟩ := h1
  obtain ⟨A1, b1, cap1, hv1, hcap1, hl1, hin1⟩ := open_bytes_le (c := .slice A01 len1 cap01) h1f (fun n hn => by
    have := List.all_eq_true.1 hsz _ (DataW.weights_mem_each (j := 1) (t := 26) (d := d1) (by rw [Tryd.params8]; rfl) rfl n hn)
    simpa using this)
  have h2k := h2
  obtain ⟨n2, rfl, -, -, wf2⟩ := open_int under_int (hval 2 3 v2 rfl rfl) h2
  have hn2 : -9223372036854775808 ≤ n2 ∧ n2 ≤ 9223372036854775807 := wf_range wf2
  have h3k := h3
  obtain ⟨n3, rfl, -, -, wf3⟩ := open_int under_int (hval 3 3 v3 rfl rfl) h3
  have hn3 : -9223372036854775808 ≤ n3 ∧ n3 ≤ 9223372036854775807 := wf_range wf3
  rw [hv1] at h1k hW' ⊢
  have hlt0 : ∀ x ∈ p0, x.block < W.heap.size := fun x hx => by
    have := hW'.lt x (by simp [hx])
    simpa using this
  have hlt1 : ∀ x ∈ p1, x.block < W.heap.size := fun x hx => by
    have := hW'.lt x (by simp [hx])
    simpa using this
  have hlt2 : ∀ x ∈ p2, x.block < W.heap.size := fun x hx => by
    have := hW'.lt x (by simp [hx])
    simpa using this
  have hlt3 : ∀ x ∈ p3, x.block < W.heap.size := fun x hx => by
    have := hW'.lt x (by simp [hx])
    simpa using this
  refine (wback_any q0 ck0 cl0 ch0 cx0 b1 A1 cap1 n2 n3 W (tabs_row hL) k10 k20 k30 k40 hd0 hqn0 s10 s20 s30 hin1 hl1 hcap1 hn2 hn3).mono ?_
  rintro e W' ⟨rfl, bel⟩
  have e1 : ((OpenSpec.ofChange Rows.wireBackSpec).at F).fn H ([d0, d1, d2, d3] ++ []) = { results := [.lit (.bool true)], args := [d0, d1, d2, d3] } := rfl
  refine ⟨_, rfl, _, _, _, [], p0 ++ (p1 ++ (p2 ++ p3)), [], hW', ?_, ?_, ?_, bel.below.frame _, fun h => by cases h⟩
  · rw [e1]; exact trodAll_mk1 (shut_bool Tryd.underlying4 _)
  · rw [e1]; exact trodAll_mk4 (Below.trod laidOut_ (by kernel_rfl) (of_decide_eq_true (by kernel_rfl)) h0 bel.below hlt0) (Below.trod laidOut_ (by kernel_rfl) (of_decide_eq_true (by kernel_rfl)) h1k bel.below hlt1) (Below.trod laidOut_ (by kernel_rfl) (of_decide_eq_true (by kernel_rfl)) h2 bel.below hlt2) (Below.trod laidOut_ (by kernel_rfl) (of_decide_eq_true (by kernel_rfl)) h3 bel.below hlt3)
  · rw [e1]; rfl

theorem wback_said : Rows.WireBackSaid :=
  OpenClaim.holds_of_cond 8 Tryd.f8 rfl rfl rfl rfl rfl rfl rfl ⟨rfl, rfl, rfl, rfl, rfl⟩ rfl rfl rfl rfl rfl (by kernel_rfl) Tryd.func8 (by kernel_rfl)
    (of_decide_eq_true (by kernel_rfl)) (by unfold Func.isWrapper; first | (rw [if_pos (by decide +kernel)]; kernel_rfl) | (rw [if_neg (by decide +kernel)]; exact ⟨rfl, rfl⟩))
    (fun os started H enc _ F => by rw [OpenClaim.pre_eq_preRow]; exact wback_lifted os started H enc F)

theorem wback_plain (f : FuncId) (fn : Func) (hf : Tryd.pinned.checked.prog.funcNamed "muniment/munimentlaw19.WireBack" = some f) (hfn : Tryd.pinned.checked.prog.funcs[f]? = some fn) :
    true = Tryd.pinned.checked.prog.looks [] ∧ ∀ (j : Nat) t, fn.params[j]? = some t → Tryd.pinned.checked.prog.wantsStandIn t = false := by
  obtain rfl : f = 8 := Option.some.inj ((show Tryd.prog.funcNamed "muniment/munimentlaw19.WireBack" = some 8 by kernel_rfl).symm.trans hf) |>.symm
  obtain rfl : fn = Tryd.f8 := (Option.some.inj (Tryd.func8.symm.trans hfn)).symm
  refine ⟨by kernel_rfl, fun j t ht => ?_⟩
  rw [Tryd.params8] at ht
  have hm := Array.mem_of_getElem? ht
  have : t = 49 ∨ t = 26 ∨ t = 3 := by simpa using hm
  rcases this with rfl | rfl | rfl
  · exact (show Tryd.prog.wantsStandIn 49 = false by kernel_rfl)
  · exact (show Tryd.prog.wantsStandIn 26 = false by kernel_rfl)
  · exact (show Tryd.prog.wantsStandIn 3 = false by kernel_rfl)

/-- The tied card of WireBack. -/
theorem wback_card : Rows.WireBackCardSaid :=
  Claim7.holds_tied_plain_at .later [] _ _ _ _ wback_said (fun _ h => by cases h) (by kernel_rfl) (fun _ h => by cases h) wireBack_row_tie rfl ⟨rfl, rfl⟩ (by kernel_rfl) rfl wback_plain (by kernel_rfl)
end Go.Proofs.YtojpeiihkjpeoaaDoor
