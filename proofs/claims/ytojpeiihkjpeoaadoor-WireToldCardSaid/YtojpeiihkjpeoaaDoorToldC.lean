/- The law WireTold holds of every reply, request and byte string that come in: a reply's frame, whatever stands behind it, is read as that reply, and a request's frame is as long as its parts make it. Conditions: the row's own (the two listed tables of unicode/utf8 as they were laid, the bound on what is read). Written by wip/tools/gen_toldc.py. -/
import Derived.Test.YtojpeiihkjpeoaaDoorTold
import Derived.Test.YtojpeiihkjpeoaaDoorCardW
set_option linter.unusedVariables false
set_option linter.unusedSimpArgs false
namespace Go.Proofs.YtojpeiihkjpeoaaDoor
open Go.RowKit Go.ChangeShapes Go.ChangeAt Go.Shelf Go.Deep Go.WideShapes

theorem told_reading (os : Os) {H : Type} (enc : TypeId × Value → H) : ∃ places, DataW.whole enc Tryd.prog ((laidWorld os).forCall (fun _ _ => 0) ⟨#[], #[.agg zeroP, .agg zeroQ, .slice none 0 0], []⟩).memory Tryd.f6.params.toList Rows.wireToldSpec.vars false (#[.agg zeroP, .agg zeroQ, .slice none 0 0] : Array Value).toList 8 = some ([zeroPD, zeroQD, .nil], [], places) :=
  ⟨[], by kernel_rfl⟩

set_option maxRecDepth 100000 in
set_option maxHeartbeats 1600000 in
theorem told_lifted (os : Os) (started : os.Started) (H : Type) (enc : TypeId × Value → H) (F : Stop.Interp) :
    ReturnsInHanded {} Tryd.checked os 6 .any ((OpenSpec.ofChange Rows.wireToldSpec).preRow enc Tryd.prog Tryd.f6 Rows.wireToldRow.domain false Rows.wireToldRow.laid) (((OpenSpec.ofChange Rows.wireToldSpec).at F).post enc Tryd.prog Tryd.f6 false true false false) := by
  obtain ⟨places, hx⟩ := told_reading os enc
  refine returnsInHanded_of_row (C := Tryd.checked) (s := OpenSpec.ofChange Rows.wireToldSpec) own_ started (by kernel_rfl) Tryd.func6
    (witness_row_atRef (enc := enc) (C := Tryd.checked) false (laidWorld os) #[.agg zeroP, .agg zeroQ, .slice none 0 0] rfl (by kernel_rfl) (by kernel_rfl) (by kernel_rfl)
      (OpenSpec.preRow_of_cond 8 hx (by kernel_rfl) (fun k hk => by cases hk) (by kernel_rfl) (laid_row os _))) ?_
  intro W base args ds gs before hval0 hW _ _ hsz hL _ _
  have hval : ∀ (j : Nat) t v, Tryd.f6.params[j]? = some t → args[j]? = some v → Value.okWide Tryd.prog W .any base t v := hval0
  have hW' := hW
  obtain ⟨p, q, hA0, hV0, rfl, _, _⟩ := hW
  have hA : DataW.TrodAll enc Tryd.prog W 0 (fun _ => true) true Tryd.f6.params.toList args.toList ds p := hA0
  rw [Tryd.params6] at hA hval
  obtain ⟨v0, v1, v2, d0, d1, d2, p0, p1, p2, rfl, rfl, rfl, h0, h1, h2⟩ := trodAll_three hA
  obtain ⟨rfl, rfl⟩ := trodVars_none hV0
  obtain ⟨r0, A0, cap0, rfl, hin0, he0, hn0, hk0⟩ := open_arg_reply (hval 0 25 v0 rfl rfl) h0 (fun n hn => by
    have := List.all_eq_true.1 hsz _ (DataW.weights_mem_each (j := 0) (t := 25) (d := d0) (by rw [Tryd.params6]; rfl) rfl n hn)
    simpa using this)
  obtain ⟨q1, ck1, cl1, ch1, cx1, rfl, k11, k21, k31, k41, hd1, hqn1, s11, s21, s31⟩ := open_arg_request (hval 1 49 v1 rfl rfl) h1 (fun n hn => by
    have := List.all_eq_true.1 hsz _ (DataW.weights_mem_each (j := 1) (t := 49) (d := d1) (by rw [Tryd.params6]; rfl) rfl n hn)
    simpa using this)
  obtain ⟨A02, len2, cap02, rfl⟩ := okWide_slice under_u8s (hval 2 26 v2 rfl rfl)
  have h2k := h2
  obtain ⟨fuel2, h2f⟩ := h2
  obtain ⟨A2, b2, cap2, hv2, hcap2, hl2, hin2⟩ := open_bytes_le (c := .slice A02 len2 cap02) h2f (fun n hn => by
    have := List.all_eq_true.1 hsz _ (DataW.weights_mem_each (j := 2) (t := 26) (d := d2) (by rw [Tryd.params6]; rfl) rfl n hn)
    simpa using this)
  rw [hv2] at h2k hW' ⊢
  have hlt0 : ∀ x ∈ p0, x.block < W.heap.size := fun x hx => by
    have := hW'.lt x (by simp [hx])
    simpa using this
  have hlt1 : ∀ x ∈ p1, x.block < W.heap.size := fun x hx => by
    have := hW'.lt x (by simp [hx])
    simpa using this
  have hlt2 : ∀ x ∈ p2, x.block < W.heap.size := fun x hx => by
    have := hW'.lt x (by simp [hx])
    simpa using this
  refine (told_any r0 A0 cap0 q1 ck1 cl1 ch1 cx1 b2 A2 cap2 W (tabs_row hL) hin0 he0 hn0 hk0 k11 k21 k31 k41 hd1 hqn1 s11 s21 s31 hin2 hl2 hcap2).mono ?_
  rintro e W' ⟨rfl, bel⟩
  have e1 : ((OpenSpec.ofChange Rows.wireToldSpec).at F).fn H ([d0, d1, d2] ++ []) = { results := [.lit (.bool true)], args := [d0, d1, d2] } := rfl
  refine ⟨_, rfl, _, _, _, [], p0 ++ (p1 ++ p2), [], hW', ?_, ?_, ?_, bel.below.frame _, fun h => by cases h⟩
  · rw [e1]; exact trodAll_mk1 (shut_bool Tryd.underlying4 _)
  · rw [e1]; exact trodAll_mk3 (Below.trod laidOut_ (by kernel_rfl) (of_decide_eq_true (by kernel_rfl)) h0 bel.below hlt0) (Below.trod laidOut_ (by kernel_rfl) (of_decide_eq_true (by kernel_rfl)) h1 bel.below hlt1) (Below.trod laidOut_ (by kernel_rfl) (of_decide_eq_true (by kernel_rfl)) h2k bel.below hlt2)
  · rw [e1]; rfl

theorem told_said : Rows.WireToldSaid :=
  OpenClaim.holds_of_cond 6 Tryd.f6 rfl rfl rfl rfl rfl rfl rfl ⟨rfl, rfl, rfl, rfl, rfl⟩ rfl rfl rfl rfl rfl (by kernel_rfl) Tryd.func6 (by kernel_rfl)
    (of_decide_eq_true (by kernel_rfl)) (by unfold Func.isWrapper; first | (rw [if_pos (by decide +kernel)]; kernel_rfl) | (rw [if_neg (by decide +kernel)]; exact ⟨rfl, rfl⟩))
    (fun os started H enc _ F => by rw [OpenClaim.pre_eq_preRow]; exact told_lifted os started H enc F)

theorem told_plain (f : FuncId) (fn : Func) (hf : Tryd.pinned.checked.prog.funcNamed "muniment/munimentlaw19.WireTold" = some f) (hfn : Tryd.pinned.checked.prog.funcs[f]? = some fn) :
    true = Tryd.pinned.checked.prog.looks [] ∧ ∀ (j : Nat) t, fn.params[j]? = some t → Tryd.pinned.checked.prog.wantsStandIn t = false := by
  obtain rfl : f = 6 := Option.some.inj ((show Tryd.prog.funcNamed "muniment/munimentlaw19.WireTold" = some 6 by kernel_rfl).symm.trans hf) |>.symm
  obtain rfl : fn = Tryd.f6 := (Option.some.inj (Tryd.func6.symm.trans hfn)).symm
  refine ⟨by kernel_rfl, fun j t ht => ?_⟩
  rw [Tryd.params6] at ht
  have hm := Array.mem_of_getElem? ht
  have : t = 25 ∨ t = 49 ∨ t = 26 := by simpa using hm
  rcases this with rfl | rfl | rfl
  · exact (show Tryd.prog.wantsStandIn 25 = false by kernel_rfl)
  · exact (show Tryd.prog.wantsStandIn 49 = false by kernel_rfl)
  · exact (show Tryd.prog.wantsStandIn 26 = false by kernel_rfl)

/-- The tied card of WireTold. -/
theorem told_card : Rows.WireToldCardSaid :=
  Claim7.holds_tied_plain_at .later [] _ _ _ _ told_said (fun _ h => by cases h) (by kernel_rfl) (fun _ h => by cases h) wireTold_row_tie rfl ⟨rfl, rfl⟩ (by kernel_rfl) rfl told_plain (by kernel_rfl)
end Go.Proofs.YtojpeiihkjpeoaaDoor
