/- The law ValDeep holds of every two numbers that come in: values so deep, so long, of so many parts are good or refused as the limits say, by Good and by Get alike. Conditions: the row's own (the two listed tables of unicode/utf8 read as their initialisers lay them; the card ties them to the program's text). -/
import Derived.Test.YtkgjfkpabdlgbaaDoorDeep
import Derived.Test.YtkgjfkpabdlgbaaDoorReads
import Derived.Test.YtkgjfkpabdlgbaaDoorOpenV
set_option linter.unusedVariables false
set_option linter.unusedSimpArgs false
namespace Go.Proofs.YtkgjfkpabdlgbaaDoor
open Go.RowKit Go.ChangeShapes Go.ChangeAt Go.Shelf Go.WideShapes

theorem deep_reading (os : Os) {H : Type} (enc : TypeId × Value → H) : ∃ places, DataW.whole enc Tryd.prog ((laidWorld os).forCall (fun _ _ => 0) ⟨#[], #[.int .i64 0, .int .i64 0], []⟩).memory Tryd.f6.params.toList Rows.valDeepSpec.vars false #[Value.int .i64 0, Value.int .i64 0].toList 8 = some ([.lit (.int .i64 0), .lit (.int .i64 0)], [], places) :=
  ⟨[], by kernel_rfl⟩

set_option maxRecDepth 100000 in
set_option maxHeartbeats 1600000 in
theorem deep_lifted (os : Os) (started : os.Started) (H : Type) (enc : TypeId × Value → H) (F : Stop.Interp) :
    ReturnsInHanded {} Tryd.checked os 6 .any ((OpenSpec.ofChange Rows.valDeepSpec).preRow enc Tryd.prog Tryd.f6 Rows.valDeepRow.domain false Rows.valDeepRow.laid) (((OpenSpec.ofChange Rows.valDeepSpec).at F).post enc Tryd.prog Tryd.f6 false true false false) := by
  obtain ⟨places, hx⟩ := deep_reading os enc
  refine returnsInHanded_of_row (C := Tryd.checked) (s := OpenSpec.ofChange Rows.valDeepSpec) own_ started (by kernel_rfl) Tryd.func6
    (witness_row_atRef (enc := enc) (C := Tryd.checked) false (laidWorld os) #[.int .i64 0, .int .i64 0] rfl (by kernel_rfl) (by kernel_rfl) (by kernel_rfl)
      (OpenSpec.preRow_of_cond 8 hx (by kernel_rfl) (fun k hk => by cases hk) (by kernel_rfl) (laid_row os _))) ?_
  intro W base args ds gs before hval0 hW _ _ hsz hL _ _
  have hval : ∀ (j : Nat) t v, Tryd.f6.params[j]? = some t → args[j]? = some v → Value.okWide Tryd.prog W .any base t v := hval0
  have hW' := hW
  obtain ⟨p, q, hA0, hV0, rfl, _, _⟩ := hW
  have hA : DataW.TrodAll enc Tryd.prog W 0 (fun _ => true) true Tryd.f6.params.toList args.toList ds p := hA0
  rw [Tryd.params6] at hA hval
  obtain ⟨v0, v1, d0, d1, p0, p1, rfl, rfl, rfl, h0, h1⟩ := trodAll_two hA
  obtain ⟨rfl, rfl⟩ := trodVars_none hV0
  have h0k := h0
  have h1k := h1
  obtain ⟨n0, rfl, -, -, -⟩ := open_int under_int (hval 0 3 v0 rfl rfl) h0
  obtain ⟨n1, rfl, -, -, -⟩ := open_int under_int (hval 1 3 v1 rfl rfl) h1
  have hlt0 : ∀ x ∈ p0, x.block < W.heap.size := fun x hx => by
    have := hW'.lt x (by simp [hx])
    simpa using this
  have hlt1 : ∀ x ∈ p1, x.block < W.heap.size := fun x hx => by
    have := hW'.lt x (by simp [hx])
    simpa using this
  refine (deep_any n0 n1 W (tabs_row hL)).mono ?_
  rintro e W' ⟨rfl, bel⟩
  have e1 : ((OpenSpec.ofChange Rows.valDeepSpec).at F).fn H ([d0, d1] ++ []) = { results := [.lit (.bool true)], args := [d0, d1] } := rfl
  refine ⟨_, rfl, _, _, _, [], p0 ++ p1, [], hW', ?_, ?_, ?_, bel.below.frame _, fun h => by cases h⟩
  · rw [e1]; exact trodAll_mk1 (shut_bool Tryd.underlying4 _)
  · rw [e1]; exact trodAll_mk2 (Below.trod laidOut_ (by kernel_rfl) (of_decide_eq_true (by kernel_rfl)) h0k bel.below hlt0) (Below.trod laidOut_ (by kernel_rfl) (of_decide_eq_true (by kernel_rfl)) h1k bel.below hlt1)
  · rw [e1]; rfl

theorem deep_said : Rows.ValDeepSaid :=
  OpenClaim.holds_of_cond 6 Tryd.f6 rfl rfl rfl rfl rfl rfl rfl ⟨rfl, rfl, rfl, rfl, rfl⟩ rfl rfl rfl rfl rfl (by kernel_rfl) Tryd.func6 (by kernel_rfl)
    (of_decide_eq_true (by kernel_rfl)) (by unfold Func.isWrapper; first | (rw [if_pos (by decide +kernel)]; kernel_rfl) | (rw [if_neg (by decide +kernel)]; exact ⟨rfl, rfl⟩))
    (fun os started H enc _ F => by rw [OpenClaim.pre_eq_preRow]; exact deep_lifted os started H enc F)

theorem deep_plain (f : FuncId) (fn : Func) (hf : Tryd.pinned.checked.prog.funcNamed "muniment/munimentlaw2.ValDeep" = some f) (hfn : Tryd.pinned.checked.prog.funcs[f]? = some fn) :
    true = Tryd.pinned.checked.prog.looks [] ∧ ∀ (j : Nat) t, fn.params[j]? = some t → Tryd.pinned.checked.prog.wantsStandIn t = false := by
  obtain rfl : f = 6 := Option.some.inj ((show Tryd.prog.funcNamed "muniment/munimentlaw2.ValDeep" = some 6 by kernel_rfl).symm.trans hf) |>.symm
  obtain rfl : fn = Tryd.f6 := (Option.some.inj (Tryd.func6.symm.trans hfn)).symm
  refine ⟨by kernel_rfl, fun j t ht => ?_⟩
  rw [Tryd.params6] at ht
  obtain rfl : t = 3 := by simpa using Array.mem_of_getElem? ht
  exact (show Tryd.prog.wantsStandIn 3 = false by kernel_rfl)

/-- The tied card of ValDeep. -/
theorem deep_card : Rows.ValDeepCardSaid :=
  Claim7.holds_tied_plain_at .later [] _ _ _ _ deep_said (fun _ h => by cases h) (by kernel_rfl) (fun _ h => by cases h) valDeep_row_tie rfl ⟨rfl, rfl⟩ (by kernel_rfl) rfl deep_plain (by kernel_rfl)
end Go.Proofs.YtkgjfkpabdlgbaaDoor
