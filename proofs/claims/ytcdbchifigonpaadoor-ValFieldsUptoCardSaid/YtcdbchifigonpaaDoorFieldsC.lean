/- The law ValFields holds of any values, name and path of bulk at most 1048576 (each value and letter counted each time that it is reached): what With puts Path finds; other fields stay; a path goes step by step. Conditions: the bound on the bulk; and the row's own (the listed tables read as their initialisers lay them; the card ties them to the program's text). -/
import Derived.Test.YtcdbchifigonpaaDoorFields
import Derived.Test.YtcdbchifigonpaaDoorStrB
set_option linter.unusedVariables false
set_option linter.unusedSimpArgs false
namespace Go.Proofs.YtcdbchifigonpaaDoor
open Go.RowKit Go.ChangeShapes Go.ChangeAt Go.Shelf Go.WideShapes Go.Deep

theorem fields_reading (os : Os) {H : Type} (enc : TypeId × Value → H) : ∃ places, DataW.whole enc Tryd.prog ((laidWorld os).forCall (fun _ _ => 0) ⟨#[], #[Cv.zero.agg, .string ⟨#[]⟩, Cv.zero.agg, .string ⟨#[]⟩], []⟩).memory Tryd.f5.params.toList Rows.valFieldsSpec.vars false (#[Cv.zero.agg, .string ⟨#[]⟩, Cv.zero.agg, .string ⟨#[]⟩] : Array Value).toList 8 = some ([zeroD, .lit (.string []), zeroD, .lit (.string [])], [], places) :=
  ⟨[], by kernel_rfl⟩

set_option maxRecDepth 100000 in
set_option maxHeartbeats 1600000 in
theorem fields_lifted (os : Os) (started : os.Started) (H : Type) (enc : TypeId × Value → H) (F : Stop.Interp) :
    ReturnsInHanded {} Tryd.checked os 5 .any ((Rows.OpenSpec.upto Rows.valFieldsSpec).preRow enc Tryd.prog Tryd.f5 Rows.valFieldsUptoRow.domain false Rows.valFieldsUptoRow.laid) (((Rows.OpenSpec.upto Rows.valFieldsSpec).at F).post enc Tryd.prog Tryd.f5 false true false false) := by
  obtain ⟨places, hx⟩ := fields_reading os enc
  refine returnsInHanded_of_row (C := Tryd.checked) (s := Rows.OpenSpec.upto Rows.valFieldsSpec) own_ started (by kernel_rfl) Tryd.func5
    (witness_row_atRef (enc := enc) (C := Tryd.checked) false (laidWorld os) #[Cv.zero.agg, .string ⟨#[]⟩, Cv.zero.agg, .string ⟨#[]⟩] rfl (by kernel_rfl) (by kernel_rfl) (by kernel_rfl)
      (OpenSpec.preRow_of_cond 8 hx (by kernel_rfl) (fun k hk => by cases hk; kernel_rfl) (by kernel_rfl) (laid_row os _))) ?_
  intro W base args ds gs before hval0 hW _ hcond hsz hL hsh _
  have hval : ∀ (j : Nat) t v, Tryd.f5.params[j]? = some t → args[j]? = some v → Value.okWide Tryd.prog W .any base t v := hval0
  have hW' := hW
  obtain ⟨p, q, hA0, hV0, rfl, _, _⟩ := hW
  have hA : DataW.TrodAll enc Tryd.prog W 0 (fun _ => true) true Tryd.f5.params.toList args.toList ds p := hA0
  rw [Tryd.params5] at hA hval
  obtain ⟨v0, v1, v2, v3, d0, d1, d2, d3, p0, p1, p2, p3, rfl, rfl, rfl, h0, h1, h2, h3⟩ := trodAll_four hA
  obtain ⟨rfl, rfl⟩ := trodVars_none hV0
  have hbulk : Rows.uptoBulkAll ([d0, d1, d2, d3] ++ []) ≤ 1048576 := of_decide_eq_true (hcond _ rfl)
  obtain ⟨x0, c0, rfl, hin0, hvb0⟩ := open_argB (hval 0 37 v0 rfl rfl) h0 (fun n hn => by
    have := List.all_eq_true.1 hsz _ (DataW.weights_mem_each (j := 0) (t := 37) (d := d0) (by rw [Tryd.params5]; rfl) rfl n hn)
    simpa using this)
  obtain ⟨s1, rfl, hsb1⟩ := open_strB (hval 1 9 v1 rfl rfl) h1
  obtain ⟨x2, c2, rfl, hin2, hvb2⟩ := open_argB (hval 2 37 v2 rfl rfl) h2 (fun n hn => by
    have := List.all_eq_true.1 hsz _ (DataW.weights_mem_each (j := 2) (t := 37) (d := d2) (by rw [Tryd.params5]; rfl) rfl n hn)
    simpa using this)
  obtain ⟨s3, rfl, hsb3⟩ := open_strB (hval 3 9 v3 rfl rfl) h3
  have hss1 : s1.size ≤ 1048576 := by
    simp only [List.append_nil, Rows.uptoBulkAll] at hbulk
    omega
  have hss3 : s3.size ≤ 1048576 := by
    simp only [List.append_nil, Rows.uptoBulkAll] at hbulk
    omega
  have hM : Len1 W := laysSplit_len W hsh
  have hlt0 : ∀ x ∈ p0, x.block < W.heap.size := fun x hx => by
    have := hW'.lt x (by simp [hx])
    simpa using this
  have hlt1 : ∀ x ∈ p1, x.block < W.heap.size := fun x hx => by
    have := hW'.lt x (by simp [hx])
    simpa using this
  have hlt2 : ∀ x ∈ p2, x.block < W.heap.size := fun x hx => by
    have := hW'.lt x (by simp [hx])
    simpa using this
  have hlt3 : ∀ x ∈ p3, x.block < W.heap.size := fun x hx => by
    have := hW'.lt x (by simp [hx])
    simpa using this
  refine (fields_any x0 x2 s1 s3 c0 c2 W (tabs_row hL) hM (by omega) (by omega) hin0 hin2).mono ?_
  rintro e W' ⟨rfl, bel⟩
  have e1 : ((Rows.OpenSpec.upto Rows.valFieldsSpec).at F).fn H ([d0, d1, d2, d3] ++ []) = { results := [.lit (.bool true)], args := [d0, d1, d2, d3] } := rfl
  refine ⟨_, rfl, _, _, _, [], p0 ++ (p1 ++ (p2 ++ p3)), [], hW', ?_, ?_, ?_, bel.below.frame _, fun h => by cases h⟩
  · rw [e1]; exact trodAll_mk1 (shut_bool Tryd.underlying4 _)
  · rw [e1]; exact trodAll_mk4 (Below.trod laidOut_ (by kernel_rfl) (of_decide_eq_true (by kernel_rfl)) h0 bel.below hlt0) (Below.trod laidOut_ (by kernel_rfl) (of_decide_eq_true (by kernel_rfl)) h1 bel.below hlt1) (Below.trod laidOut_ (by kernel_rfl) (of_decide_eq_true (by kernel_rfl)) h2 bel.below hlt2) (Below.trod laidOut_ (by kernel_rfl) (of_decide_eq_true (by kernel_rfl)) h3 bel.below hlt3)
  · rw [e1]; rfl

theorem fields_said : Rows.ValFieldsUptoSaid :=
  OpenClaim.holds_of_cond 5 Tryd.f5 rfl rfl rfl rfl rfl rfl rfl ⟨rfl, rfl, rfl, rfl, rfl⟩ rfl rfl rfl rfl rfl (by kernel_rfl) Tryd.func5 (by kernel_rfl)
    (of_decide_eq_true (by kernel_rfl)) (by unfold Func.isWrapper; first | (rw [if_pos (by decide +kernel)]; kernel_rfl) | (rw [if_neg (by decide +kernel)]; exact ⟨rfl, rfl⟩))
    (fun os started H enc _ F => by rw [OpenClaim.pre_eq_preRow]; exact fields_lifted os started H enc F)

theorem fields_plain (f : FuncId) (fn : Func) (hf : Tryd.pinned.checked.prog.funcNamed "muniment/munimentlaw2.ValFields" = some f) (hfn : Tryd.pinned.checked.prog.funcs[f]? = some fn) :
    true = Tryd.pinned.checked.prog.looks [] ∧ ∀ (j : Nat) t, fn.params[j]? = some t → Tryd.pinned.checked.prog.wantsStandIn t = false := by
  obtain rfl : f = 5 := Option.some.inj ((show Tryd.prog.funcNamed "muniment/munimentlaw2.ValFields" = some 5 by kernel_rfl).symm.trans hf) |>.symm
  obtain rfl : fn = Tryd.f5 := (Option.some.inj (Tryd.func5.symm.trans hfn)).symm
  refine ⟨by kernel_rfl, fun j t ht => ?_⟩
  rw [Tryd.params5] at ht
  have hm := Array.mem_of_getElem? ht
  have : t = 37 ∨ t = 9 ∨ t = 37 ∨ t = 9 := by simpa using hm
  rcases this with rfl | rfl | rfl | rfl
  · exact (show Tryd.prog.wantsStandIn 37 = false by kernel_rfl)
  · exact (show Tryd.prog.wantsStandIn 9 = false by kernel_rfl)
  · exact (show Tryd.prog.wantsStandIn 37 = false by kernel_rfl)
  · exact (show Tryd.prog.wantsStandIn 9 = false by kernel_rfl)

/-- The tied card of ValFields. -/
theorem fields_card : Rows.ValFieldsUptoCardSaid :=
  Claim7.holds_tied_plain_at .later [] _ _ _ _ fields_said (fun _ h => by cases h) (by kernel_rfl) (fun _ h => by cases h) valFieldsUpto_row_tie rfl ⟨rfl, rfl⟩ (by kernel_rfl) rfl fields_plain (by kernel_rfl)
end Go.Proofs.YtcdbchifigonpaaDoor
