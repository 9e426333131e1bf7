/- The law WireKept holds of every request and byte string that come in, of bulk at most 1048576: the bytes that are handed in stay, and what is told lies in new memory. Conditions: the bound on the bulk; and the row's own (the two listed tables of unicode/utf8 as they were laid, the bound on what is read). -/
import Derived.Test.YthjjmndjfoebgaaDoorWKept
import Derived.Test.YthjjmndjfoebgaaDoorCardW
set_option linter.unusedVariables false
set_option linter.unusedSimpArgs false
namespace Go.Proofs.YthjjmndjfoebgaaDoor
open Go.RowKit Go.ChangeShapes Go.ChangeAt Go.Shelf Go.Deep Go.WideShapes

theorem wkept_reading (os : Os) {H : Type} (enc : TypeId × Value → H) : ∃ places, DataW.whole enc Tryd.prog ((laidWorld os).forCall (fun _ _ => 0) ⟨#[], #[.agg zeroQ, .slice none 0 0], []⟩).memory Tryd.f3.params.toList Rows.wireKeptSpec.vars false (#[.agg zeroQ, .slice none 0 0] : Array Value).toList 8 = some ([zeroQD, .nil], [], places) :=
  ⟨[], by kernel_rfl⟩

set_option maxRecDepth 100000 in
set_option maxHeartbeats 1600000 in
theorem wkept_lifted (os : Os) (started : os.Started) (H : Type) (enc : TypeId × Value → H) (F : Stop.Interp) :
    ReturnsInHanded {} Tryd.checked os 3 .any ((Rows.OpenSpec.upto Rows.wireKeptSpec).preRow enc Tryd.prog Tryd.f3 Rows.wireKeptUptoRow.domain false Rows.wireKeptUptoRow.laid) (((Rows.OpenSpec.upto Rows.wireKeptSpec).at F).post enc Tryd.prog Tryd.f3 false true false false) := by
  obtain ⟨places, hx⟩ := wkept_reading os enc
  refine returnsInHanded_of_row (C := Tryd.checked) (s := Rows.OpenSpec.upto Rows.wireKeptSpec) own_ started (by kernel_rfl) Tryd.func3
    (witness_row_atRef (enc := enc) (C := Tryd.checked) false (laidWorld os) #[.agg zeroQ, .slice none 0 0] rfl (by kernel_rfl) (by kernel_rfl) (by kernel_rfl)
      (OpenSpec.preRow_of_cond 8 hx (by kernel_rfl) (fun k hk => by cases hk; kernel_rfl) (by kernel_rfl) (laid_row os _))) ?_
  intro W base args ds gs before hval0 hW _ hcond hsz hL _ _
  have hval : ∀ (j : Nat) t v, Tryd.f3.params[j]? = some t → args[j]? = some v → Value.okWide Tryd.prog W .any base t v := hval0
  have hW' := hW
  obtain ⟨p, q, hA0, hV0, rfl, _, _⟩ := hW
  have hA : DataW.TrodAll enc Tryd.prog W 0 (fun _ => true) true Tryd.f3.params.toList args.toList ds p := hA0
  rw [Tryd.params3] at hA hval
  obtain ⟨v0, v1, d0, d1, p0, p1, rfl, rfl, rfl, h0, h1⟩ := trodAll_two hA
  obtain ⟨rfl, rfl⟩ := trodVars_none hV0
  have hbulk : Rows.uptoBulkAll ([d0, d1] ++ []) ≤ 1048576 := of_decide_eq_true (hcond _ rfl)
  obtain ⟨q0, ck0, cl0, ch0, cx0, rfl, k10, k20, k30, k40, hd0, hqn0, s10, s20, s30, hby0⟩ := open_arg_requestB (hval 0 29 v0 rfl rfl) h0 (fun n hn => by
    have := List.all_eq_true.1 hsz _ (DataW.weights_mem_each (j := 0) (t := 29) (d := d0) (by rw [Tryd.params3]; rfl) rfl n hn)
    simpa using this)
  obtain ⟨A01, len1, cap01, rfl⟩ := okWide_slice under_u8s (hval 1 23 v1 rfl rfl)
  have h1k := h1
  obtain ⟨fuel1, h1f⟩ := h1
  obtain ⟨A1, b1, cap1, hv1, hcap1, hl1, hin1⟩ := open_bytes_le (c := .slice A01 len1 cap01) h1f (fun n hn => by
    have := List.all_eq_true.1 hsz _ (DataW.weights_mem_each (j := 1) (t := 23) (d := d1) (by rw [Tryd.params3]; rfl) rfl n hn)
    simpa using this)
  rw [hv1] at h1k hW' ⊢
  have hbb : ∀ v ∈ q0.vals, v.formed = true → v.bytes.length ≤ 140737488355328 := fun v hv _ => by
    have := hby0 v hv
    simp only [List.cons_append, List.nil_append, Rows.uptoBulkAll] at hbulk
    omega
  have hlt0 : ∀ x ∈ p0, x.block < W.heap.size := fun x hx => by
    have := hW'.lt x (by simp [hx])
    simpa using this
  have hlt1 : ∀ x ∈ p1, x.block < W.heap.size := fun x hx => by
    have := hW'.lt x (by simp [hx])
    simpa using this
  refine (wkept_any q0 ck0 cl0 ch0 cx0 b1 A1 cap1 W (tabs_row hL) k10 k20 k30 k40 hbb hd0 hqn0 s10 s20 s30 hin1 hl1 hcap1).mono ?_
  rintro e W' ⟨rfl, bel⟩
  have e1 : ((Rows.OpenSpec.upto Rows.wireKeptSpec).at F).fn H ([d0, d1] ++ []) = { results := [.lit (.bool true)], args := [d0, d1] } := rfl
  refine ⟨_, rfl, _, _, _, [], p0 ++ p1, [], hW', ?_, ?_, ?_, bel.below.frame _, fun h => by cases h⟩
  · rw [e1]; exact trodAll_mk1 (shut_bool Tryd.underlying4 _)
  · rw [e1]; exact trodAll_mk2 (Below.trod laidOut_ (by kernel_rfl) (of_decide_eq_true (by kernel_rfl)) h0 bel.below hlt0) (Below.trod laidOut_ (by kernel_rfl) (of_decide_eq_true (by kernel_rfl)) h1k bel.below hlt1)
  · rw [e1]; rfl

theorem wkept_said : Rows.WireKeptUptoSaid :=
  OpenClaim.holds_of_cond 3 Tryd.f3 rfl rfl rfl rfl rfl rfl rfl ⟨rfl, rfl, rfl, rfl, rfl⟩ rfl rfl rfl rfl rfl (by kernel_rfl) Tryd.func3 (by kernel_rfl)
    (of_decide_eq_true (by kernel_rfl)) (by unfold Func.isWrapper; first | (rw [if_pos (by decide +kernel)]; kernel_rfl) | (rw [if_neg (by decide +kernel)]; exact ⟨rfl, rfl⟩))
    (fun os started H enc _ F => by rw [OpenClaim.pre_eq_preRow]; exact wkept_lifted os started H enc F)

theorem wkept_plain (f : FuncId) (fn : Func) (hf : Tryd.pinned.checked.prog.funcNamed "muniment/munimentlaw19.WireKept" = some f) (hfn : Tryd.pinned.checked.prog.funcs[f]? = some fn) :
    true = Tryd.pinned.checked.prog.looks [] ∧ ∀ (j : Nat) t, fn.params[j]? = some t → Tryd.pinned.checked.prog.wantsStandIn t = false := by
  obtain rfl : f = 3 := Option.some.inj ((show Tryd.prog.funcNamed "muniment/munimentlaw19.WireKept" = some 3 by kernel_rfl).symm.trans hf) |>.symm
  obtain rfl : fn = Tryd.f3 := (Option.some.inj (Tryd.func3.symm.trans hfn)).symm
  refine ⟨by kernel_rfl, fun j t ht => ?_⟩
  rw [Tryd.params3] at ht
  have hm := Array.mem_of_getElem? ht
  have : t = 29 ∨ t = 23 := by simpa using hm
  rcases this with rfl | rfl
  · exact (show Tryd.prog.wantsStandIn 29 = false by kernel_rfl)
  · exact (show Tryd.prog.wantsStandIn 23 = false by kernel_rfl)

/-- The tied card of WireKept. -/
theorem wkept_card : Rows.WireKeptUptoCardSaid :=
  Claim7.holds_tied_plain_at .later [] _ _ _ _ wkept_said (fun _ h => by cases h) (by kernel_rfl) (fun _ h => by cases h) wireKeptUpto_row_tie rfl ⟨rfl, rfl⟩ (by kernel_rfl) rfl wkept_plain (by kernel_rfl)
end Go.Proofs.YthjjmndjfoebgaaDoor
