/- The law KeyKept holds of every value and of any bytes of bulk at most 1048576 (each value and letter counted each time that it is reached): values and bytes that are handed in stay; what is told is new memory. Conditions: the bound on the bulk; and the row's own (the two listed tables of unicode/utf8 read as their initialisers lay them; the card ties them to the program's text). -/
import Derived.Test.YtpjhhkndfmcaoaaDoorKeyKe
import Derived.Test.YtpjhhkndfmcaoaaDoorBulkV
set_option linter.unusedVariables false
set_option linter.unusedSimpArgs false
namespace Go.Proofs.YtpjhhkndfmcaoaaDoor
open Go.RowKit Go.ChangeShapes Go.ChangeAt Go.Shelf Go.WideShapes Go.Deep

theorem kkept_reading (os : Os) {H : Type} (enc : TypeId × Value → H) : ∃ places, DataW.whole enc Tryd.prog ((laidWorld os).forCall (fun _ _ => 0) ⟨#[], #[Cv.zero.agg, .slice none 0 0], []⟩).memory Tryd.f5.params.toList Rows.keyKeptSpec.vars false (#[Cv.zero.agg, .slice none 0 0] : Array Value).toList 8 = some ([zeroD, .nil], [], places) :=
  ⟨[], by kernel_rfl⟩

set_option maxRecDepth 100000 in
set_option maxHeartbeats 1600000 in
theorem kkept_lifted (os : Os) (started : os.Started) (H : Type) (enc : TypeId × Value → H) (F : Stop.Interp) :
    ReturnsInHanded {} Tryd.checked os 5 .any ((Rows.OpenSpec.upto Rows.keyKeptSpec).preRow enc Tryd.prog Tryd.f5 Rows.keyKeptUptoRow.domain false Rows.keyKeptUptoRow.laid) (((Rows.OpenSpec.upto Rows.keyKeptSpec).at F).post enc Tryd.prog Tryd.f5 false true false false) := by
  obtain ⟨places, hx⟩ := kkept_reading os enc
  refine returnsInHanded_of_row (C := Tryd.checked) (s := Rows.OpenSpec.upto Rows.keyKeptSpec) own_ started (by kernel_rfl) Tryd.func5
    (witness_row_atRef (enc := enc) (C := Tryd.checked) false (laidWorld os) #[Cv.zero.agg, .slice none 0 0] rfl (by kernel_rfl) (by kernel_rfl) (by kernel_rfl)
      (OpenSpec.preRow_of_cond 8 hx (by kernel_rfl) (fun k hk => by cases hk; kernel_rfl) (by kernel_rfl) (laid_row os _))) ?_
  intro W base args ds gs before hval0 hW _ hcond hsz hL _ _
  have hval : ∀ (j : Nat) t v, Tryd.f5.params[j]? = some t → args[j]? = some v → Value.okWide Tryd.prog W .any base t v := hval0
  have hW' := hW
  obtain ⟨p, q, hA0, hV0, rfl, _, _⟩ := hW
  have hA : DataW.TrodAll enc Tryd.prog W 0 (fun _ => true) true Tryd.f5.params.toList args.toList ds p := hA0
  rw [Tryd.params5] at hA hval
  obtain ⟨v0, v1, d0, d1, p0, p1, rfl, rfl, rfl, h0, h1⟩ := trodAll_two hA
  obtain ⟨rfl, rfl⟩ := trodVars_none hV0
  have hbulk : Rows.uptoBulkAll ([d0, d1] ++ []) ≤ 1048576 := of_decide_eq_true (hcond _ rfl)
  obtain ⟨x0, c0, rfl, hin0, hvb0⟩ := open_argB (hval 0 27 v0 rfl rfl) h0 (fun n hn => by
    have := List.all_eq_true.1 hsz _ (DataW.weights_mem_each (j := 0) (t := 27) (d := d0) (by rw [Tryd.params5]; rfl) rfl n hn)
    simpa using this)
  obtain ⟨A01, len1, cap01, rfl⟩ := okWide_slice under_u8s (hval 1 23 v1 rfl rfl)
  have h1k := h1
  obtain ⟨fuel1, h1f⟩ := h1
  obtain ⟨A1, b1, cap1, hv1, hcap1, hl1, hin1⟩ := open_bytes (c := .slice A01 len1 cap01) h1f (fun n hn => by
    have := List.all_eq_true.1 hsz _ (DataW.weights_mem_each (j := 1) (t := 23) (d := d1) (by rw [Tryd.params5]; rfl) rfl n hn)
    simpa using this)
  rw [hv1] at h1k hW' ⊢
  have hvl0 : x0.bytes.length ≤ 140737488355328 := by
    simp only [List.append_nil, Rows.uptoBulkAll] at hbulk
    omega
  have hb21 : b1.length ≤ 1000000 * 1000 := by
    obtain ⟨f, hf⟩ := h1k
    have : b1.length ≤ Rows.uptoBulk d1 := bytes_bulk hf
    simp only [List.append_nil, Rows.uptoBulkAll] at hbulk
    omega
  have hlt0 : ∀ x ∈ p0, x.block < W.heap.size := fun x hx => by
    have := hW'.lt x (by simp [hx])
    simpa using this
  have hlt1 : ∀ x ∈ p1, x.block < W.heap.size := fun x hx => by
    have := hW'.lt x (by simp [hx])
    simpa using this
  refine (kkept_any x0 c0 b1 A1 cap1 W (tabs_row hL) hin0 (fun _ => hvl0) hin1 hb21 hcap1).mono ?_
  rintro e W' ⟨rfl, bel⟩
  have e1 : ((Rows.OpenSpec.upto Rows.keyKeptSpec).at F).fn H ([d0, d1] ++ []) = { results := [.lit (.bool true)], args := [d0, d1] } := rfl
  refine ⟨_, rfl, _, _, _, [], p0 ++ p1, [], hW', ?_, ?_, ?_, bel.below.frame _, fun h => by cases h⟩
  · rw [e1]; exact trodAll_mk1 (shut_bool Tryd.underlying4 _)
  · rw [e1]; exact trodAll_mk2 (Below.trod laidOut_ (by kernel_rfl) (of_decide_eq_true (by kernel_rfl)) h0 bel.below hlt0) (Below.trod laidOut_ (by kernel_rfl) (of_decide_eq_true (by kernel_rfl)) h1k bel.below hlt1)
  · rw [e1]; rfl

theorem kkept_said : Rows.KeyKeptUptoSaid :=
  OpenClaim.holds_of_cond 5 Tryd.f5 rfl rfl rfl rfl rfl rfl rfl ⟨rfl, rfl, rfl, rfl, rfl⟩ rfl rfl rfl rfl rfl (by kernel_rfl) Tryd.func5 (by kernel_rfl)
    (of_decide_eq_true (by kernel_rfl)) (by unfold Func.isWrapper; first | (rw [if_pos (by decide +kernel)]; kernel_rfl) | (rw [if_neg (by decide +kernel)]; exact ⟨rfl, rfl⟩))
    (fun os started H enc _ F => by rw [OpenClaim.pre_eq_preRow]; exact kkept_lifted os started H enc F)

theorem kkept_plain (f : FuncId) (fn : Func) (hf : Tryd.pinned.checked.prog.funcNamed "muniment/munimentlaw4.KeyKept" = some f) (hfn : Tryd.pinned.checked.prog.funcs[f]? = some fn) :
    true = Tryd.pinned.checked.prog.looks [] ∧ ∀ (j : Nat) t, fn.params[j]? = some t → Tryd.pinned.checked.prog.wantsStandIn t = false := by
  obtain rfl : f = 5 := Option.some.inj ((show Tryd.prog.funcNamed "muniment/munimentlaw4.KeyKept" = some 5 by kernel_rfl).symm.trans hf) |>.symm
  obtain rfl : fn = Tryd.f5 := (Option.some.inj (Tryd.func5.symm.trans hfn)).symm
  refine ⟨by kernel_rfl, fun j t ht => ?_⟩
  rw [Tryd.params5] at ht
  have hm := Array.mem_of_getElem? ht
  have : t = 27 ∨ t = 23 := by simpa using hm
  rcases this with rfl | rfl
  · exact (show Tryd.prog.wantsStandIn 27 = false by kernel_rfl)
  · exact (show Tryd.prog.wantsStandIn 23 = false by kernel_rfl)

/-- The tied card of KeyKept. -/
theorem kkept_card : Rows.KeyKeptUptoCardSaid :=
  Claim7.holds_tied_plain_at .later [] _ _ _ _ kkept_said (fun _ h => by cases h) (by kernel_rfl) (fun _ h => by cases h) keyKeptUpto_row_tie rfl ⟨rfl, rfl⟩ (by kernel_rfl) rfl kkept_plain (by kernel_rfl)
end Go.Proofs.YtpjhhkndfmcaoaaDoor
