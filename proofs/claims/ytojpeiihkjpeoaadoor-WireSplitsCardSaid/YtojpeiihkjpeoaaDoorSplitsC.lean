/- The law WireSplits holds of every byte string that comes in: whatever the bytes, Split of the program and Split of the document's answer tell the same numbers of frames and of bytes left, and the same error; the bytes read as before. Conditions: the row's own (the two listed tables of unicode/utf8 read as their initialisers lay them; the card ties them to the program's text). -/
import Derived.Test.YtojpeiihkjpeoaaDoorWAwake
import Derived.Test.YtojpeiihkjpeoaaDoorCard0
set_option linter.unusedVariables false
set_option linter.unusedSimpArgs false
namespace Go.Proofs.YtojpeiihkjpeoaaDoor
open Go.RowKit Go.ChangeShapes Go.ChangeAt Go.Shelf Go.WideShapes

set_option maxRecDepth 100000 in
set_option maxHeartbeats 1600000 in
theorem splits_any (b : List UInt8) (A : Option Addr) (cap : Nat) (w : World) (hT : Tabs w) (hb : InB w A b) (hl : b.length ≤ 140737488355328) (hcap : b.length ≤ cap) :
    Calls Tryd.prog 5 #[.slice A b.length cap] w fun e w' => e = .returned (.bool true) ∧ Grow w w' := by
  have HT := hide hT
  have HB := hide hb
  clear hT hb
  go_enter Tryd.func5, Tryd.ntmps5
  go_wp2_with fail
  refine (split_any b A cap w HB.out hl hcap).mono ?_
  rintro e w1 ⟨rfl, hg1⟩
  have HG1 := hide hg1
  clear hg1
  obtain ⟨K, hK⟩ : ∃ K, (split b).1 = K := ⟨_, rfl⟩
  obtain ⟨M, hM⟩ : ∃ M, (split b).2.1 = M := ⟨_, rfl⟩
  obtain ⟨E, hE⟩ : ∃ E, (split b).2.2 = E := ⟨_, rfl⟩
  have hC := refSplit_any b A cap w1 (HB.out.grow HG1.out) hl hcap
  unfold SplitC at hC
  rw [hK, hM, hE] at hC ⊢
  have HC := hide hC
  clear hC hK hM hE
  go_wp2_with fail
  refine HC.out.mono ?_
  rintro e w2 ⟨rfl, hg2⟩
  have HG2 := hide (HG1.out.trans hg2)
  clear hg2
  go_wp2_with fail
  refine (wawake_any _ (HT.out.grow HG2.out)).mono ?_
  rintro e w3 ⟨rfl, hg3⟩
  have HG3 := hide (HG2.out.trans hg3)
  clear hg3
  go_wp2_with fail
  go_ret
  exact ⟨rfl, HG3.out⟩

theorem splits_reading (os : Os) {H : Type} (enc : TypeId × Value → H) : ∃ places, DataW.whole enc Tryd.prog ((laidWorld os).forCall (fun _ _ => 0) ⟨#[], #[.slice none 0 0], []⟩).memory Tryd.f5.params.toList Rows.wireSplitsSpec.vars false #[Value.slice none 0 0].toList 8 = some ([.nil], [], places) :=
  ⟨[], by kernel_rfl⟩

set_option maxRecDepth 100000 in
set_option maxHeartbeats 1600000 in
theorem splits_lifted (os : Os) (started : os.Started) (H : Type) (enc : TypeId × Value → H) (F : Stop.Interp) :
    ReturnsInHanded {} Tryd.checked os 5 .any ((OpenSpec.ofChange Rows.wireSplitsSpec).preRow enc Tryd.prog Tryd.f5 Rows.wireSplitsRow.domain false Rows.wireSplitsRow.laid) (((OpenSpec.ofChange Rows.wireSplitsSpec).at F).post enc Tryd.prog Tryd.f5 false true false false) := by
  obtain ⟨places, hx⟩ := splits_reading os enc
  refine returnsInHanded_of_row (C := Tryd.checked) (s := OpenSpec.ofChange Rows.wireSplitsSpec) own_ started (by kernel_rfl) Tryd.func5
    (witness_row_atRef (enc := enc) (C := Tryd.checked) false (laidWorld os) #[.slice none 0 0] rfl (by kernel_rfl) (by kernel_rfl) (by kernel_rfl)
      (OpenSpec.preRow_of_cond 8 hx (by kernel_rfl) (fun k hk => by cases hk) (by kernel_rfl) (laid_row os _))) ?_
  intro W base args ds gs before hval0 hW _ _ hsz hL _ _
  have hval : ∀ (j : Nat) t v, Tryd.f5.params[j]? = some t → args[j]? = some v → Value.okWide Tryd.prog W .any base t v := hval0
  have hW' := hW
  obtain ⟨p, q, hA0, hV0, rfl, _, _⟩ := hW
  have hA : DataW.TrodAll enc Tryd.prog W 0 (fun _ => true) true Tryd.f5.params.toList args.toList ds p := hA0
  rw [Tryd.params5] at hA hval
  obtain ⟨v0, d0, rfl, rfl, h0⟩ := trodAll_one hA
  obtain ⟨rfl, rfl⟩ := trodVars_none hV0
  obtain ⟨A0, len, cap0, rfl⟩ := okWide_slice under_u8s (hval 0 26 v0 rfl rfl)
  have h0k := h0
  obtain ⟨fuel, h0f⟩ := h0
  obtain ⟨A, b, cap, hv, hcap, hl, hin⟩ := open_bytes (c := .slice A0 len cap0) h0f (fun n hn => by
    have := List.all_eq_true.1 hsz _ (DataW.weights_mem_each (j := 0) (t := 26) (d := d0) (by rw [Tryd.params5]; rfl) rfl n hn)
    simpa using this)
  rw [hv] at h0k hW' ⊢
  have hlt : ∀ x ∈ p, x.block < W.heap.size := fun x hx => by
    have := hW'.lt x (by simpa using hx)
    simpa using this
  refine (splits_any b A cap W (tabs_row hL) hin hl hcap).mono ?_
  rintro e W' ⟨rfl, bel⟩
  have e1 : ((OpenSpec.ofChange Rows.wireSplitsSpec).at F).fn H ([d0] ++ []) = { results := [.lit (.bool true)], args := [d0] } := rfl
  refine ⟨_, rfl, _, _, _, [], p, [], hW', ?_, ?_, ?_, bel.below.frame _, fun h => by cases h⟩
  · rw [e1]; exact trodAll_mk1 (shut_bool Tryd.underlying4 _)
  · rw [e1]; exact trodAll_mk1 (Below.trod laidOut_ (by kernel_rfl) (of_decide_eq_true (by kernel_rfl)) h0k bel.below hlt)
  · rw [e1]; rfl

theorem splits_said : Rows.WireSplitsSaid :=
  OpenClaim.holds_of_cond 5 Tryd.f5 rfl rfl rfl rfl rfl rfl rfl ⟨rfl, rfl, rfl, rfl, rfl⟩ rfl rfl rfl rfl rfl (by kernel_rfl) Tryd.func5 (by kernel_rfl)
    (of_decide_eq_true (by kernel_rfl)) (by unfold Func.isWrapper; first | (rw [if_pos (by decide +kernel)]; kernel_rfl) | (rw [if_neg (by decide +kernel)]; exact ⟨rfl, rfl⟩))
    (fun os started H enc _ F => by rw [OpenClaim.pre_eq_preRow]; exact splits_lifted os started H enc F)

theorem splits_plain (f : FuncId) (fn : Func) (hf : Tryd.pinned.checked.prog.funcNamed "muniment/munimentlaw19.WireSplits" = some f) (hfn : Tryd.pinned.checked.prog.funcs[f]? = some fn) :
    true = Tryd.pinned.checked.prog.looks [] ∧ ∀ (j : Nat) t, fn.params[j]? = some t → Tryd.pinned.checked.prog.wantsStandIn t = false := by
  obtain rfl : f = 5 := Option.some.inj ((show Tryd.prog.funcNamed "muniment/munimentlaw19.WireSplits" = some 5 by kernel_rfl).symm.trans hf) |>.symm
  obtain rfl : fn = Tryd.f5 := (Option.some.inj (Tryd.func5.symm.trans hfn)).symm
  refine ⟨by kernel_rfl, fun j t ht => ?_⟩
  rw [Tryd.params5] at ht
  obtain rfl : t = 26 := by simpa using Array.mem_of_getElem? ht
  exact (show Tryd.prog.wantsStandIn 26 = false by kernel_rfl)

/-- The tied card of WireSplits. -/
theorem splits_card : Rows.WireSplitsCardSaid :=
  Claim7.holds_tied_plain_at .later [] _ _ _ _ splits_said (fun _ h => by cases h) (by kernel_rfl) (fun _ h => by cases h) wireSplits_row_tie rfl ⟨rfl, rfl⟩ (by kernel_rfl) rfl splits_plain (by kernel_rfl)
end Go.Proofs.YtojpeiihkjpeoaaDoor
