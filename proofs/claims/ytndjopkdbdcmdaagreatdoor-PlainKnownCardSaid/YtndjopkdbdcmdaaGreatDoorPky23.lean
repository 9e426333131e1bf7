/- The row of PlainKnown, from what its walk says. -/
import Derived.Test.YtndjopkdbdcmdaaGreatDoorPky13
set_option linter.unusedVariables false
set_option linter.unusedSimpArgs false
set_option maxRecDepth 100000
set_option maxHeartbeats 12800000
namespace Go.Proofs.YtndjopkdbdcmdaaGreatDoor
section
open Go.RowKit Go.ChangeShapes Go.ChangeAt Go.Shelf Go.WideShapes Go.Deep
theorem pknown_reading (os : Os) {H : Type} (enc : TypeId × Value → H) : ∃ places, DataW.whole enc Tryz.prog ((laidWorld os).forCall (fun _ _ => 0) ⟨#[], #[], []⟩).memory Tryz.f3.params.toList Rows.plainKnownSpec.vars false (#[] : Array Value).toList 8 = some ([], [], places) :=
 ⟨[], by kernel_rfl⟩
theorem pknown_lifted (HK : ∀ W : World, Tabs W → Len1 W → Calls Tryz.prog 3 #[] W fun e w' => e = .returned (.bool true) ∧ Grow W w') (os : Os) (started : os.Started) (H : Type) (enc : TypeId × Value → H) (F : Stop.Interp) :
 ReturnsInHanded {} Tryz.checked os 3 .any ((OpenSpec.ofChange Rows.plainKnownSpec).preRow enc Tryz.prog Tryz.f3 Rows.plainKnownRow.domain false Rows.plainKnownRow.laid) (((OpenSpec.ofChange Rows.plainKnownSpec).at F).post enc Tryz.prog Tryz.f3 false true false false) := by
 obtain ⟨places, hx⟩ := pknown_reading os enc;refine returnsInHanded_of_row (C := Tryz.checked) (s := OpenSpec.ofChange Rows.plainKnownSpec) own_ started (by kernel_rfl) Tryz.func3
  (witness_row_atRef (enc := enc) (C := Tryz.checked) false (laidWorld os) #[] rfl (by kernel_rfl) (by kernel_rfl) (by kernel_rfl)
   (OpenSpec.preRow_of_cond 8 hx (by kernel_rfl) (fun k hk => by cases hk) (by kernel_rfl) (laid_row os _))) ?_
 intro W base args ds gs before hval0 hW _ _ hsz hL hsh _;have hval : ∀ (j : Nat) t v, Tryz.f3.params[j]? = some t → args[j]? = some v → Value.okWide Tryz.prog W .any base t v := hval0;have hW' := hW;obtain ⟨p, q, hA0, hV0, rfl, _, _⟩ := hW;have hA : DataW.TrodAll enc Tryz.prog W 0 (fun _ => true) true Tryz.f3.params.toList args.toList ds p := hA0;rw [Tryz.params3] at hA hval;obtain ⟨rfl, rfl, rfl⟩ := trodAll_none hA;obtain ⟨rfl, rfl⟩ := trodVars_none hV0;have hM : Len1 W := laysSplit_len W hsh;refine (HK W (tabs_row hL) hM).mono ?_;rintro e W' ⟨rfl, bel⟩;have e1 : ((OpenSpec.ofChange Rows.plainKnownSpec).at F).fn H ([] ++ []) = { results := [.lit (.bool true)], args := [] } := rfl;refine ⟨_, rfl, _, _, _, [], [], [], hW', ?_, ?_, ?_, bel.below.frame _, fun h => by cases h⟩
 ·rw [e1]; exact trodAll_mk1 (shut_bool Tryz.underlying4 _)
 ·rw [e1]; exact trodAll_mk0 
 rw [e1]; rfl
theorem pknown_said (HK : ∀ W : World, Tabs W → Len1 W → Calls Tryz.prog 3 #[] W fun e w' => e = .returned (.bool true) ∧ Grow W w') : Rows.PlainKnownSaid :=
 OpenClaim.holds_of_cond 3 Tryz.f3 rfl rfl rfl rfl rfl rfl rfl ⟨rfl, rfl, rfl, rfl, rfl⟩ rfl rfl rfl rfl rfl (by kernel_rfl) Tryz.func3 (by kernel_rfl)
  (of_decide_eq_true (by kernel_rfl)) (by unfold Func.isWrapper; first | (rw [if_pos (by decide +kernel)]; kernel_rfl) | (rw [if_neg (by decide +kernel)]; exact ⟨rfl, rfl⟩))
  (fun os started H enc _ F => by rw [OpenClaim.pre_eq_preRow]; exact pknown_lifted HK os started H enc F)
theorem pknown_plain (f : FuncId) (fn : Func) (hf : Tryz.pinned.checked.prog.funcNamed "muniment/munimentlaw15.PlainKnown" = some f) (hfn : Tryz.pinned.checked.prog.funcs[f]? = some fn) :
 true = Tryz.pinned.checked.prog.looks [] ∧ ∀ (j : Nat) t, fn.params[j]? = some t → Tryz.pinned.checked.prog.wantsStandIn t = false := by
 obtain rfl : f = 3 := Option.some.inj ((show Tryz.prog.funcNamed "muniment/munimentlaw15.PlainKnown" = some 3 by kernel_rfl).symm.trans hf) |>.symm;obtain rfl : fn = Tryz.f3 := (Option.some.inj (Tryz.func3.symm.trans hfn)).symm;refine ⟨by kernel_rfl, fun j t ht => ?_⟩;rw [Tryz.params3] at ht;simp at ht
theorem pknown_card_of (HK : ∀ W : World, Tabs W → Len1 W → Calls Tryz.prog 3 #[] W fun e w' => e = .returned (.bool true) ∧ Grow W w') : Rows.PlainKnownCardSaid :=
 Claim7.holds_tied_plain_at .later [] _ _ _ _ (pknown_said HK) (fun _ h => by cases h) (by kernel_rfl) (fun _ h => by cases h) plainKnown_row_tie rfl ⟨rfl, rfl⟩ (by kernel_rfl) rfl pknown_plain (by kernel_rfl)
end
end Go.Proofs.YtndjopkdbdcmdaaGreatDoor
