/- The law ValWrites holds of every value that comes in, good or not, of bulk at most 1048576 (each value and letter counted each time that it is reached): its bytes, or what is wrong with it. Conditions: the bound on the bulk; and the row's own (the two listed tables of unicode/utf8 read as their initialisers lay them; the card ties them to the program's text). -/
import Derived.Test.YtkgjfkpabdlgbaaDoorWritesL
import Derived.Test.YtkgjfkpabdlgbaaDoorBulk
import Derived.Test.YtkgjfkpabdlgbaaDoorBackC
set_option linter.unusedVariables false
set_option linter.unusedSimpArgs false
namespace Go.Proofs.YtkgjfkpabdlgbaaDoor
open Go.RowKit Go.ChangeShapes Go.ChangeAt Go.Shelf Go.WideShapes

set_option maxRecDepth 100000 in
/-- An argument that is a value; its bytes are bounded by its bulk. -/
theorem open_argB {H : Type} {enc : TypeId × Value → H} {W : World} {sp : Nat → Bool} {held : Bool} {base : Nat} {v : Value} {d : DataW H} {p : List MemPlace} (hok : Value.okWide Tryd.prog W .any base 27 v)
    (h : DataW.Trod enc Tryd.prog W 0 sp held 27 v d p) (hw : ∀ n ∈ d.weights Tryd.prog 27, n ≤ reachBytes) : ∃ (x : V) (c : Cv), v = c.agg ∧ In W x c ∧ x.bytes.length ≤ 16 * Rows.uptoBulk d := by
  obtain ⟨fs, hu, _⟩ := under_val
  obtain ⟨cs, rfl, _⟩ := okWide_struct hu hok
  obtain ⟨fuel, hf⟩ := h
  obtain ⟨x, c, hc, hin⟩ := open_val _ d (Nat.le_refl _) fuel _ _ hf hw
  have hcs : cs = c.cells := by
    apply Array.ext'
    exact hc
  subst hcs
  exact ⟨x, c, rfl, hin, bulk_val _ d (Nat.le_refl _) fuel c x _ hf hin⟩

theorem writes_reading (os : Os) {H : Type} (enc : TypeId × Value → H) : ∃ places, DataW.whole enc Tryd.prog ((laidWorld os).forCall (fun _ _ => 0) ⟨#[], #[Cv.zero.agg], []⟩).memory Tryd.f7.params.toList Rows.valWritesSpec.vars false #[Cv.zero.agg].toList 8 = some ([zeroD], [], places) :=
  ⟨[], by kernel_rfl⟩

set_option maxRecDepth 100000 in
set_option maxHeartbeats 1600000 in
theorem writes_lifted (os : Os) (started : os.Started) (H : Type) (enc : TypeId × Value → H) (F : Stop.Interp) :
    ReturnsInHanded {} Tryd.checked os 7 .any ((Rows.OpenSpec.upto Rows.valWritesSpec).preRow enc Tryd.prog Tryd.f7 Rows.valWritesUptoRow.domain false Rows.valWritesUptoRow.laid) (((Rows.OpenSpec.upto Rows.valWritesSpec).at F).post enc Tryd.prog Tryd.f7 false true false false) := by
  obtain ⟨places, hx⟩ := writes_reading os enc
  refine returnsInHanded_of_row (C := Tryd.checked) (s := Rows.OpenSpec.upto Rows.valWritesSpec) own_ started (by kernel_rfl) Tryd.func7
    (witness_row_atRef (enc := enc) (C := Tryd.checked) false (laidWorld os) #[Cv.zero.agg] rfl (by kernel_rfl) (by kernel_rfl) (by kernel_rfl)
      (OpenSpec.preRow_of_cond 8 hx (by kernel_rfl) (fun k hk => by cases hk; kernel_rfl) (by kernel_rfl) (laid_row os _))) ?_
  intro W base args ds gs before hval0 hW _ hcond hsz hL _ _
  have hval : ∀ (j : Nat) t v, Tryd.f7.params[j]? = some t → args[j]? = some v → Value.okWide Tryd.prog W .any base t v := hval0
  have hW' := hW
  obtain ⟨p, q, hA0, hV0, rfl, _, _⟩ := hW
  have hA : DataW.TrodAll enc Tryd.prog W 0 (fun _ => true) true Tryd.f7.params.toList args.toList ds p := hA0
  rw [Tryd.params7] at hA hval
  obtain ⟨v0, d0, rfl, rfl, h0⟩ := trodAll_one hA
  obtain ⟨rfl, rfl⟩ := trodVars_none hV0
  have hbulk : Rows.uptoBulkAll ([d0] ++ []) ≤ 1048576 := of_decide_eq_true (hcond _ rfl)
  obtain ⟨x, c, rfl, hin, hlen⟩ := open_argB (hval 0 27 v0 rfl rfl) h0 (fun n hn => by
    have := List.all_eq_true.1 hsz _ (DataW.weights_mem_each (j := 0) (t := 27) (d := d0) (by rw [Tryd.params7]; rfl) rfl n hn)
    simpa using this)
  have hlen2 : x.bytes.length ≤ 140737488355328 := by
    simp only [List.append_nil, Rows.uptoBulkAll] at hbulk
    omega
  have hlt : ∀ x ∈ p, x.block < W.heap.size := fun x hx => by
    have := hW'.lt x (by simpa using hx)
    simpa using this
  refine (writes_any x c W (tabs_row hL) hin (fun _ => hlen2)).mono ?_
  rintro e W' ⟨rfl, bel⟩
  have e1 : ((Rows.OpenSpec.upto Rows.valWritesSpec).at F).fn H ([d0] ++ []) = { results := [.lit (.bool true)], args := [d0] } := rfl
  refine ⟨_, rfl, _, _, _, [], p, [], hW', ?_, ?_, ?_, bel.below.frame _, fun h => by cases h⟩
  · rw [e1]; exact trodAll_mk1 (shut_bool Tryd.underlying4 _)
  · rw [e1]; exact trodAll_mk1 (Below.trod laidOut_ (by kernel_rfl) (of_decide_eq_true (by kernel_rfl)) h0 bel.below hlt)
  · rw [e1]; rfl

theorem writes_said : Rows.ValWritesUptoSaid :=
  OpenClaim.holds_of_cond 7 Tryd.f7 rfl rfl rfl rfl rfl rfl rfl ⟨rfl, rfl, rfl, rfl, rfl⟩ rfl rfl rfl rfl rfl (by kernel_rfl) Tryd.func7 (by kernel_rfl)
    (of_decide_eq_true (by kernel_rfl)) (by unfold Func.isWrapper; first | (rw [if_pos (by decide +kernel)]; kernel_rfl) | (rw [if_neg (by decide +kernel)]; exact ⟨rfl, rfl⟩))
    (fun os started H enc _ F => by rw [OpenClaim.pre_eq_preRow]; exact writes_lifted os started H enc F)

theorem writes_plain (f : FuncId) (fn : Func) (hf : Tryd.pinned.checked.prog.funcNamed "muniment/munimentlaw2.ValWrites" = some f) (hfn : Tryd.pinned.checked.prog.funcs[f]? = some fn) :
    true = Tryd.pinned.checked.prog.looks [] ∧ ∀ (j : Nat) t, fn.params[j]? = some t → Tryd.pinned.checked.prog.wantsStandIn t = false := by
  obtain rfl : f = 7 := Option.some.inj ((show Tryd.prog.funcNamed "muniment/munimentlaw2.ValWrites" = some 7 by kernel_rfl).symm.trans hf) |>.symm
  obtain rfl : fn = Tryd.f7 := (Option.some.inj (Tryd.func7.symm.trans hfn)).symm
  refine ⟨by kernel_rfl, fun j t ht => ?_⟩
  rw [Tryd.params7] at ht
  obtain rfl : t = 27 := by simpa using Array.mem_of_getElem? ht
  exact (show Tryd.prog.wantsStandIn 27 = false by kernel_rfl)

/-- The tied card of ValWrites. -/
theorem writes_card : Rows.ValWritesUptoCardSaid :=
  Claim7.holds_tied_plain_at .later [] _ _ _ _ writes_said (fun _ h => by cases h) (by kernel_rfl) (fun _ h => by cases h) valWritesUpto_row_tie rfl ⟨rfl, rfl⟩ (by kernel_rfl) rfl writes_plain (by kernel_rfl)
end Go.Proofs.YtkgjfkpabdlgbaaDoor
