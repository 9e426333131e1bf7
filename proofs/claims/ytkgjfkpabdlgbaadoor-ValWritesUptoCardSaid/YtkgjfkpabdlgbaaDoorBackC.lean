/- The law ValBack holds of every value and byte string that comes in: what Put writes of a good value Get reads back, one byte more or less is refused, and what Get reads Put writes back. Conditions: the row's own (the two listed tables of unicode/utf8 read as their initialisers lay them; the card ties them to the program's text). -/
import Derived.Test.YtkgjfkpabdlgbaaDoorBack
import Derived.Test.YtkgjfkpabdlgbaaDoorOpenV
import Derived.Test.YtkgjfkpabdlgbaaDoorReads
set_option linter.unusedVariables false
set_option linter.unusedSimpArgs false
namespace Go.Proofs.YtkgjfkpabdlgbaaDoor
open Go.RowKit Go.ChangeShapes Go.ChangeAt Go.Shelf Go.WideShapes

set_option maxRecDepth 100000 in
/-- An argument that is a value. -/
theorem open_arg {H : Type} {enc : TypeId × Value → H} {W : World} {sp : Nat → Bool} {held : Bool} {base : Nat} {v : Value} {d : DataW H} {p : List MemPlace} (hok : Value.okWide Tryd.prog W .any base 27 v)
    (h : DataW.Trod enc Tryd.prog W 0 sp held 27 v d p) (hw : ∀ n ∈ d.weights Tryd.prog 27, n ≤ reachBytes) : ∃ (x : V) (c : Cv), v = c.agg ∧ In W x c := by
  obtain ⟨fs, hu, _⟩ := under_val
  obtain ⟨cs, rfl, _⟩ := okWide_struct hu hok
  obtain ⟨fuel, hf⟩ := h
  obtain ⟨x, c, hc, hin⟩ := open_val _ d (Nat.le_refl _) fuel _ _ hf hw
  refine ⟨x, c, ?_, hin⟩
  have : cs = c.cells := by
    apply Array.ext'
    exact hc
  rw [this]

def zeroD {H : Type} : DataW H := .agg [.lit (.int .i64 0), .lit (.int .u64 0), .nil, .nil, .nil]
theorem back_reading (os : Os) {H : Type} (enc : TypeId × Value → H) : ∃ places, DataW.whole enc Tryd.prog ((laidWorld os).forCall (fun _ _ => 0) ⟨#[], #[Cv.zero.agg, .slice none 0 0], []⟩).memory Tryd.f4.params.toList Rows.valBackSpec.vars false #[Cv.zero.agg, Value.slice none 0 0].toList 8 = some ([zeroD, .nil], [], places) :=
  ⟨[], by kernel_rfl⟩

set_option maxRecDepth 100000 in
set_option maxHeartbeats 1600000 in
theorem back_lifted (os : Os) (started : os.Started) (H : Type) (enc : TypeId × Value → H) (F : Stop.Interp) :
    ReturnsInHanded {} Tryd.checked os 4 .any ((OpenSpec.ofChange Rows.valBackSpec).preRow enc Tryd.prog Tryd.f4 Rows.valBackRow.domain false Rows.valBackRow.laid) (((OpenSpec.ofChange Rows.valBackSpec).at F).post enc Tryd.prog Tryd.f4 false true false false) := by
  obtain ⟨places, hx⟩ := back_reading os enc
  refine returnsInHanded_of_row (C := Tryd.checked) (s := OpenSpec.ofChange Rows.valBackSpec) own_ started (by kernel_rfl) Tryd.func4
    (witness_row_atRef (enc := enc) (C := Tryd.checked) false (laidWorld os) #[Cv.zero.agg, .slice none 0 0] rfl (by kernel_rfl) (by kernel_rfl) (by kernel_rfl)
      (OpenSpec.preRow_of_cond 8 hx (by kernel_rfl) (fun k hk => by cases hk) (by kernel_rfl) (laid_row os _))) ?_
  intro W base args ds gs before hval0 hW _ _ hsz hL _ _
  have hval : ∀ (j : Nat) t v, Tryd.f4.params[j]? = some t → args[j]? = some v → Value.okWide Tryd.prog W .any base t v := hval0
  have hW' := hW
  obtain ⟨p, q, hA0, hV0, rfl, _, _⟩ := hW
  have hA : DataW.TrodAll enc Tryd.prog W 0 (fun _ => true) true Tryd.f4.params.toList args.toList ds p := hA0
  rw [Tryd.params4] at hA hval
  obtain ⟨v0, v1, d0, d1, p0, p1, rfl, rfl, rfl, h0, h1⟩ := trodAll_two hA
  obtain ⟨rfl, rfl⟩ := trodVars_none hV0
  obtain ⟨x, c, rfl, hin0⟩ := open_arg (hval 0 27 v0 rfl rfl) h0 (fun n hn => by
    have := List.all_eq_true.1 hsz _ (DataW.weights_mem_each (j := 0) (t := 27) (d := d0) (by rw [Tryd.params4]; rfl) rfl n hn)
    simpa using this)
  obtain ⟨A0, len, cap0, rfl⟩ := okWide_slice under_u8s (hval 1 22 v1 rfl rfl)
  have h1k := h1
  obtain ⟨fuel, h1f⟩ := h1
  obtain ⟨A, b, cap, hv, hcap, hl, hin⟩ := open_bytes (c := .slice A0 len cap0) h1f (fun n hn => by
    have := List.all_eq_true.1 hsz _ (DataW.weights_mem_each (j := 1) (t := 22) (d := d1) (by rw [Tryd.params4]; rfl) rfl n hn)
    simpa using this)
  rw [hv] at h1k hW' ⊢
  have hlt0 : ∀ x ∈ p0, x.block < W.heap.size := fun x hx => by
    have := hW'.lt x (by simp [hx])
    simpa using this
  have hlt1 : ∀ x ∈ p1, x.block < W.heap.size := fun x hx => by
    have := hW'.lt x (by simp [hx])
    simpa using this
  refine (back_any x c b A cap W (tabs_row hL) hin0 hin hl hcap).mono ?_
  rintro e W' ⟨rfl, bel⟩
  have e1 : ((OpenSpec.ofChange Rows.valBackSpec).at F).fn H ([d0, d1] ++ []) = { results := [.lit (.bool true)], args := [d0, d1] } := rfl
  refine ⟨_, rfl, _, _, _, [], p0 ++ p1, [], hW', ?_, ?_, ?_, bel.below.frame _, fun h => by cases h⟩
  · rw [e1]; exact trodAll_mk1 (shut_bool Tryd.underlying4 _)
  · rw [e1]; exact trodAll_mk2 (Below.trod laidOut_ (by kernel_rfl) (of_decide_eq_true (by kernel_rfl)) h0 bel.below hlt0) (Below.trod laidOut_ (by kernel_rfl) (of_decide_eq_true (by kernel_rfl)) h1k bel.below hlt1)
  · rw [e1]; rfl

theorem back_said : Rows.ValBackSaid :=
  OpenClaim.holds_of_cond 4 Tryd.f4 rfl rfl rfl rfl rfl rfl rfl ⟨rfl, rfl, rfl, rfl, rfl⟩ rfl rfl rfl rfl rfl (by kernel_rfl) Tryd.func4 (by kernel_rfl)
    (of_decide_eq_true (by kernel_rfl)) (by unfold Func.isWrapper; first | (rw [if_pos (by decide +kernel)]; kernel_rfl) | (rw [if_neg (by decide +kernel)]; exact ⟨rfl, rfl⟩))
    (fun os started H enc _ F => by rw [OpenClaim.pre_eq_preRow]; exact back_lifted os started H enc F)

theorem back_plain (f : FuncId) (fn : Func) (hf : Tryd.pinned.checked.prog.funcNamed "muniment/munimentlaw2.ValBack" = some f) (hfn : Tryd.pinned.checked.prog.funcs[f]? = some fn) :
    true = Tryd.pinned.checked.prog.looks [] ∧ ∀ (j : Nat) t, fn.params[j]? = some t → Tryd.pinned.checked.prog.wantsStandIn t = false := by
  obtain rfl : f = 4 := Option.some.inj ((show Tryd.prog.funcNamed "muniment/munimentlaw2.ValBack" = some 4 by kernel_rfl).symm.trans hf) |>.symm
  obtain rfl : fn = Tryd.f4 := (Option.some.inj (Tryd.func4.symm.trans hfn)).symm
  refine ⟨by kernel_rfl, fun j t ht => ?_⟩
  rw [Tryd.params4] at ht
  have hm := Array.mem_of_getElem? ht
  have : t = 27 ∨ t = 22 := by simpa using hm
  rcases this with rfl | rfl
  · exact (show Tryd.prog.wantsStandIn 27 = false by kernel_rfl)
  · exact (show Tryd.prog.wantsStandIn 22 = false by kernel_rfl)

/-- The tied card of ValBack. -/
theorem back_card : Rows.ValBackCardSaid :=
  Claim7.holds_tied_plain_at .later [] _ _ _ _ back_said (fun _ h => by cases h) (by kernel_rfl) (fun _ h => by cases h) valBack_row_tie rfl ⟨rfl, rfl⟩ (by kernel_rfl) rfl back_plain (by kernel_rfl)
end Go.Proofs.YtkgjfkpabdlgbaaDoor
