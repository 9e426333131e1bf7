/- The law ValReads holds of every byte string that comes in: whatever the bytes, Get of the program and Get of the document's answer tell the same value or the same fault, and the bytes read as before. Conditions: the row's own (the two listed tables of unicode/utf8 read as their initialisers lay them; the card ties them to the program's text). -/
import Derived.Test.YtkgjfkpabdlgbaaDoorAwake
import Derived.Test.YtkgjfkpabdlgbaaDoorOpen
import Derived.Test.YtkgjfkpabdlgbaaDoorCards
import Derived.Test.YtkgjfkpabdlgbaaDoorTie
import Derived.Deep.DeepHandedRow
import Derived.Deep.DeepWitnessRowRef
import Derived.SevenTiedAt
set_option linter.unusedVariables false
set_option linter.unusedSimpArgs false
namespace Go.Proofs.YtkgjfkpabdlgbaaDoor
open Go.RowKit Go.ChangeShapes Go.ChangeAt Go.Shelf Go.WideShapes

set_option maxRecDepth 100000 in
set_option maxHeartbeats 1600000 in
theorem reads_any (b : List UInt8) (A : Option Addr) (cap : Nat) (w : World) (hT : Tabs w) (hb : InB w A b) (hl : b.length ≤ 140737488355328) (hcap : b.length ≤ cap) :
    Calls Tryd.prog 3 #[.slice A b.length cap] w fun e w' => e = .returned (.bool true) ∧ Grow w w' := by
  have HT := hide hT
  have HB := hide hb
  clear hT hb
  obtain ⟨v, x0, hgot⟩ : ∃ (v : V) (x : Int), (∀ w e w', GetC w (rdAll b) e w' → ∃ c, e = .returned (.tuple #[c.agg, .int .i64 x]) ∧ In w' v c ∧ Grow w w') := by
    cases hr : rdAll b with
    | error x =>
      exact ⟨V.zero, x, fun w e w' h => ⟨Cv.zero, h.1, In.num 0 0 (by omega) (by omega) (by omega), h.2⟩⟩
    | ok v =>
      exact ⟨v, 0, fun w e w' ⟨c, he, hin, hg⟩ => ⟨c, he, hin.in_, hg⟩⟩
  have HGOT := hide hgot
  clear hgot
  go_enter Tryd.func3, Tryd.ntmps3
  go_wp2_with fail
  refine (get_any b A cap w HT.out HB.out hl hcap).mono ?_
  intro e w1 h1
  obtain ⟨c, rfl, hin1, hg1⟩ := HGOT.out _ _ _ h1
  have HI1 := hide hin1
  have HG1 := hide hg1
  clear h1 hin1 hg1
  go_wp2_with fail
  refine (refGetAll_any b A cap _ (HB.out.grow (HG1.out.alloc _)) hl hcap).mono ?_
  intro e w2 h2
  obtain ⟨c', rfl, hin2, hg2⟩ := HGOT.out _ _ _ h2
  have hB2 := (Blk.new w1 27 c.cells).grow hg2
  have hc := hB2.cell
  have hlt := hB2.lt
  have HB2 := hide hB2
  have HI1' := hide ((HI1.out.grow ((Grow.refl w1).alloc _)).grow hg2)
  have HI2 := hide hin2
  have HG2 := hide ((HG1.out.alloc _).trans hg2)
  clear h2 hin2 hg2 hB2
  go_wp2_with fail
  refine (awake_any _ (HT.out.grow (HG2.out.alloc _))).mono ?_
  rintro e w3 ⟨rfl, hg3⟩
  have hB3 := ((HB2.out.alloc _).grow hg3)
  have hB3' := ((Blk.new w2 27 c'.cells).grow hg3)
  have hc3 := hB3.cell
  have hc3' := hB3'.cell
  have HG3 := hide ((HG2.out.alloc _).trans hg3)
  have HJ1 := hide ((HI1'.out.grow ((Grow.refl w2).alloc _)).grow hg3)
  have HJ2 := hide ((HI2.out.grow ((Grow.refl w2).alloc _)).grow hg3)
  clear hg3 hB3 hB3' hc hlt
  go_wp2_with fail
  refine (lawSame_any v v _ c c' HJ1.out HJ2.out).mono ?_
  rintro e w4 ⟨rfl, hg4⟩
  rw [sameB_self]
  have HG4 := hide (HG3.out.trans hg4)
  clear hg4
  go_wp2_with fail
  go_ret
  exact ⟨rfl, HG4.out⟩

theorem own_ : ownKnob Tryd.prog.godebug = none := by kernel_rfl
theorem laidOut_ : laidOutB Tryd.prog = true := by kernel_rfl
/-- What the rows of this seat list. -/
def rowLaid : List (String × DataW Unit) := [("unicode/utf8.acceptRanges", Rows.laid_unicode_utf8_acceptRanges), ("unicode/utf8.first", Rows.laid_unicode_utf8_first)]
theorem rowLaid_eq : rowLaid = [("unicode/utf8.acceptRanges", Lib.acceptData), ("unicode/utf8.first", Lib.firstData)] := by
  unfold rowLaid
  rw [first_pinned, accept_laid]
theorem laid_row (os : Os) (args : Array Value) : laidMet Tryd.prog rowLaid ((laidWorld os).forCall (fun _ _ => 0) ⟨#[], args, []⟩).memory := by
  rw [rowLaid_eq]; exact laid_met os args
theorem tabs_row {W : World} (h : laidMetH Tryd.prog rowLaid W) : Tabs W := by
  have h2 : laidMet Tryd.prog rowLaid W := h
  rw [rowLaid_eq] at h2
  exact tabs_of_laid h2 (.tail _ (.head _)) (.head _)

theorem reads_reading (os : Os) {H : Type} (enc : TypeId × Value → H) : ∃ places, DataW.whole enc Tryd.prog ((laidWorld os).forCall (fun _ _ => 0) ⟨#[], #[.slice none 0 0], []⟩).memory Tryd.f3.params.toList Rows.valReadsSpec.vars false #[Value.slice none 0 0].toList 8 = some ([.nil], [], places) :=
  ⟨[], by kernel_rfl⟩

set_option maxRecDepth 100000 in
set_option maxHeartbeats 1600000 in
theorem reads_lifted (os : Os) (started : os.Started) (H : Type) (enc : TypeId × Value → H) (F : Stop.Interp) :
    ReturnsInHanded {} Tryd.checked os 3 .any ((OpenSpec.ofChange Rows.valReadsSpec).preRow enc Tryd.prog Tryd.f3 Rows.valReadsRow.domain false Rows.valReadsRow.laid) (((OpenSpec.ofChange Rows.valReadsSpec).at F).post enc Tryd.prog Tryd.f3 false true false false) := by
  obtain ⟨places, hx⟩ := reads_reading os enc
  refine returnsInHanded_of_row (C := Tryd.checked) (s := OpenSpec.ofChange Rows.valReadsSpec) own_ started (by kernel_rfl) Tryd.func3
    (witness_row_atRef (enc := enc) (C := Tryd.checked) false (laidWorld os) #[.slice none 0 0] rfl (by kernel_rfl) (by kernel_rfl) (by kernel_rfl)
      (OpenSpec.preRow_of_cond 8 hx (by kernel_rfl) (fun k hk => by cases hk) (by kernel_rfl) (laid_row os _))) ?_
  intro W base args ds gs before hval0 hW _ _ hsz hL _ _
  have hval : ∀ (j : Nat) t v, Tryd.f3.params[j]? = some t → args[j]? = some v → Value.okWide Tryd.prog W .any base t v := hval0
  have hW' := hW
  obtain ⟨p, q, hA0, hV0, rfl, _, _⟩ := hW
  have hA : DataW.TrodAll enc Tryd.prog W 0 (fun _ => true) true Tryd.f3.params.toList args.toList ds p := hA0
  rw [Tryd.params3] at hA hval
  obtain ⟨v0, d0, rfl, rfl, h0⟩ := trodAll_one hA
  obtain ⟨rfl, rfl⟩ := trodVars_none hV0
  obtain ⟨A0, len, cap0, rfl⟩ := okWide_slice under_u8s (hval 0 22 v0 rfl rfl)
  have h0k := h0
  obtain ⟨fuel, h0f⟩ := h0
  obtain ⟨A, b, cap, hv, hcap, hl, hin⟩ := open_bytes (c := .slice A0 len cap0) h0f (fun n hn => by
    have := List.all_eq_true.1 hsz _ (DataW.weights_mem_each (j := 0) (t := 22) (d := d0) (by rw [Tryd.params3]; rfl) rfl n hn)
    simpa using this)
  rw [hv] at h0k hW' ⊢
  have hlt : ∀ x ∈ p, x.block < W.heap.size := fun x hx => by
    have := hW'.lt x (by simpa using hx)
    simpa using this
  refine (reads_any b A cap W (tabs_row hL) hin hl hcap).mono ?_
  rintro e W' ⟨rfl, bel⟩
  have e1 : ((OpenSpec.ofChange Rows.valReadsSpec).at F).fn H ([d0] ++ []) = { results := [.lit (.bool true)], args := [d0] } := rfl
  refine ⟨_, rfl, _, _, _, [], p, [], hW', ?_, ?_, ?_, bel.below.frame _, fun h => by cases h⟩
  · rw [e1]; exact trodAll_mk1 (shut_bool Tryd.underlying4 _)
  · rw [e1]; exact trodAll_mk1 (Below.trod laidOut_ (by kernel_rfl) (of_decide_eq_true (by kernel_rfl)) h0k bel.below hlt)
  · rw [e1]; rfl

theorem reads_said : Rows.ValReadsSaid :=
  OpenClaim.holds_of_cond 3 Tryd.f3 rfl rfl rfl rfl rfl rfl rfl ⟨rfl, rfl, rfl, rfl, rfl⟩ rfl rfl rfl rfl rfl (by kernel_rfl) Tryd.func3 (by kernel_rfl)
    (of_decide_eq_true (by kernel_rfl)) (by unfold Func.isWrapper; first | (rw [if_pos (by decide +kernel)]; kernel_rfl) | (rw [if_neg (by decide +kernel)]; exact ⟨rfl, rfl⟩))
    (fun os started H enc _ F => by rw [OpenClaim.pre_eq_preRow]; exact reads_lifted os started H enc F)

theorem reads_plain (f : FuncId) (fn : Func) (hf : Tryd.pinned.checked.prog.funcNamed "muniment/munimentlaw2.ValReads" = some f) (hfn : Tryd.pinned.checked.prog.funcs[f]? = some fn) :
    true = Tryd.pinned.checked.prog.looks [] ∧ ∀ (j : Nat) t, fn.params[j]? = some t → Tryd.pinned.checked.prog.wantsStandIn t = false := by
  obtain rfl : f = 3 := Option.some.inj ((show Tryd.prog.funcNamed "muniment/munimentlaw2.ValReads" = some 3 by kernel_rfl).symm.trans hf) |>.symm
  obtain rfl : fn = Tryd.f3 := (Option.some.inj (Tryd.func3.symm.trans hfn)).symm
  refine ⟨by kernel_rfl, fun j t ht => ?_⟩
  rw [Tryd.params3] at ht
  obtain rfl : t = 22 := by simpa using Array.mem_of_getElem? ht
  exact (show Tryd.prog.wantsStandIn 22 = false by kernel_rfl)

/-- The tied card of ValReads. -/
theorem reads_card : Rows.ValReadsCardSaid :=
  Claim7.holds_tied_plain_at .later [] _ _ _ _ reads_said (fun _ h => by cases h) (by kernel_rfl) (fun _ h => by cases h) valReads_row_tie rfl ⟨rfl, rfl⟩ (by kernel_rfl) rfl reads_plain (by kernel_rfl)
end Go.Proofs.YtkgjfkpabdlgbaaDoor
